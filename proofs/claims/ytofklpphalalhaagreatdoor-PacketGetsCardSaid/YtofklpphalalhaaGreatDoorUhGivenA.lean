/- The document's Get, walked by hand. Conditions: texts of at most 1000000000 bytes. -/
import Derived.Test.YtofklpphalalhaaGreatDoorUhJ1
import Derived.Test.YtofklpphalalhaaGreatDoorUhJ33
import Derived.Test.YtofklpphalalhaaGreatDoorUhJ17
import Derived.Test.YtofklpphalalhaaGreatDoorUhEvT
namespace Go.Proofs.YtofklpphalalhaaGreatDoor
set_option linter.unusedVariables false
set_option linter.unusedSimpArgs false
open Go.RowKit Go.Proofs.YtofklpphalalhaaGreatDoor.PAll Go.Proofs.YtofklpphalalhaaGreatDoorW.PrintWords Go.Proofs.YtofklpphalalhaaGreatDoorW.PrintLast Go.Proofs.YtofklpphalalhaaGreatDoorW.PrintMore
namespace Rq
open Rr (St gi gu gt Ok)
theorem gi_val (s : ByteArray) (p : Int) : InI (gi s p).1 := by
 have h := (Evs.getU_lt s.data.toList p).1
 show InI (Pk.zag (Pk.getU s.data.toList p).1)
 unfold InI Pk.zag
 split <;> omega
theorem num_val (s : ByteArray) (st : St) : InI (num s st).1 := by
 unfold num
 split
 ·exact gi_val s st.p
 ·show InI 0
  exact ⟨by decide, by decide⟩
theorem nums_eq5 {s : ByteArray} {st : St} {a b c d e : Int × St} (h1 : num s st = a) (h2 : num s a.2 = b) (h3 : num s b.2 = c) (h4 : num s c.2 = d) (h5 : num s d.2 = e) : nums s 5 st = ([a.1, b.1, c.1, d.1, e.1], e.2) := by
 simp only [nums, h1, h2, h3, h4, h5]; rfl
theorem nums_eq7 {s : ByteArray} {st : St} {a b c d e f g : Int × St} (h1 : num s st = a) (h2 : num s a.2 = b) (h3 : num s b.2 = c) (h4 : num s c.2 = d) (h5 : num s d.2 = e) (h6 : num s e.2 = f) (h7 : num s f.2 = g) : nums s 7 st = ([a.1, b.1, c.1, d.1, e.1, f.1, g.1], g.2) := by
 simp only [nums, h1, h2, h3, h4, h5, h6, h7]; rfl
theorem nodesN_ok {s : ByteArray} : ∀ (n : Nat) (l : List S71) (st : St), (∀ d ∈ l, NodeOk d) → ∀ d ∈ (nodesN s n l st).1, NodeOk d
  | 0, l, st, h => h
  | n + 1, l, st, h => by
    unfold nodesN
    split
    · refine nodesN_ok n _ _ (fun d hd => ?_)
      rcases List.mem_append.1 hd with hd | hd
      · exact h d hd
      · rw [List.mem_singleton.1 hd, nums_eq7 rfl rfl rfl rfl rfl rfl rfl]
        exact ⟨num_val _ _, num_val _ _, num_val _ _, num_val _ _, num_val _ _, num_val _ _, num_val _ _⟩
    · exact h
theorem nodesN_len {s : ByteArray} : ∀ (n : Nat) (l : List S71) (st : St), (nodesN s n l st).1.length ≤ l.length + n
  | 0, l, st => Nat.le_refl _
  | n + 1, l, st => by
    unfold nodesN
    split
    · have := nodesN_len (s := s) n (l ++ [Rr.nodeOf (nums s 7 st).1]) (nums s 7 st).2
      rw [List.length_append, List.length_singleton] at this; omega
    · simp
theorem listN_len {s : ByteArray} : ∀ (n : Nat) (l : List Int) (st : St), (listN s n l st).1.length ≤ l.length + n
  | 0, l, st => Nat.le_refl _
  | n + 1, l, st => by
    unfold listN
    split
    · have := listN_len (s := s) n (l ++ [(num s st).1]) (num s st).2
      rw [List.length_append, List.length_singleton] at this; omega
    · simp
end Rq
/-- What Get has: the reader, and the instance's block, with rows of its own. -/
def QS (W0 W : World) (g xb : Nat) (t : ByteArray) (st : Rr.St) (x : Cn.In) (v6 v7 : Value) : Prop :=
 RQ W0 W g t st ∧ W.heap[xb]? = some (yB x v6 v7) ∧ W0.heap.size ≤ xb ∧ W.ownsRow W0.heap.size 128 7 v6 x.nodes.length (x.nodes.flatMap ncs) ∧ W.ownsRow W0.heap.size 3 1 v7 x.mx.length (x.mx.flatMap ic)
theorem own128_ne {w : World} {base n B T : Nat} {v : Value} {xs : List Value} {cs : Array Value} {fr : Nat × Nat} (hown : w.ownsRow base 128 7 v n xs) (hb : w.heap[B]? = some (.cells cs T fr)) (hT : T ≠ 128) : v.ownBlock ≠ some B := by
 rcases hown.2 with ⟨rfl, _⟩ | ⟨g, cap, cur, rfl, _, hg, _⟩
 ·simp [Value.ownBlock]
 ·intro h
  simp only [Value.ownBlock, Option.some.injEq] at h
  subst h
  rw [hg] at hb
  simp only [Option.some.injEq, Obj.cells.injEq] at hb
  exact hT hb.2.1.symm
section
variable {W0 W W' : World} {g xb : Nat} {t : ByteArray} {st st' : Rr.St} {x : Cn.In} {v6 v7 : Value}
theorem QS.ri (h : QS W0 W g xb t st x v6 v7) : RQ W0 W g t st := h.1
theorem QS.xbl (h : QS W0 W g xb t st x v6 v7) : W.heap[xb]? = some (yB x v6 v7) := h.2.1
theorem QS.o6 (h : QS W0 W g xb t st x v6 v7) : W.ownsRow W0.heap.size 128 7 v6 x.nodes.length (x.nodes.flatMap ncs) := h.2.2.2.1
theorem QS.o7 (h : QS W0 W g xb t st x v6 v7) : W.ownsRow W0.heap.size 3 1 v7 x.mx.length (x.mx.flatMap ic) := h.2.2.2.2
theorem rqx_ne (h1 : RQ W0 W g t st) (h2 : W.heap[xb]? = some (yB x v6 v7)) : g ≠ xb := fun e => by
 have h1 := h1.blk
 rw [e, h2] at h1; simp [yB] at h1
theorem QS.ne (h : QS W0 W g xb t st x v6 v7) : g ≠ xb := rqx_ne h.ri h.xbl
theorem QS.step (h : QS W0 W g xb t st x v6 v7) (hr : RQ W0 W' g t st') (hk : KeepBut W W' g none) : QS W0 W' g xb t st' x v6 v7 :=
 ⟨hr, (hk.2 xb (Array.getElem?_eq_some_iff.1 h.xbl).1 (fun e => h.ne e.symm) (by simp)).trans h.xbl, h.2.2.1, hk.own h.o6 (own128_ne h.o6 h.ri.blk (by decide)) (by cases hb : v6.ownBlock <;> simp), hk.own h.o7 (own3_ne h.o7 h.ri.blk (by decide)) (by cases hb : v7.ownBlock <;> simp)⟩
theorem QS.below (h : QS W0 W g xb t st x v6 v7) (hb : Below W.heap.size W W') : QS W0 W' g xb t st x v6 v7 := h.step (h.ri.below hb) (KeepBut.of_below hb g none)
theorem QS.cell (h : QS W0 W g xb t st x v6 v7) (j : Nat) (v : Value) (hj : (#[Value.string x.nm, .int .i64 x.kind, .int .i64 x.metric, .int .i64 x.scale, .int .i64 x.cap, .int .i64 x.fleet, v6, v7])[j]? = some v) : W.cell? ⟨xb, j, none⟩ = some v := by
 rw [Lib.cell_of_heap h.xbl]; exact hj
theorem QS.fz (h : QS W0 W g xb t st x v6 v7) (j : Nat) : W.frozen? ⟨xb, j, none⟩ = false := Lib.frozen_of_heap h.xbl j
theorem QS.far {nb j : Nat} {u : Value} (h : QS W0 W g xb t st x v6 v7) (hg : g ≠ nb) (hx : xb ≠ nb) (h0 : W0.heap.size ≤ nb) (h6 : v6.ownBlock ≠ some nb) (h7 : v7.ownBlock ≠ some nb) : QS W0 (W.setCell ⟨nb, j, none⟩ u) g xb t st x v6 v7 :=
 ⟨h.ri.setB hg h0 u, (Below.heap_setCell W ⟨nb, j, none⟩ u xb hx).trans h.xbl, h.2.2.1, h.o6.kept (grown_set W nb j u) (.inr h6), h.o7.kept (grown_set W nb j u) (.inr h7)⟩
/-- A field is written: the block, whatever else. -/
theorem QS.put (hr : RQ W0 W g t st) (hxb : W.heap[xb]? = some (yB x v6 v7)) (h0 : W0.heap.size ≤ xb) (j : Nat) (u : Value) {x' : Cn.In} {v6' v7' : Value} (hx : (#[Value.string x.nm, .int .i64 x.kind, .int .i64 x.metric, .int .i64 x.scale, .int .i64 x.cap, .int .i64 x.fleet, v6, v7]).setIfInBounds j u = #[Value.string x'.nm, .int .i64 x'.kind, .int .i64 x'.metric, .int .i64 x'.scale, .int .i64 x'.cap, .int .i64 x'.fleet, v6', v7'])
  (h6 : W.ownsRow W0.heap.size 128 7 v6' x'.nodes.length (x'.nodes.flatMap ncs)) (h7 : W.ownsRow W0.heap.size 3 1 v7' x'.mx.length (x'.mx.flatMap ic)) : QS W0 (W.setCell ⟨xb, j, none⟩ u) g xb t st x' v6' v7' := by
 have g1 := blk_put hxb j u hx
 refine ⟨hr.setB (rqx_ne hr hxb) h0 u, g1, h0, h6.kept (grown_set W xb j u) (.inr (own128_ne h6 hxb (by decide))), h7.kept (grown_set W xb j u) (.inr (own3_ne h7 hxb (by decide)))⟩
/-- append of one node to a row of one's own. -/
theorem wpList_nodes2 {W : World} {ops : Array Oper} {rest : List Oper} {o : Oper} {a : Act} {Q : Exit → Act → World → Prop} {base : Nat} {v : Value} {l : List S71} (hown : W.ownsRow base 128 7 v l.length (l.flatMap ncs)) (hlen : l.length ≤ 1000000000) (hbase : base ≤ W.heap.size) (d : S71) (hgd : o.guard = none) (s y : Operand)
  (ho : o.op = .call { callee := .builtin .append, args := #[s, y], argTypes := #[49, 49] }) (hs : a.eval s = v) (hy : a.eval y = .slice (some ⟨W.heap.size, 0, none⟩) 1 1)
  (hk : ∀ v' w', w'.ownsRow base 128 7 v' (l ++ [d]).length ((l ++ [d]).flatMap ncs) → (W.alloc (.cells (ncs d).toArray 128)).grownBy w' v.ownBlock → wpList Tryz.prog ops Q rest (a.put o.dst v') w') : wpList Tryz.prog ops Q (o :: rest) a (W.alloc (.cells (ncs d).toArray 128)) := by
 obtain ⟨i0, hi, hz0, hz1, hz2⟩ := info_parts info128
 have hnew : (W.alloc (.cells (ncs d).toArray 128)).heap[W.heap.size]? = some (.cells (ncs d).toArray 128) := Array.getElem?_push_size
 have hown' := pw_own_below hown (below_one W (.cells (ncs d).toArray 128))
 refine wpList_append_own _ hgd s y 49 ho base 128 i0 _ 7 56 Tryz.underlying49 hi hz0 hz1 hz2 rfl (by decide) v l.length (l.flatMap ncs) hs hown' ⟨W.heap.size, 0, none⟩ 1 1 (ncs d) hy rfl (fun j u hu => ?_) (fun u hu => ?_) (by simp only [maxLen]; omega) (by omega) (by simp; omega) (fun v' w' ho' hg _ => ?_)
 ·have e : (⟨W.heap.size, 0, none⟩ : Addr).add j = ⟨W.heap.size, j, none⟩ := by rw [Addr.add_lit, Nat.zero_add]
  rw [e, Lib.cell_of_heap hnew, List.getElem?_toArray]; exact hu
 ·exact ncs_one [d] u (by simpa using hu)
 ·refine hk v' w' ?_ hg
  rw [List.flatMap_append, List.length_append]
  have e : [d].flatMap ncs = ncs d := by simp
  rw [e]
  exact ho'
end
theorem own_apart2 {w : World} {base base' e e' s s' n n' : Nat} {v v' : Value} {xs xs' : List Value} (h : w.ownsRow base e s v n xs) (h' : w.ownsRow base' e' s' v' n' xs') (hne : e ≠ e') : v.ownBlock = none ∨ v.ownBlock ≠ v'.ownBlock := by
 rcases h.2 with ⟨hv, _⟩ | ⟨g, cap, cur, hv, _, hg, _⟩
 ·exact .inl (by rw [hv]; rfl)
 ·right
  rcases h'.2 with ⟨hv', _⟩ | ⟨g', cap', cur', hv', _, hg', _⟩
  ·rw [hv, hv']; simp [Value.ownBlock]
  ·rw [hv, hv']
   simp only [Value.ownBlock, ne_eq, Option.some.injEq]
   intro e0
   subst e0
   rw [hg] at hg'
   simp only [Option.some.injEq, Obj.cells.injEq] at hg'
   exact hne hg'.2.1
theorem ncs_rn (l : List S71) : (l.map rn).flatMap (fun d : S128 => ([.int .i64 d.f0, .int .i64 d.f1, .int .i64 d.f2, .int .i64 d.f3, .int .i64 d.f4, .int .i64 d.f5, .int .i64 d.f6] : List Value)) = l.flatMap ncs := by
 rw [List.flatMap_map]; rfl
theorem R128_of {w : World} {base n : Nat} {v : Value} {l : List S71} (h : w.ownsRow base 128 7 v n (l.flatMap ncs)) : Kd.R k128 128 w base (fun _ => True) v (l.map rn) := by
 rw [← ncs_rn] at h
 exact R_of_rows (K := k128) (enc := fun d : S128 => [.int .i64 d.f0, .int .i64 d.f1, .int .i64 d.f2, .int .i64 d.f3, .int .i64 d.f4, .int .i64 d.f5, .int .i64 d.f6]) (fun w b o x => k128_mkM w b o x) (fun _ => rfl) (by decide) h
theorem told2_walk (x : Cn.In) (A6 A7 : Option Addr) (c6 c7 : Nat) (w : World) (hs : x.nm.size ≤ 1000000000) (hn : x.nodes.length ≤ 1000000000) (hm : x.mx.length ≤ 1000000000) (ho : ∀ d ∈ x.nodes, NodeOk d) (hc6 : x.nodes.length ≤ c6) (hc7 : x.mx.length ≤ c7) (hC6 : Kd.C k128 w A6 x.nodes.length (x.nodes.map rn)) (hC7 : Kd.C (Kd.int .i64) w A7 x.mx.length x.mx) :
  Calls Tryz.prog 102 #[.agg #[.string x.nm, .int .i64 x.kind, .int .i64 x.metric, .int .i64 x.scale, .int .i64 x.cap, .int .i64 x.fleet, .slice A6 x.nodes.length c6, .slice A7 x.mx.length c7]] w fun e w' => ∃ v6 v7 v8 : Value, e = .returned (.tuple #[.agg #[.string (Cn.told x).1.nm, .int .i64 (Cn.told x).1.kind, .int .i64 (Cn.told x).1.metric, .int .i64 (Cn.told x).1.scale, .int .i64 (Cn.told x).1.cap, .int .i64 (Cn.told x).1.fleet, v6, v7], v8]) ∧ Kd.R k128 128 w' w.heap.size (fun _ => True) v6 ((Cn.told x).1.nodes.map rn) ∧ Kd.R (Kd.int .i64) 3 w' w.heap.size (fun _ => True) v7 (Cn.told x).1.mx ∧ Kd.R k38 38 w' w.heap.size (fun _ => True) v8 ((Cn.told x).2.map toS) ∧ Below w.heap.size w w' := by
 obtain ⟨k, hk⟩ := (Evs.refTold x hs hn hm ho).rounds
 have hl : (x.nodes.map rn).length = x.nodes.length := List.length_map _
 have h := entrepotref15_Told.calls k x.nm x.kind x.metric x.scale x.cap x.fleet A6 c6 (x.nodes.map rn) A7 c7 x.mx _ _ _ _ _ _ _ _ _ w (by rw [hl]; exact hC6) (by rw [hl]; exact hc6) hC7 hc7 hk
 rw [hl] at h
 exact h
/-- Behind the error's branch: the zero instance, and the diagnostic. -/
def ER2 (w W12 : World) (rb n : Nat) (fe : Rr.St) (w' : World) : Prop := w'.heap[rb]? = some (.cells #[.string ⟨#[]⟩, .int .i64 0, .int .i64 0, .int .i64 0, .int .i64 0, .int .i64 0, .slice none 0 0, .slice none 0 0] 51) ∧ w'.heap[n]? = some (.cells #[.int .i64 fe.a, .int .i64 fe.c] 38) ∧ Below w.heap.size w w' ∧ w.heap.size ≤ n
/-- What Get answers: an instance of the document, and diagnostics. -/
def In2R (w : World) (base : Nat) (v : Value) (x : Cn.In) : Prop := ∃ v6 v7, v = .agg #[.string x.nm, .int .i64 x.kind, .int .i64 x.metric, .int .i64 x.scale, .int .i64 x.cap, .int .i64 x.fleet, v6, v7] ∧ Kd.R k128 128 w base (fun _ => True) v6 (x.nodes.map rn) ∧ Kd.R (Kd.int .i64) 3 w base (fun _ => True) v7 x.mx
set_option maxRecDepth 100000 in
set_option maxHeartbeats 32000000 in
theorem get2_walk (s : ByteArray) (hs : s.size ≤ 1000000000) (w : World) : Calls Tryz.prog 83 #[.string s] w fun e w' => ∃ v vl, e = .returned (.tuple #[v, vl]) ∧ In2R w' w.heap.size v (Rq.get s).1 ∧ Kd.R k38 38 w' w.heap.size (fun _ => True) vl ((Rq.get s).2.map toS) ∧ Below w.heap.size w w' := by
 have hop := opened2_walk s (by omega) 1 (w.alloc (.cells #[.string ⟨#[]⟩, .int .i64 0, .int .i64 0, .int .i64 0, .int .i64 0, .int .i64 0, .slice none 0 0, .slice none 0 0] 51))
 have hots : (Rr.opT s).size ≤ 1000000000 := by
  have h : (Pk.opn s.data.toList).1.length ≤ s.data.toList.length := by
   unfold Pk.opn
   split
   ·simp
   ·split
    ·simp
    ·simp only [List.length_take]; omega
  unfold Rr.opT
  rw [Evs.S_size]
  rw [Evs.size_len] at h
  omega
 have hok0 := Rr.ok_opened s 1
 obtain ⟨F, hF⟩ : ∃ F, Rq.get s = F := ⟨_, rfl⟩
 rw [hF]
 unfold Rq.get Rq.readX Rq.readE Rq.readM Rq.readN Rq.readC Rq.readH Rq.readT at hF
 obtain ⟨t, ht⟩ : ∃ t, Rr.opT s = t := ⟨_, rfl⟩
 obtain ⟨st0, hst0⟩ : ∃ st, Rr.opened s 1 = st := ⟨_, rfl⟩
 rw [ht, hst0] at hop hok0
 rw [ht, hst0] at hF
 rw [ht] at hots
 have HOP := Aside0.mk hop
 have HF := Aside0.mk hF
 have HOK := Aside0.mk hok0
 clear hop hF hok0 ht hst0
 go_enter Tryz.func83, Tryz.ntmps83
 go_wp2_with fail
 refine HOP.out.mono ?_
 rintro e W1 ⟨g, rfl, h1⟩
 have HG0 := Aside0.mk (show QS _ (W1.alloc (yB Cn.zero (.slice none 0 0) (.slice none 0 0))) g W1.heap.size t st0 Cn.zero (.slice none 0 0) (.slice none 0 0) from ⟨h1.below (below_one _ _), Array.getElem?_push_size, h1.bl.size, World.ownsRow_nil _ _ _ _, World.ownsRow_nil _ _ _ _⟩)
 have HTX := Aside0.mk (HG0.out.ri.text (by omega))
 clear h1 HOP
 have hok1 := Rq.ok_text HOK.out
 have htl : (Rq.text t st0).1.size ≤ t.size := by
  have : ∀ p, (Rr.gt t p).1.size ≤ t.size := fun p => by
   show (Evs.S (Pk.getT t.data.toList p).1).size ≤ _
   rw [Evs.S_size]
   unfold Pk.getT
   split
   ·simp
   ·split
    ·simp
    ·simp only [List.length_take, List.length_drop]; rw [Evs.size_len]; omega
  unfold Rq.text
  split
  ·exact this _
  ·exact Nat.zero_le _
 obtain ⟨r1, hr1⟩ : ∃ r, Rq.text t st0 = r := ⟨_, rfl⟩
 rw [hr1] at HTX hok1 htl
 have HR1 := Aside0.mk hr1
 clear hr1
 go_wp2_with fail
 refine HTX.out.mono ?_
 rintro e W2 ⟨rfl, h2, k2⟩
 have HG1 := Aside0.mk (HG0.out.step h2 k2)
 have c0 := HG1.out.cell 0 _ rfl
 have f0 := HG1.out.fz 0
 have HG2 := Aside0.mk (QS.put HG1.out.ri HG1.out.xbl HG1.out.2.2.1 0 (.string r1.1) (x' := ⟨r1.1, 0, 0, 0, 0, 0, [], []⟩) rfl HG1.out.o6 HG1.out.o7)
 have HOK1 := Aside0.mk hok1
 clear h2 k2 HTX HG0 HG1 hok1
 obtain ⟨q1, hq1⟩ : ∃ r, Rq.num t r1.2 = r := ⟨_, rfl⟩
 have hnu := HG2.out.ri.num (by omega)
 rw [hq1] at hnu
 have HNU := Aside0.mk hnu
 have HQ1 := Aside0.mk hq1
 clear hnu hq1
 go_wp2_with fail
 refine HNU.out.mono ?_
 rintro e V1 ⟨rfl, h2, k2⟩
 have HGa := Aside0.mk (HG2.out.step h2 k2)
 clear c0 f0
 have cc := HGa.out.cell 1 _ rfl
 have ff := HGa.out.fz 1
 have HH1 := Aside0.mk (QS.put HGa.out.ri HGa.out.xbl HGa.out.2.2.1 1 (.int .i64 q1.1) (x' := ⟨r1.1, q1.1, 0, 0, 0, 0, [], []⟩) rfl HGa.out.o6 HGa.out.o7)
 clear h2 k2 HNU HGa HG2
 obtain ⟨q2, hq2⟩ : ∃ r, Rq.num t q1.2 = r := ⟨_, rfl⟩
 have hnu := HH1.out.ri.num (by omega)
 rw [hq2] at hnu
 have HNU := Aside0.mk hnu
 have HQ2 := Aside0.mk hq2
 clear hnu hq2
 go_wp2_with fail
 refine HNU.out.mono ?_
 rintro e V2 ⟨rfl, h2, k2⟩
 have HGa := Aside0.mk (HH1.out.step h2 k2)
 clear cc ff
 have cc := HGa.out.cell 2 _ rfl
 have ff := HGa.out.fz 2
 have HH2 := Aside0.mk (QS.put HGa.out.ri HGa.out.xbl HGa.out.2.2.1 2 (.int .i64 q2.1) (x' := ⟨r1.1, q1.1, q2.1, 0, 0, 0, [], []⟩) rfl HGa.out.o6 HGa.out.o7)
 clear h2 k2 HNU HGa HH1
 obtain ⟨q3, hq3⟩ : ∃ r, Rq.num t q2.2 = r := ⟨_, rfl⟩
 have hnu := HH2.out.ri.num (by omega)
 rw [hq3] at hnu
 have HNU := Aside0.mk hnu
 have HQ3 := Aside0.mk hq3
 clear hnu hq3
 go_wp2_with fail
 refine HNU.out.mono ?_
 rintro e V3 ⟨rfl, h2, k2⟩
 have HGa := Aside0.mk (HH2.out.step h2 k2)
 clear cc ff
 have cc := HGa.out.cell 3 _ rfl
 have ff := HGa.out.fz 3
 have HH3 := Aside0.mk (QS.put HGa.out.ri HGa.out.xbl HGa.out.2.2.1 3 (.int .i64 q3.1) (x' := ⟨r1.1, q1.1, q2.1, q3.1, 0, 0, [], []⟩) rfl HGa.out.o6 HGa.out.o7)
 clear h2 k2 HNU HGa HH2
 obtain ⟨q4, hq4⟩ : ∃ r, Rq.num t q3.2 = r := ⟨_, rfl⟩
 have hnu := HH3.out.ri.num (by omega)
 rw [hq4] at hnu
 have HNU := Aside0.mk hnu
 have HQ4 := Aside0.mk hq4
 clear hnu hq4
 go_wp2_with fail
 refine HNU.out.mono ?_
 rintro e V4 ⟨rfl, h2, k2⟩
 have HGa := Aside0.mk (HH3.out.step h2 k2)
 clear cc ff
 have cc := HGa.out.cell 4 _ rfl
 have ff := HGa.out.fz 4
 have HH4 := Aside0.mk (QS.put HGa.out.ri HGa.out.xbl HGa.out.2.2.1 4 (.int .i64 q4.1) (x' := ⟨r1.1, q1.1, q2.1, q3.1, q4.1, 0, [], []⟩) rfl HGa.out.o6 HGa.out.o7)
 clear h2 k2 HNU HGa HH3
 obtain ⟨q5, hq5⟩ : ∃ r, Rq.num t q4.2 = r := ⟨_, rfl⟩
 have hnu := HH4.out.ri.num (by omega)
 rw [hq5] at hnu
 have HNU := Aside0.mk hnu
 have HQ5 := Aside0.mk hq5
 clear hnu hq5
 go_wp2_with fail
 refine HNU.out.mono ?_
 rintro e V5 ⟨rfl, h2, k2⟩
 have HGa := Aside0.mk (HH4.out.step h2 k2)
 clear cc ff
 have cc := HGa.out.cell 5 _ rfl
 have ff := HGa.out.fz 5
 have HH5 := Aside0.mk (QS.put HGa.out.ri HGa.out.xbl HGa.out.2.2.1 5 (.int .i64 q5.1) (x' := ⟨r1.1, q1.1, q2.1, q3.1, q4.1, q5.1, [], []⟩) rfl HGa.out.o6 HGa.out.o7)
 clear h2 k2 HNU HGa HH4
 have HH := Aside0.mk (Rq.nums_eq5 HQ1.out HQ2.out HQ3.out HQ4.out HQ5.out)
 have hok5 := Rq.ok_nums HOK1.out 5
 rw [HH.out] at hok5
 have hHC := HH5.out.ri.count (by omega) (by have := hok5.2; simp only at this; omega)
 have hokc := Rq.ok_count hok5
 obtain ⟨cn, hcn⟩ : ∃ r, Rq.count t q5.2 = r := ⟨_, rfl⟩
 have hcl : cn.2.c = 0 → cn.1 ≤ t.size := by rw [← hcn]; exact Rq.count_le
 rw [hcn] at hHC hokc
 have HC := Aside0.mk hHC
 have HCN := Aside0.mk hcn
 have HCL := Aside0.mk hcl
 have HOKC := Aside0.mk hokc
 clear hcn hcl hHC hokc hok5 HQ1 HQ2 HQ3 HQ4 HQ5 HOK1
 go_wp2_with fail
 refine HC.out.mono ?_
 rintro e W5 ⟨rfl, h5, k5⟩
 have HG5 := Aside0.mk (HH5.out.step h5 k5)
 clear h5 k5 HC HH5 cc ff
 go_upto_block 0 with (fail)
 obtain ⟨R, hR⟩ : ∃ R, Rq.nodesN t cn.1.toNat [] cn.2 = R := ⟨_, rfl⟩
 have HR := Aside0.mk hR
 go_cut [] (fun wc => ∃ v6, QS (w.alloc (.cells #[.string ⟨#[]⟩, .int .i64 0, .int .i64 0, .int .i64 0, .int .i64 0, .int .i64 0, .slice none 0 0, .slice none 0 0] 51)) wc g W1.heap.size t R.2 ⟨r1.1, q1.1, q2.1, q3.1, q4.1, q5.1, R.1, []⟩ v6 (.slice none 0 0))
 case first =>
  clear hR
  go_wp2_with fail
  go_loopw [7] (fun v7 wr => ∃ (k : Nat) (l : List S71) (st' : Rr.St) (v6 : Value), k ≤ cn.1.toNat ∧ v7 = .int .i64 k ∧ l.length = k ∧ QS (w.alloc (.cells #[.string ⟨#[]⟩, .int .i64 0, .int .i64 0, .int .i64 0, .int .i64 0, .int .i64 0, .slice none 0 0, .slice none 0 0] 51)) wr g W1.heap.size t st' ⟨r1.1, q1.1, q2.1, q3.1, q4.1, q5.1, l, []⟩ v6 (.slice none 0 0) ∧ Rr.Ok t st' ∧ (st'.c = 0 → cn.1 ≤ t.size) ∧ Rq.nodesN t (cn.1.toNat - k) l st' = R) (fun v _ => cn.1.toNat - (intOf v).toNat)
  case atStart => exact ⟨0, [], cn.2, _, Nat.zero_le _, rfl, rfl, HG5.out, HOKC.out, HCL.out, HR.out⟩
  case round =>
   obtain ⟨k, l, st', v6, hk, rfl, hlk, hgs, hok, hcl, hN⟩ := hrel
   have HGS := Aside0.mk hgs
   have HN := Aside0.mk hN
   have HO := Aside0.mk hok
   have HCT := Aside0.mk hcl
   clear hgs hN HG5 HR hok HOKC hcl HCL
   by_cases hlt : (k : Int) < cn.1
   ·have HFN := Aside0.mk HGS.out.ri.fine
    have hsub : cn.1.toNat - k = (cn.1.toNat - (k + 1)) + 1 := by omega
    have hN := HN.out
    rw [hsub] at hN
    unfold Rq.nodesN at hN
    by_cases h0 : st'.c = 0
    ·have hb : (st'.c == 0) = true := by simpa using h0
     rw [hb] at HFN
     rw [if_pos h0] at hN
     have hn9 := HCT.out h0
     have HN2 := Aside0.mk hN
     clear hb hN hsub HN HCT
     go_wp2_with fail
     refine HFN.out.mono ?_
     rintro e W6 ⟨rfl, h6, k6⟩
     have HG6 := Aside0.mk (HGS.out.step h6 k6)
     clear h6 k6 HFN HGS
     have HNB : Aside0 (g ≠ W6.heap.size ∧ W1.heap.size ≠ W6.heap.size ∧ (w.alloc (.cells #[.string ⟨#[]⟩, .int .i64 0, .int .i64 0, .int .i64 0, .int .i64 0, .int .i64 0, .slice none 0 0, .slice none 0 0] 51)).heap.size ≤ W6.heap.size ∧ v6.ownBlock ≠ some W6.heap.size) := ⟨by
      have h1 := (Array.getElem?_eq_some_iff.1 HG6.out.ri.blk).1
      have h2 := (Array.getElem?_eq_some_iff.1 HG6.out.xbl).1
      exact ⟨by omega, by omega, HG6.out.ri.bl.size, fun e => by have := (HG6.out.o6.lt _ e).2; omega⟩⟩
     have HM0 := Aside0.mk (HG6.out.below (below_one W6 (.cells #[.int .i64 0, .int .i64 0, .int .i64 0, .int .i64 0, .int .i64 0, .int .i64 0, .int .i64 0] 128)))
     have HK0 : Aside0 ((W6.alloc (.cells #[.int .i64 0, .int .i64 0, .int .i64 0, .int .i64 0, .int .i64 0, .int .i64 0, .int .i64 0] 128)).heap[W6.heap.size]? = some (.cells #[.int .i64 0, .int .i64 0, .int .i64 0, .int .i64 0, .int .i64 0, .int .i64 0, .int .i64 0] 128)) := ⟨Array.getElem?_push_size⟩
     obtain ⟨d0, hd0⟩ : ∃ r, Rq.num t st' = r := ⟨_, rfl⟩
     have hnu := HM0.out.ri.num (by omega)
     rw [hd0] at hnu
     have HNU := Aside0.mk hnu
     have HD0 := Aside0.mk hd0
     clear hnu hd0
     go_wp2_with fail
     refine HNU.out.mono ?_
     rintro e U0 ⟨rfl, h2, k2⟩
     have HMa := Aside0.mk (HM0.out.step h2 k2)
     have hka := (k2.2 _ (Array.getElem?_eq_some_iff.1 HK0.out).1 (fun e => HNB.out.1 e.symm) (by simp)).trans HK0.out
     have cc : U0.cell? ⟨W6.heap.size, 0, none⟩ = some (.int .i64 0) := by rw [Lib.cell_of_heap hka]; rfl
     have ff := Lib.frozen_of_heap hka 0
     have HM1 := Aside0.mk (HMa.out.far (j := 0) (u := .int .i64 d0.1) HNB.out.1 HNB.out.2.1 HNB.out.2.2.1 HNB.out.2.2.2 (by simp [Value.ownBlock]))
     have HK1 : Aside0 ((U0.setCell ⟨W6.heap.size, 0, none⟩ (.int .i64 d0.1)).heap[W6.heap.size]? = some (.cells #[.int .i64 d0.1, .int .i64 0, .int .i64 0, .int .i64 0, .int .i64 0, .int .i64 0, .int .i64 0] 128)) := ⟨blk_put hka 0 (.int .i64 d0.1) rfl⟩
     clear h2 k2 HNU HMa hka HM0 HK0
     obtain ⟨d1, hd1⟩ : ∃ r, Rq.num t d0.2 = r := ⟨_, rfl⟩
     have hnu := HM1.out.ri.num (by omega)
     rw [hd1] at hnu
     have HNU := Aside0.mk hnu
     have HD1 := Aside0.mk hd1
     clear hnu hd1
     go_wp2_with fail
     refine HNU.out.mono ?_
     rintro e U1 ⟨rfl, h2, k2⟩
     have HMa := Aside0.mk (HM1.out.step h2 k2)
     have hka := (k2.2 _ (Array.getElem?_eq_some_iff.1 HK1.out).1 (fun e => HNB.out.1 e.symm) (by simp)).trans HK1.out
     clear cc ff
     have cc : U1.cell? ⟨W6.heap.size, 1, none⟩ = some (.int .i64 0) := by rw [Lib.cell_of_heap hka]; rfl
     have ff := Lib.frozen_of_heap hka 1
     have HM2 := Aside0.mk (HMa.out.far (j := 1) (u := .int .i64 d1.1) HNB.out.1 HNB.out.2.1 HNB.out.2.2.1 HNB.out.2.2.2 (by simp [Value.ownBlock]))
     have HK2 : Aside0 ((U1.setCell ⟨W6.heap.size, 1, none⟩ (.int .i64 d1.1)).heap[W6.heap.size]? = some (.cells #[.int .i64 d0.1, .int .i64 d1.1, .int .i64 0, .int .i64 0, .int .i64 0, .int .i64 0, .int .i64 0] 128)) := ⟨blk_put hka 1 (.int .i64 d1.1) rfl⟩
     clear h2 k2 HNU HMa hka HM1 HK1
     obtain ⟨d2, hd2⟩ : ∃ r, Rq.num t d1.2 = r := ⟨_, rfl⟩
     have hnu := HM2.out.ri.num (by omega)
     rw [hd2] at hnu
     have HNU := Aside0.mk hnu
     have HD2 := Aside0.mk hd2
     clear hnu hd2
     go_wp2_with fail
     refine HNU.out.mono ?_
     rintro e U2 ⟨rfl, h2, k2⟩
     have HMa := Aside0.mk (HM2.out.step h2 k2)
     have hka := (k2.2 _ (Array.getElem?_eq_some_iff.1 HK2.out).1 (fun e => HNB.out.1 e.symm) (by simp)).trans HK2.out
     clear cc ff
     have cc : U2.cell? ⟨W6.heap.size, 2, none⟩ = some (.int .i64 0) := by rw [Lib.cell_of_heap hka]; rfl
     have ff := Lib.frozen_of_heap hka 2
     have HM3 := Aside0.mk (HMa.out.far (j := 2) (u := .int .i64 d2.1) HNB.out.1 HNB.out.2.1 HNB.out.2.2.1 HNB.out.2.2.2 (by simp [Value.ownBlock]))
     have HK3 : Aside0 ((U2.setCell ⟨W6.heap.size, 2, none⟩ (.int .i64 d2.1)).heap[W6.heap.size]? = some (.cells #[.int .i64 d0.1, .int .i64 d1.1, .int .i64 d2.1, .int .i64 0, .int .i64 0, .int .i64 0, .int .i64 0] 128)) := ⟨blk_put hka 2 (.int .i64 d2.1) rfl⟩
     clear h2 k2 HNU HMa hka HM2 HK2
     obtain ⟨d3, hd3⟩ : ∃ r, Rq.num t d2.2 = r := ⟨_, rfl⟩
     have hnu := HM3.out.ri.num (by omega)
     rw [hd3] at hnu
     have HNU := Aside0.mk hnu
     have HD3 := Aside0.mk hd3
     clear hnu hd3
     go_wp2_with fail
     refine HNU.out.mono ?_
     rintro e U3 ⟨rfl, h2, k2⟩
     have HMa := Aside0.mk (HM3.out.step h2 k2)
     have hka := (k2.2 _ (Array.getElem?_eq_some_iff.1 HK3.out).1 (fun e => HNB.out.1 e.symm) (by simp)).trans HK3.out
     clear cc ff
     have cc : U3.cell? ⟨W6.heap.size, 3, none⟩ = some (.int .i64 0) := by rw [Lib.cell_of_heap hka]; rfl
     have ff := Lib.frozen_of_heap hka 3
     have HM4 := Aside0.mk (HMa.out.far (j := 3) (u := .int .i64 d3.1) HNB.out.1 HNB.out.2.1 HNB.out.2.2.1 HNB.out.2.2.2 (by simp [Value.ownBlock]))
     have HK4 : Aside0 ((U3.setCell ⟨W6.heap.size, 3, none⟩ (.int .i64 d3.1)).heap[W6.heap.size]? = some (.cells #[.int .i64 d0.1, .int .i64 d1.1, .int .i64 d2.1, .int .i64 d3.1, .int .i64 0, .int .i64 0, .int .i64 0] 128)) := ⟨blk_put hka 3 (.int .i64 d3.1) rfl⟩
     clear h2 k2 HNU HMa hka HM3 HK3
     obtain ⟨d4, hd4⟩ : ∃ r, Rq.num t d3.2 = r := ⟨_, rfl⟩
     have hnu := HM4.out.ri.num (by omega)
     rw [hd4] at hnu
     have HNU := Aside0.mk hnu
     have HD4 := Aside0.mk hd4
     clear hnu hd4
     go_wp2_with fail
     refine HNU.out.mono ?_
     rintro e U4 ⟨rfl, h2, k2⟩
     have HMa := Aside0.mk (HM4.out.step h2 k2)
     have hka := (k2.2 _ (Array.getElem?_eq_some_iff.1 HK4.out).1 (fun e => HNB.out.1 e.symm) (by simp)).trans HK4.out
     clear cc ff
     have cc : U4.cell? ⟨W6.heap.size, 4, none⟩ = some (.int .i64 0) := by rw [Lib.cell_of_heap hka]; rfl
     have ff := Lib.frozen_of_heap hka 4
     have HM5 := Aside0.mk (HMa.out.far (j := 4) (u := .int .i64 d4.1) HNB.out.1 HNB.out.2.1 HNB.out.2.2.1 HNB.out.2.2.2 (by simp [Value.ownBlock]))
     have HK5 : Aside0 ((U4.setCell ⟨W6.heap.size, 4, none⟩ (.int .i64 d4.1)).heap[W6.heap.size]? = some (.cells #[.int .i64 d0.1, .int .i64 d1.1, .int .i64 d2.1, .int .i64 d3.1, .int .i64 d4.1, .int .i64 0, .int .i64 0] 128)) := ⟨blk_put hka 4 (.int .i64 d4.1) rfl⟩
     clear h2 k2 HNU HMa hka HM4 HK4
     obtain ⟨d5, hd5⟩ : ∃ r, Rq.num t d4.2 = r := ⟨_, rfl⟩
     have hnu := HM5.out.ri.num (by omega)
     rw [hd5] at hnu
     have HNU := Aside0.mk hnu
     have HD5 := Aside0.mk hd5
     clear hnu hd5
     go_wp2_with fail
     refine HNU.out.mono ?_
     rintro e U5 ⟨rfl, h2, k2⟩
     have HMa := Aside0.mk (HM5.out.step h2 k2)
     have hka := (k2.2 _ (Array.getElem?_eq_some_iff.1 HK5.out).1 (fun e => HNB.out.1 e.symm) (by simp)).trans HK5.out
     clear cc ff
     have cc : U5.cell? ⟨W6.heap.size, 5, none⟩ = some (.int .i64 0) := by rw [Lib.cell_of_heap hka]; rfl
     have ff := Lib.frozen_of_heap hka 5
     have HM6 := Aside0.mk (HMa.out.far (j := 5) (u := .int .i64 d5.1) HNB.out.1 HNB.out.2.1 HNB.out.2.2.1 HNB.out.2.2.2 (by simp [Value.ownBlock]))
     have HK6 : Aside0 ((U5.setCell ⟨W6.heap.size, 5, none⟩ (.int .i64 d5.1)).heap[W6.heap.size]? = some (.cells #[.int .i64 d0.1, .int .i64 d1.1, .int .i64 d2.1, .int .i64 d3.1, .int .i64 d4.1, .int .i64 d5.1, .int .i64 0] 128)) := ⟨blk_put hka 5 (.int .i64 d5.1) rfl⟩
     clear h2 k2 HNU HMa hka HM5 HK5
     obtain ⟨d6, hd6⟩ : ∃ r, Rq.num t d5.2 = r := ⟨_, rfl⟩
     have hnu := HM6.out.ri.num (by omega)
     rw [hd6] at hnu
     have HNU := Aside0.mk hnu
     have HD6 := Aside0.mk hd6
     clear hnu hd6
     go_wp2_with fail
     refine HNU.out.mono ?_
     rintro e U6 ⟨rfl, h2, k2⟩
     have HMa := Aside0.mk (HM6.out.step h2 k2)
     have hka := (k2.2 _ (Array.getElem?_eq_some_iff.1 HK6.out).1 (fun e => HNB.out.1 e.symm) (by simp)).trans HK6.out
     clear cc ff
     have cc : U6.cell? ⟨W6.heap.size, 6, none⟩ = some (.int .i64 0) := by rw [Lib.cell_of_heap hka]; rfl
     have ff := Lib.frozen_of_heap hka 6
     have HM7 := Aside0.mk (HMa.out.far (j := 6) (u := .int .i64 d6.1) HNB.out.1 HNB.out.2.1 HNB.out.2.2.1 HNB.out.2.2.2 (by simp [Value.ownBlock]))
     have HK7 : Aside0 ((U6.setCell ⟨W6.heap.size, 6, none⟩ (.int .i64 d6.1)).heap[W6.heap.size]? = some (.cells #[.int .i64 d0.1, .int .i64 d1.1, .int .i64 d2.1, .int .i64 d3.1, .int .i64 d4.1, .int .i64 d5.1, .int .i64 d6.1] 128)) := ⟨blk_put hka 6 (.int .i64 d6.1) rfl⟩
     clear h2 k2 HNU HMa hka HM6 HK6
     have hne7 := Rq.nums_eq7 HD0.out HD1.out HD2.out HD3.out HD4.out HD5.out HD6.out
     have hN := HN2.out
     have hok7 := Rq.ok_nums HO.out 7
     rw [hne7] at hN hok7
     have HN3 := Aside0.mk hN
     have HOK7 := Aside0.mk hok7
     clear hne7 hN hok7 HN2 HD0 HD1 HD2 HD3 HD4 HD5 HD6 HO
     obtain ⟨d, hd⟩ : ∃ d, Rr.nodeOf [d0.1, d1.1, d2.1, d3.1, d4.1, d5.1, d6.1] = d := ⟨_, rfl⟩
     obtain ⟨W8, hW8⟩ : ∃ W8, U6.setCell ⟨W6.heap.size, 6, none⟩ (.int .i64 d6.1) = W8 := ⟨_, rfl⟩
     have hblk : W8.heap[W6.heap.size]? = some (.cells (ncs d).toArray 128) := by rw [← hW8, ← hd]; exact HK7.out
     have hq8 : QS (w.alloc (.cells #[.string ⟨#[]⟩, .int .i64 0, .int .i64 0, .int .i64 0, .int .i64 0, .int .i64 0, .slice none 0 0, .slice none 0 0] 51)) W8 g W1.heap.size t d6.2 ⟨r1.1, q1.1, q2.1, q3.1, q4.1, q5.1, l, []⟩ v6 (.slice none 0 0) := by rw [← hW8]; exact HM7.out
     have HG8 := Aside0.mk hq8
     have hN := HN3.out
     simp only [hd] at hN
     replace HN3 := Aside0.mk hN
     have HUE : Aside0 (U6.setCell ⟨W6.heap.size, 6, none⟩ (.int .i64 d6.1) = W8) := ⟨hW8⟩
     clear hN hd hW8 hq8 HM7 HK7
     go_upto_region 21 with (fail)
     rw [HUE.out]
     clear cc ff HUE
     obtain ⟨y0, y1, y2, y3, y4, y5, y6⟩ : W8.cell? ⟨W6.heap.size, 0, none⟩ = some (.int .i64 d.f0) ∧ W8.cell? ⟨W6.heap.size, 1, none⟩ = some (.int .i64 d.f1) ∧ W8.cell? ⟨W6.heap.size, 2, none⟩ = some (.int .i64 d.f2) ∧ W8.cell? ⟨W6.heap.size, 3, none⟩ = some (.int .i64 d.f3) ∧ W8.cell? ⟨W6.heap.size, 4, none⟩ = some (.int .i64 d.f4) ∧ W8.cell? ⟨W6.heap.size, 5, none⟩ = some (.int .i64 d.f5) ∧ W8.cell? ⟨W6.heap.size, 6, none⟩ = some (.int .i64 d.f6) := by
      refine ⟨?_, ?_, ?_, ?_, ?_, ?_, ?_⟩ <;> (rw [Lib.cell_of_heap hblk]; rfl)
     have c6 := HG8.out.cell 6 _ rfl
     have hll : l.length ≤ 1000000000 := by omega
     clear hblk
     go_wp2_with (at_builtin; refine wpList_nodes2 HG8.out.o6 hll HG8.out.ri.bl.size d rfl _ _ rfl rfl rfl ?_)
     intro v' W9 ho9 hg9
     have ho9' : W9.ownsRow (w.alloc (.cells #[.string ⟨#[]⟩, .int .i64 0, .int .i64 0, .int .i64 0, .int .i64 0, .int .i64 0, .slice none 0 0, .slice none 0 0] 51)).heap.size 128 7 v' (k + 1) ((l ++ [d]).flatMap ncs) := by simpa [hlk] using ho9
     obtain ⟨g', cap', rfl⟩ := own_form ho9'
     have hal := HG8.out.below (below_one W8 (.cells (ncs d).toArray 128))
     have hi9 : RQ (w.alloc (.cells #[.string ⟨#[]⟩, .int .i64 0, .int .i64 0, .int .i64 0, .int .i64 0, .int .i64 0, .slice none 0 0, .slice none 0 0] 51)) W9 g t d6.2 := hal.ri.grown hg9 (fun e => own128_ne HG8.out.o6 HG8.out.ri.blk (by decide) e.symm) (fun k hk => (HG8.out.o6.lt k hk).1)
     have hx9 : W9.heap[W1.heap.size]? = some (yB ⟨r1.1, q1.1, q2.1, q3.1, q4.1, q5.1, l, []⟩ v6 (.slice none 0 0)) := (hg9.block _ (Array.getElem?_eq_some_iff.1 hal.xbl).1 (fun e => own128_ne HG8.out.o6 HG8.out.xbl (by decide) e.symm)).trans hal.xbl
     have hc9 : W9.cell? ⟨W1.heap.size, 6, none⟩ = some v6 := by rw [Lib.cell_of_heap hx9]; rfl
     have hf9 := Lib.frozen_of_heap hx9 6
     have HG9 := Aside0.mk (QS.put hi9 hx9 HG8.out.2.2.1 6 _ (x' := ⟨r1.1, q1.1, q2.1, q3.1, q4.1, q5.1, l ++ [d], []⟩) (v6' := .slice (some ⟨g', 0, none⟩) (k + 1) cap') (v7' := .slice none 0 0) rfl (by rw [List.length_append, hlk]; exact ho9') (World.ownsRow_nil _ _ _ _))
     clear ho9 ho9' hg9 hal hi9 hx9 HG8 y0 y1 y2 y3 y4 y5 y6 c6 HNB
     go_wp2_with fail
     go_roundw
     case rel => exact ⟨k + 1, l ++ [d], d6.2, _, by omega, by go_num, by rw [List.length_append, hlk]; rfl, HG9.out, HOK7.out, fun _ => hn9, HN3.out⟩
     case measure => simp [intOf]; omega
    ·have hb : (st'.c == 0) = false := by simpa using h0
     rw [hb] at HFN
     rw [if_neg h0] at hN
     clear hb hsub HN
     go_wp2_with fail
     refine HFN.out.mono ?_
     rintro e W8 ⟨rfl, h8, k8⟩
     have HG8 := Aside0.mk (HGS.out.step h8 k8)
     have HNE := Aside0.mk hN
     clear h8 k8 HFN HGS hN
     go_wp2_with fail
     go_meet
     case rel => exact ⟨_, by rw [← HNE.out]; exact HG8.out⟩
   ·have hN := HN.out
    rw [show cn.1.toNat - k = 0 by omega] at hN
    have HNE := Aside0.mk hN
    clear hN HN
    go_wp2_with fail
    go_meet
    case rel => exact ⟨_, by rw [← HNE.out]; exact HGS.out⟩
 case rest =>
  obtain ⟨v6, hgs⟩ := hcut
  have HGR := Aside0.mk hgs
  have hrl : cn.2.c = 0 → R.1.length ≤ 1000000000 := fun h => by
   have h1 := HCL.out h
   rw [← hR]
   have := Rq.nodesN_len (s := t) cn.1.toNat [] cn.2
   simp at this; omega
  have hrn : R.1.length ≤ 1000000000 := by
   by_cases h : cn.2.c = 0
   ·exact hrl h
   ·rw [← hR]
    cases cn.1.toNat with
    | zero => simp [Rq.nodesN]
    | succ m => unfold Rq.nodesN; rw [if_neg h]; simp
  have hro : ∀ d ∈ R.1, NodeOk d := by rw [← hR]; exact Rq.nodesN_ok _ _ _ (fun d hd => by simp at hd)
  have hokr := Rq.ok_nodesN cn.1.toNat [] HOKC.out
  rw [hR] at hokr
  have HRO := Aside0.mk hro
  have HRR := Aside0.mk hR
  have hHC := HGR.out.ri.count (by omega) (by have := hokr.2; omega)
  have hokm := Rq.ok_count hokr
  obtain ⟨cm, hcm⟩ : ∃ r, Rq.count t R.2 = r := ⟨_, rfl⟩
  have hcl2 : cm.2.c = 0 → cm.1 ≤ t.size := by rw [← hcm]; exact Rq.count_le
  rw [hcm] at hHC hokm
  have HC := Aside0.mk hHC
  have HCM := Aside0.mk hcm
  have HCL2 := Aside0.mk hcl2
  have HOKM := Aside0.mk hokm
  clear hgs hrl hro hokr hR HR HG5 HCL HOKC hHC hcm hcl2 hokm
  go_wp2_with fail
  refine HC.out.mono ?_
  rintro e W10 ⟨rfl, h10, k10⟩
  have HG10 := Aside0.mk (HGR.out.step h10 k10)
  clear h10 k10 HC HGR
  go_upto_block 2 with (fail)
  obtain ⟨M, hM⟩ : ∃ M, Rq.listN t cm.1.toNat [] cm.2 = M := ⟨_, rfl⟩
  have HM := Aside0.mk hM
  go_cut [] (fun wc => ∃ v7, QS (w.alloc (.cells #[.string ⟨#[]⟩, .int .i64 0, .int .i64 0, .int .i64 0, .int .i64 0, .int .i64 0, .slice none 0 0, .slice none 0 0] 51)) wc g W1.heap.size t M.2 ⟨r1.1, q1.1, q2.1, q3.1, q4.1, q5.1, R.1, M.1⟩ v6 v7)
  case first =>
   clear hM
   go_wp2_with fail
   go_loopw [10] (fun v10 wr => ∃ (k : Nat) (l : List Int) (st' : Rr.St) (v7 : Value), k ≤ cm.1.toNat ∧ v10 = .int .i64 k ∧ l.length = k ∧ QS (w.alloc (.cells #[.string ⟨#[]⟩, .int .i64 0, .int .i64 0, .int .i64 0, .int .i64 0, .int .i64 0, .slice none 0 0, .slice none 0 0] 51)) wr g W1.heap.size t st' ⟨r1.1, q1.1, q2.1, q3.1, q4.1, q5.1, R.1, l⟩ v6 v7 ∧ Rr.Ok t st' ∧ (st'.c = 0 → cm.1 ≤ t.size) ∧ Rq.listN t (cm.1.toNat - k) l st' = M) (fun v _ => cm.1.toNat - (intOf v).toNat)
   case atStart => exact ⟨0, [], cm.2, _, Nat.zero_le _, rfl, rfl, HG10.out, HOKM.out, HCL2.out, HM.out⟩
   case round =>
    obtain ⟨k, l, st', v7, hk, rfl, hlk, hgs, hok, hcl, hN⟩ := hrel
    have HGS := Aside0.mk hgs
    have HN := Aside0.mk hN
    have HO := Aside0.mk hok
    have HCT := Aside0.mk hcl
    clear hgs hN HG10 HM hok HOKM hcl HCL2
    by_cases hlt : (k : Int) < cm.1
    ·have HFN := Aside0.mk HGS.out.ri.fine
     have hsub : cm.1.toNat - k = (cm.1.toNat - (k + 1)) + 1 := by omega
     have hN := HN.out
     rw [hsub] at hN
     unfold Rq.listN at hN
     by_cases h0 : st'.c = 0
     ·have hb : (st'.c == 0) = true := by simpa using h0
      rw [hb] at HFN
      rw [if_pos h0] at hN
      have hn9 := HCT.out h0
      have hokn := Rq.ok_num HO.out
      obtain ⟨q, hq⟩ : ∃ q, Rq.num t st' = q := ⟨_, rfl⟩
      rw [hq] at hN hokn
      have HN2 := Aside0.mk hN
      have HOKN := Aside0.mk hokn
      have HQ := Aside0.mk hq
      clear hb hN hsub HN HCT hokn hq
      go_wp2_with fail
      refine HFN.out.mono ?_
      rintro e W6 ⟨rfl, h6, k6⟩
      have HG6 := Aside0.mk (HGS.out.step h6 k6)
      have hnum := HG6.out.ri.num (by omega)
      rw [HQ.out] at hnum
      have HNU := Aside0.mk hnum
      clear h6 k6 HFN HGS hnum HQ
      go_wp2_with fail
      refine HNU.out.mono ?_
      rintro e W8 ⟨rfl, h8, k8⟩
      have HG8 := Aside0.mk (HG6.out.step h8 k8)
      have c7 := HG8.out.cell 7 _ rfl
      clear h8 k8 HNU HG6
      go_wp2_with (at_builtin; refine wpList_int HG8.out.o7 (by show l.length ≤ _; omega) HG8.out.ri.bl.size q.1 rfl _ _ rfl rfl rfl ?_)
      intro v' W9 ho9 hg9
      have ho9' : W9.ownsRow (w.alloc (.cells #[.string ⟨#[]⟩, .int .i64 0, .int .i64 0, .int .i64 0, .int .i64 0, .int .i64 0, .slice none 0 0, .slice none 0 0] 51)).heap.size 3 1 v' (k + 1) ((l ++ [q.1]).flatMap ic) := by simpa [hlk] using ho9
      obtain ⟨g', cap', rfl⟩ := own_form ho9'
      have hal := HG8.out.below (below_one W8 (.cells #[.int .i64 q.1] 3))
      have hi9 : RQ (w.alloc (.cells #[.string ⟨#[]⟩, .int .i64 0, .int .i64 0, .int .i64 0, .int .i64 0, .int .i64 0, .slice none 0 0, .slice none 0 0] 51)) W9 g t q.2 := hal.ri.grown hg9 (fun e => own3_ne HG8.out.o7 HG8.out.ri.blk (by decide) e.symm) (fun k hk => (HG8.out.o7.lt k hk).1)
      have hx9 : W9.heap[W1.heap.size]? = some (yB ⟨r1.1, q1.1, q2.1, q3.1, q4.1, q5.1, R.1, l⟩ v6 v7) := (hg9.block _ (Array.getElem?_eq_some_iff.1 hal.xbl).1 (fun e => own3_ne HG8.out.o7 HG8.out.xbl (by decide) e.symm)).trans hal.xbl
      have h6k : W9.ownsRow (w.alloc (.cells #[.string ⟨#[]⟩, .int .i64 0, .int .i64 0, .int .i64 0, .int .i64 0, .int .i64 0, .slice none 0 0, .slice none 0 0] 51)).heap.size 128 7 v6 R.1.length (R.1.flatMap ncs) := hal.o6.kept hg9 (own_apart2 hal.o6 hal.o7 (by decide))
      have hc9 : W9.cell? ⟨W1.heap.size, 7, none⟩ = some v7 := by rw [Lib.cell_of_heap hx9]; rfl
      have hf9 := Lib.frozen_of_heap hx9 7
      have HG9 := Aside0.mk (QS.put hi9 hx9 HG8.out.2.2.1 7 _ (x' := ⟨r1.1, q1.1, q2.1, q3.1, q4.1, q5.1, R.1, l ++ [q.1]⟩) (v6' := v6) (v7' := .slice (some ⟨g', 0, none⟩) (k + 1) cap') rfl h6k (by rw [List.length_append, hlk]; exact ho9'))
      clear ho9 ho9' hg9 hal hi9 hx9 HG8 h6k c7
      go_wp2_with fail
      go_roundw
      case rel => exact ⟨k + 1, l ++ [q.1], q.2, _, by omega, by go_num, by rw [List.length_append, hlk]; rfl, HG9.out, HOKN.out, fun _ => hn9, HN2.out⟩
      case measure => simp [intOf]; omega
     ·have hb : (st'.c == 0) = false := by simpa using h0
      rw [hb] at HFN
      rw [if_neg h0] at hN
      clear hb hsub HN
      go_wp2_with fail
      refine HFN.out.mono ?_
      rintro e W8 ⟨rfl, h8, k8⟩
      have HG8 := Aside0.mk (HGS.out.step h8 k8)
      have HNE := Aside0.mk hN
      clear h8 k8 HFN HGS hN
      go_wp2_with fail
      go_meet
      case rel => exact ⟨_, by rw [← HNE.out]; exact HG8.out⟩
    ·have hN := HN.out
     rw [show cm.1.toNat - k = 0 by omega] at hN
     have HNE := Aside0.mk hN
     clear hN HN
     go_wp2_with fail
     go_meet
     case rel => exact ⟨_, by rw [← HNE.out]; exact HGS.out⟩
  case rest =>
   obtain ⟨v7, hgs⟩ := hcut
   have HGT := Aside0.mk hgs
   have hmn : M.1.length ≤ 1000000000 := by
    rw [← hM]
    by_cases h : cm.2.c = 0
    ·have h1 := HCL2.out h
     have := Rq.listN_len (s := t) cm.1.toNat [] cm.2
     simp at this; omega
    ·cases cm.1.toNat with
     | zero => simp [Rq.listN]
     | succ m => unfold Rq.listN; rw [if_neg h]; simp
   have HE := Aside0.mk (end2_walk HGT.out.ri)
   have hFe := HF.out
   simp only [HR1.out, HH.out, HCN.out, HRR.out, Rq.list, HCM.out, hM, List.getD_cons_zero, List.getD_cons_succ] at hFe
   obtain ⟨fe, hfe⟩ : ∃ f, Rq.fin t M.2 = f := ⟨_, rfl⟩
   rw [hfe] at hFe HE
   have HFE := Aside0.mk hFe
   clear hgs hFe hfe hM HM HG10 HF HCL2 HOKM HR1 HH HCN HRR HCM
   go_wp2_with fail
   refine HE.out.mono ?_
   rintro e W11 ⟨rfl, h11, k11⟩
   have HG11 := Aside0.mk (HGT.out.step h11 k11)
   have HFN := Aside0.mk h11.fine
   clear h11 k11 HE HGT
   by_cases hf : fe.c = 0
   ·have hb : (fe.c == 0) = true := by simpa using hf
    rw [hb] at HFN
    clear hb
    go_wp2_with fail
    refine HFN.out.mono ?_
    rintro e W12 ⟨rfl, h12, k12⟩
    have HG12 := Aside0.mk (HG11.out.step h12 k12)
    clear h12 k12 HFN HG11
    have HZ0 : Aside0 (W12.heap[w.heap.size]? = some (.cells #[.string ⟨#[]⟩, .int .i64 0, .int .i64 0, .int .i64 0, .int .i64 0, .int .i64 0, .slice none 0 0, .slice none 0 0] 51)) := ⟨(HG12.out.ri.bl.block w.heap.size (by simp)).trans Array.getElem?_push_size⟩
    have HBW : Aside0 (Below w.heap.size w W12) := ⟨(below_one w _).trans (HG12.out.ri.bl.mono (by simp))⟩
    have hFe := HFE.out
    rw [if_pos hf] at hFe
    replace HFE := Aside0.mk hFe
    obtain ⟨A6, c6, e6, hl6, hC6⟩ := Kd.R_reads (R128_of HG12.out.o6)
    obtain ⟨A7, c7, e7, hl7, hC7⟩ := Kd.R_reads (R_of_rows (K := Kd.int .i64) (enc := ic) kint_M (fun _ => rfl) (by decide) HG12.out.o7)
    simp only [List.length_map] at e6 hl6 hC6
    subst e6
    subst e7
    have HTW := Aside0.mk (told2_walk ⟨r1.1, q1.1, q2.1, q3.1, q4.1, q5.1, R.1, M.1⟩ A6 A7 c6 c7 W12 (by show r1.1.size ≤ _; omega) hrn hmn HRO.out hl6 hl7 hC6 hC7)
    obtain ⟨d0, d1, d2, d3, d4, d5, d6, d7⟩ : W12.cell? ⟨W1.heap.size, 0, none⟩ = some (.string r1.1) ∧ W12.cell? ⟨W1.heap.size, 1, none⟩ = some (.int .i64 q1.1) ∧ W12.cell? ⟨W1.heap.size, 2, none⟩ = some (.int .i64 q2.1) ∧ W12.cell? ⟨W1.heap.size, 3, none⟩ = some (.int .i64 q3.1) ∧ W12.cell? ⟨W1.heap.size, 4, none⟩ = some (.int .i64 q4.1) ∧ W12.cell? ⟨W1.heap.size, 5, none⟩ = some (.int .i64 q5.1) ∧ W12.cell? ⟨W1.heap.size, 6, none⟩ = some (.slice A6 R.1.length c6) ∧ W12.cell? ⟨W1.heap.size, 7, none⟩ = some (.slice A7 M.1.length c7) := ⟨HG12.out.cell 0 _ rfl, HG12.out.cell 1 _ rfl, HG12.out.cell 2 _ rfl, HG12.out.cell 3 _ rfl, HG12.out.cell 4 _ rfl, HG12.out.cell 5 _ rfl, HG12.out.cell 6 _ rfl, HG12.out.cell 7 _ rfl⟩
    clear hl6 hl7 hC6 hC7 hFe hf
    go_wp2_with fail
    refine HTW.out.mono ?_
    rintro e W13 ⟨u6, u7, vl, rfl, hR6, hR7, hD, hb13⟩
    obtain ⟨y, hy⟩ : ∃ y, Cn.told ⟨r1.1, q1.1, q2.1, q3.1, q4.1, q5.1, R.1, M.1⟩ = y := ⟨_, rfl⟩
    rw [hy] at hR6 hR7 hD HFE ⊢
    obtain ⟨B6, p6, e6⟩ := Kd.R_slice hR6
    obtain ⟨B7, p7, e7⟩ := Kd.R_slice hR7
    obtain ⟨B8, p8, e8⟩ := Kd.R_slice hD
    rw [List.length_map] at e6 e8
    subst e6
    subst e7
    subst e8
    have HZ := Aside0.mk ((hb13.block _ (Array.getElem?_eq_some_iff.1 HZ0.out).1).trans HZ0.out)
    have HR6 := Aside0.mk hR6
    have HR7 := Aside0.mk hR7
    have HD := Aside0.mk hD
    have HB13 := Aside0.mk hb13
    clear hR6 hR7 hD hb13 HTW hy d0 d1 d2 d3 d4 d5 d6 d7 HG12 HZ0
    go_wp2_with (refine gate_ (.store 51 (.tmp 2) (.tmp 104)) rfl ?_; refine wpList_store_all rfl rfl 51 (.tmp 2) (.tmp 104) rfl HZ.out (by rfl) _ [.string y.1.nm, .int .i64 y.1.kind, .int .i64 y.1.metric, .int .i64 y.1.scale, .int .i64 y.1.cap, .int .i64 y.1.fleet, .slice B6 y.1.nodes.length p6, .slice B7 y.1.mx.length p7] (by rfl) rfl (by kernel_rfl) rfl (by intro q hq; simp only [List.mem_cons, List.not_mem_nil, or_false] at hq; rcases hq with rfl | rfl | rfl | rfl | rfl | rfl | rfl | rfl <;> rfl) ?_)
    intro w1 hb1 hg1
    go_wp2_with fail
    refine bodyPost_ret (results_ct rfl _ _ w.heap.size 51 #[.string y.1.nm, .int .i64 y.1.kind, .int .i64 y.1.metric, .int .i64 y.1.scale, .int .i64 y.1.cap, .int .i64 y.1.fleet, .slice B6 y.1.nodes.length p6, .slice B7 y.1.mx.length p7] (0, 0) _ rfl hb1 Tryz.underlying51 rfl (by kernel_rfl)) rfl ?_
    rw [← HFE.out]
    have s : ∀ k, (True ∧ k ≠ w.heap.size) → some k ≠ some w.heap.size := fun k hk e => hk.2 (by injection e)
    refine ⟨_, _, rfl, ⟨_, _, rfl, Kd.R_lower (Kd.R_mono (Kd.R_grown (Kd.R_types HR6.out HZ.out (by decide)) hg1 s) (fun _ _ => trivial)) HBW.out.size, Kd.R_lower (Kd.R_mono (Kd.R_grown (Kd.R_types HR7.out HZ.out (by decide)) hg1 s) (fun _ _ => trivial)) HBW.out.size⟩, Kd.R_lower (Kd.R_mono (Kd.R_grown (Kd.R_types HD.out HZ.out (by decide)) hg1 s) (fun _ _ => trivial)) HBW.out.size, (HBW.out.trans (HB13.out.mono HBW.out.size)).grown hg1 (Nat.le_trans HBW.out.size HB13.out.size) (by intro k hk; simp at hk; omega)⟩
   ·have hb : (fe.c == 0) = false := by simpa using hf
    rw [hb] at HFN
    clear hb
    go_wp2_with fail
    refine HFN.out.mono ?_
    rintro e W12 ⟨rfl, h12, k12⟩
    have HG12 := Aside0.mk (HG11.out.step h12 k12)
    clear h12 k12 HFN HG11
    have HZ0 : Aside0 (W12.heap[w.heap.size]? = some (.cells #[.string ⟨#[]⟩, .int .i64 0, .int .i64 0, .int .i64 0, .int .i64 0, .int .i64 0, .slice none 0 0, .slice none 0 0] 51)) := ⟨(HG12.out.ri.bl.block w.heap.size (by simp)).trans Array.getElem?_push_size⟩
    have HBW : Aside0 (Below w.heap.size w W12) := ⟨(below_one w _).trans (HG12.out.ri.bl.mono (by simp))⟩
    have hFe := HFE.out
    rw [if_neg hf] at hFe
    replace HFE := Aside0.mk hFe
    obtain ⟨c0, c1, c2, c3⟩ := HG12.out.ri.cells
    have hgl := (Array.getElem?_eq_some_iff.1 HG12.out.ri.blk).1
    have hge := HG12.out.ri.is.2
    have HGX : Aside0 (g < W12.drew.heap.size ∧ g ≠ w.heap.size) := ⟨hgl, by simp at hge; omega⟩
    have HGX2 : Aside0 (g < (W12.drew.alloc (.cells #[.int .i64 fe.a, .int .i64 fe.c] 38)).heap.size ∧ g ≠ w.heap.size) := ⟨by have : g < W12.drew.heap.size := hgl; simp at this ⊢; omega, HGX.out.2⟩
    have HCL : Aside0 ((∀ w1 : World, w1.heap[w.heap.size]? = some (.cells [.string ⟨#[]⟩, .int .i64 0, .int .i64 0, .int .i64 0, .int .i64 0, .int .i64 0, .slice none 0 0, .slice none 0 0].toArray 51 (0, 0)) → (W12.drew.alloc (.cells #[.int .i64 fe.a, .int .i64 fe.c] 38)).grownBy w1 (some w.heap.size) → ER2 w W12 w.heap.size W12.heap.size fe w1) ∧ (∀ w1 : World, w1.heap[w.heap.size]? = some (.cells [.string ⟨#[]⟩, .int .i64 0, .int .i64 0, .int .i64 0, .int .i64 0, .int .i64 0, .slice none 0 0, .slice none 0 0].toArray 51 (0, 0)) → W12.drew.grownBy w1 (some w.heap.size) → ER2 w W12 w.heap.size w1.heap.size fe (w1.alloc (.cells #[.int .i64 fe.a, .int .i64 fe.c] 38)))) := by
     have hws : w.heap.size < W12.heap.size := (Array.getElem?_eq_some_iff.1 HZ0.out).1
     refine ⟨⟨fun w1 h1 hg => ⟨h1, ?_, ?_, by omega⟩, fun w1 h1 hg => ⟨(Below.heap_alloc _ _ _ (Array.getElem?_eq_some_iff.1 h1).1).trans h1, Array.getElem?_push_size, ?_, by have := hg.size; simp at this; omega⟩⟩⟩
     ·rw [hg.block _ (by simp) (fun e => by injection e; omega)]
      exact Array.getElem?_push_size
     ·exact ((HBW.out.drew).trans ((below_one W12.drew _).mono HBW.out.size)).grown hg (by simp; omega) (fun k hk => by injection hk; omega)
     ·exact ((HBW.out.drew).grown hg (by simp; omega) (fun k hk => by injection hk; omega)).alloc (by have := hg.size; simp at this; omega) _
    clear hFe hf hgl hge
    go_wp2_with fail
    refine start_ (n := 8) (S := fun w' => w'.cell? ⟨g, 2, none⟩ = some (.int .i64 fe.a) ∧ w'.cell? ⟨g, 3, none⟩ = some (.int .i64 fe.c)) (ds := []) #[false, false, false, false, false, false, false, false] (by kernel_rfl) rfl rfl ⟨c2, c3⟩ (fun hHeld => ?_)
    refine pz (i := 0) (N := some 96) (bz 8 1) ?_
    refine pz (i := 1) (N := some 97) (bz 8 3) ?_
    refine pz (i := 2) (N := some 98) (bz 8 7) ?_
    refine pz (i := 3) (N := some 99) (bz 8 15) ?_
    refine tz (i := 4) (N := some 100) (bz 8 31) hHeld ?_
    refine join_ (σ := Nat) 1 (bz 8 127) (fun n => [(101, .slice (some ⟨n, 0, none⟩) 1 1)]) (fun n w' => ER2 w W12 w.heap.size n fe w') ?_ ?_
    rotate_left
    ·intro hCont
     refine two_ (i := 5) (j := 6) (Ni := some 101) (Nj := none) (bz 8 63) (bz 8 95) rfl rfl rfl rfl (by kernel_rfl) (by decide) (by decide) (fun K hK => ?_) (fun K hK => ?_)
     ·skip
      refine vz ?_
      refine hK.out _ _ ⟨cell_alloc c2, cell_alloc c3⟩ (fun hHeld => ?_)
      clear hK K
      refine nz (N := some 101) ?_
      refine one_ (i := 6) (N := none) (bz 8 127) rfl rfl (by kernel_rfl) (by decide) (fun K hK => ?_)
      refine step_store_all (by rfl) rfl 51 (.tmp 2) (.tmp 96) rfl (show (W12.drew.alloc (.cells #[.int .i64 fe.a, .int .i64 fe.c] 38)).heap[w.heap.size]? = _ from (Below.heap_alloc _ _ _ (Array.getElem?_eq_some_iff.1 HZ0.out).1).trans HZ0.out) (by rfl) _ [.string ⟨#[]⟩, .int .i64 0, .int .i64 0, .int .i64 0, .int .i64 0, .int .i64 0, .slice none 0 0, .slice none 0 0] (by rfl) rfl (by kernel_rfl) rfl (by intro q hq; simp only [List.mem_cons, List.not_mem_nil, or_false] at hq; rcases hq with rfl | rfl | rfl | rfl | rfl | rfl | rfl | rfl <;> rfl) ?_
      intro w1 hb1 hg1
      have k2 : w1.cell? ⟨g, 2, none⟩ = some (.int .i64 fe.a) := (grown_cell hg1 (HGX2.out)).trans (cell_alloc c2)
      have k3 : w1.cell? ⟨g, 3, none⟩ = some (.int .i64 fe.c) := (grown_cell hg1 (HGX2.out)).trans (cell_alloc c3)
      refine hK.out _ _ ⟨k2, k3⟩ (fun hHeld => ?_)
      clear hK K
      exact norm_ (by simp only [putAll, Act.put, List.setIfInBounds_toArray, List.set_cons_zero, List.set_cons_succ]) (hCont W12.heap.size _ (HCL.out.1 w1 hb1 hg1))
     ·skip
      refine step_store_all (by rfl) rfl 51 (.tmp 2) (.tmp 96) rfl HZ0.out (by rfl) _ [.string ⟨#[]⟩, .int .i64 0, .int .i64 0, .int .i64 0, .int .i64 0, .int .i64 0, .slice none 0 0, .slice none 0 0] (by rfl) rfl (by kernel_rfl) rfl (by intro q hq; simp only [List.mem_cons, List.not_mem_nil, or_false] at hq; rcases hq with rfl | rfl | rfl | rfl | rfl | rfl | rfl | rfl <;> rfl) ?_
      intro w1 hb1 hg1
      have k2 : w1.cell? ⟨g, 2, none⟩ = some (.int .i64 fe.a) := (grown_cell hg1 HGX.out).trans c2
      have k3 : w1.cell? ⟨g, 3, none⟩ = some (.int .i64 fe.c) := (grown_cell hg1 HGX.out).trans c3
      refine hK.out _ _ ⟨k2, k3⟩ (fun hHeld => ?_)
      clear hK K
      refine one_ (i := 5) (N := some 101) (bz 8 127) rfl rfl (by kernel_rfl) (by decide) (fun K hK => ?_)
      refine vz ?_
      refine hK.out _ _ ⟨cell_alloc k2, cell_alloc k3⟩ (fun hHeld => ?_)
      clear hK K
      refine nz (N := some 101) ?_
      exact norm_ (by simp only [putAll, Act.put, List.setIfInBounds_toArray, List.set_cons_zero, List.set_cons_succ]) (hCont w1.heap.size _ (HCL.out.2 w1 hb1 hg1))
    rintro nb w1 her
    have HER := Aside0.mk her
    clear her
    have hHeld : True := trivial
    refine norm_ (a' := ?_) ?_ ?_
    rotate_left
    ·simp only [putAll, Act.put, List.setIfInBounds_toArray, List.set_cons_zero, List.set_cons_succ]
     rfl
    refine pz (i := 7) (N := some 3) (bz 8 255) ?_
    refine done_ (by kernel_rfl) ?_
    go_wp2_with fail
    refine bodyPost_ret (results_ct rfl _ _ w.heap.size 51 #[.string ⟨#[]⟩, .int .i64 0, .int .i64 0, .int .i64 0, .int .i64 0, .int .i64 0, .slice none 0 0, .slice none 0 0] (0, 0) _ rfl HER.out.1 Tryz.underlying51 rfl (by kernel_rfl)) rfl ?_
    rw [← HFE.out]
    refine ⟨_, _, rfl, ⟨_, _, rfl, Kd.R_nil _ _ _ _ _, Kd.R_nil _ _ _ _ _⟩, ?_, HER.out.2.2.1⟩
    exact R_of_own (l := [(fe.a, fe.c)]) ⟨rfl, .inr ⟨nb, 1, _, rfl, HER.out.2.2.2, HER.out.2.1, Nat.le_refl 1, by decide, rfl, rfl⟩⟩
end Go.Proofs.YtofklpphalalhaaGreatDoor
