/- Texts of this claim, joined: GivenX, PlO. Each as it was, cut to what the claim uses. Conditions: each theorem's own. -/
import Derived.Test.YtofklpphalalhaaGreatDoorUhJ1
import Derived.Test.YtofklpphalalhaaGreatDoorUhJ20
import Derived.Deep.DeepCutAuto
import Derived.Deep.CutBlock
section
namespace Go.Proofs.YtofklpphalalhaaGreatDoor
set_option linter.unusedVariables false
set_option linter.unusedSimpArgs false
open Go.RowKit Go.Proofs.YtofklpphalalhaaGreatDoor.PAll Go.Proofs.YtofklpphalalhaaGreatDoorW.PrintWords Go.Proofs.YtofklpphalalhaaGreatDoorW.PrintLast Go.Proofs.YtofklpphalalhaaGreatDoorW.PrintMore
namespace Rr
def nodeOf (l : List Int) : S71 := ⟨l.getD 0 0, l.getD 1 0, l.getD 2 0, l.getD 3 0, l.getD 4 0, l.getD 5 0, l.getD 6 0⟩
def nodesN (s : ByteArray) : Nat → List S71 → St → List S71 × St
 | 0, l, st => (l, st)
 | n + 1, l, st => if (nums s 7 st).2.c = 0 then nodesN s n (l ++ [nodeOf (nums s 7 st).1]) (nums s 7 st).2 else (l, (nums s 7 st).2)
def readT (s : ByteArray) (st : St) := text s st
def readH (s : ByteArray) (st : St) := nums s 5 (readT s st).2
def readC (s : ByteArray) (st : St) := count s (readH s st).2
def readN (s : ByteArray) (st : St) := nodesN s (readC s st).1.toNat [] (readC s st).2
def readM (s : ByteArray) (st : St) := list s (readN s st).2
def readE (s : ByteArray) (st : St) := fin s (readM s st).2
def readX (s : ByteArray) (st : St) : Cn.In := ⟨(readT s st).1, (readH s st).1.getD 0 0, (readH s st).1.getD 1 0, (readH s st).1.getD 2 0, (readH s st).1.getD 3 0, (readH s st).1.getD 4 0, (readN s st).1, (readM s st).1⟩
def get (s : ByteArray) : Cn.In × List Dg.D :=
 if (readE (opT s) (opened s 1)).c = 0 then Cn.told (readX (opT s) (opened s 1)) else (Cn.zero, [((readE (opT s) (opened s 1)).a, (readE (opT s) (opened s 1)).c)])
theorem list5 (l : List Int) (h : l.length = 5) : l = [l.getD 0 0, l.getD 1 0, l.getD 2 0, l.getD 3 0, l.getD 4 0] := by
 match l, h with
 | [a, b, c, d, e], _ => rfl
theorem list7 (l : List Int) (h : l.length = 7) : l = [l.getD 0 0, l.getD 1 0, l.getD 2 0, l.getD 3 0, l.getD 4 0, l.getD 5 0, l.getD 6 0] := by
 match l, h with
 | [a, b, c, d, e, f, g], _ => rfl
theorem ok_nodesN {s : ByteArray} : ∀ (n : Nat) (l : List S71) (st : St), Ok s st → Ok s (nodesN s n l st).2
  | 0, _, _, h => h
  | n + 1, l, st, h => by
    unfold nodesN
    split
    · exact ok_nodesN n _ _ (ok_nums h 7)
    · exact ok_nums h 7
theorem nodesN_len (s : ByteArray) : ∀ (n : Nat) (l : List S71) (st : St), (nodesN s n l st).1.length ≤ l.length + n
  | 0, l, st => Nat.le_refl _
  | n + 1, l, st => by
    unfold nodesN
    split
    · have := nodesN_len s n (l ++ [nodeOf (nums s 7 st).1]) (nums s 7 st).2
      rw [List.length_append, List.length_singleton] at this; omega
    · simp
theorem listN_len (s : ByteArray) : ∀ (n : Nat) (l : List Int) (st : St), (listN s n l st).1.length ≤ l.length + n
  | 0, l, st => Nat.le_refl _
  | n + 1, l, st => by
    unfold listN
    split
    · have := listN_len s n (l ++ [(num s st).1]) (num s st).2
      rw [List.length_append, List.length_singleton] at this; omega
    · simp
theorem list_len {s : ByteArray} {st : St} (h : Ok s st) : (list s st).1.length ≤ s.size := by
 have h1 := listN_len s (count s st).1.toNat [] (count s st).2
 have h2 := count_le h
 unfold list
 simp at h1; omega
theorem text_len (s : ByteArray) (st : St) : (text s st).1.size ≤ s.size := by
 unfold text
 split
 ·split
  ·show (Evs.S (Pk.getT s.data.toList st.p).1).size ≤ _
   rw [Evs.S_size]
   unfold Pk.getT
   split
   ·simp
   ·split
    ·simp
    ·simp only [List.length_take, List.length_drop]; rw [Evs.size_len]; omega
  ·exact Nat.zero_le _
 ·exact Nat.zero_le _
end Rr
/-- What Get has: the reader, and the instance's block, with rows of its own. -/
def GS (W0 W : World) (g xb : Nat) (t : ByteArray) (st : Rr.St) (x : Cn.In) (v6 v7 : Value) : Prop :=
 RI W0 W g t st ∧ W.heap[xb]? = some (inB x v6 v7) ∧ W0.heap.size ≤ xb ∧ W.ownsRow W0.heap.size 71 7 v6 x.nodes.length (x.nodes.flatMap ncs) ∧ W.ownsRow W0.heap.size 3 1 v7 x.mx.length (x.mx.flatMap ic)
section
variable {W0 W W' : World} {g xb : Nat} {t : ByteArray} {st st' : Rr.St} {x : Cn.In} {v6 v7 : Value}
theorem GS.ri (h : GS W0 W g xb t st x v6 v7) : RI W0 W g t st := h.1
theorem GS.xbl (h : GS W0 W g xb t st x v6 v7) : W.heap[xb]? = some (inB x v6 v7) := h.2.1
theorem GS.o6 (h : GS W0 W g xb t st x v6 v7) : W.ownsRow W0.heap.size 71 7 v6 x.nodes.length (x.nodes.flatMap ncs) := h.2.2.2.1
theorem GS.o7 (h : GS W0 W g xb t st x v6 v7) : W.ownsRow W0.heap.size 3 1 v7 x.mx.length (x.mx.flatMap ic) := h.2.2.2.2
theorem GS.ne (h : GS W0 W g xb t st x v6 v7) : g ≠ xb := fun e => by
 have h1 := h.ri.blk
 have h2 := h.xbl
 rw [e, h2] at h1; simp at h1
theorem own71_ne {w : World} {base n B T : Nat} {v : Value} {xs : List Value} {cs : Array Value} {fr : Nat × Nat} (hown : w.ownsRow base 71 7 v n xs) (hb : w.heap[B]? = some (.cells cs T fr)) (hT : T ≠ 71) : v.ownBlock ≠ some B := by
 rcases hown.2 with ⟨rfl, _⟩ | ⟨g, cap, cur, rfl, _, hg, _⟩
 ·simp [Value.ownBlock]
 ·intro h
  simp only [Value.ownBlock, Option.some.injEq] at h
  subst h
  rw [hg] at hb
  simp only [Option.some.injEq, Obj.cells.injEq] at hb
  exact hT hb.2.1.symm
theorem GS.step (h : GS W0 W g xb t st x v6 v7) (hr : RI W0 W' g t st') (hk : KeepBut W W' g none) : GS W0 W' g xb t st' x v6 v7 :=
 ⟨hr, (hk.2 xb (Array.getElem?_eq_some_iff.1 h.xbl).1 (fun e => h.ne e.symm) (by simp)).trans h.xbl, h.2.2.1, hk.own h.o6 (own71_ne h.o6 h.ri.blk (by decide)) (by cases hb : v6.ownBlock <;> simp), hk.own h.o7 (own3_ne h.o7 h.ri.blk (by decide)) (by cases hb : v7.ownBlock <;> simp)⟩
theorem GS.below (h : GS W0 W g xb t st x v6 v7) (hb : Below W.heap.size W W') : GS W0 W' g xb t st x v6 v7 := h.step (h.ri.below hb) (KeepBut.of_below hb g none)
theorem GS.cell (h : GS W0 W g xb t st x v6 v7) (j : Nat) (v : Value) (hj : (#[Value.string x.nm, .int .i64 x.kind, .int .i64 x.metric, .int .i64 x.scale, .int .i64 x.cap, .int .i64 x.fleet, v6, v7])[j]? = some v) : W.cell? ⟨xb, j, none⟩ = some v := by
 rw [Lib.cell_of_heap h.xbl]; exact hj
theorem GS.fz (h : GS W0 W g xb t st x v6 v7) (j : Nat) : W.frozen? ⟨xb, j, none⟩ = false := Lib.frozen_of_heap h.xbl j
/-- A field is written: the block, whatever else. -/
theorem GS.put (hr : RI W0 W g t st) (hxb : W.heap[xb]? = some (inB x v6 v7)) (h0 : W0.heap.size ≤ xb) (j : Nat) (u : Value) {x' : Cn.In} {v6' v7' : Value} (hx : (#[Value.string x.nm, .int .i64 x.kind, .int .i64 x.metric, .int .i64 x.scale, .int .i64 x.cap, .int .i64 x.fleet, v6, v7]).setIfInBounds j u = #[Value.string x'.nm, .int .i64 x'.kind, .int .i64 x'.metric, .int .i64 x'.scale, .int .i64 x'.cap, .int .i64 x'.fleet, v6', v7'])
  (h6 : W.ownsRow W0.heap.size 71 7 v6' x'.nodes.length (x'.nodes.flatMap ncs)) (h7 : W.ownsRow W0.heap.size 3 1 v7' x'.mx.length (x'.mx.flatMap ic)) : GS W0 (W.setCell ⟨xb, j, none⟩ u) g xb t st x' v6' v7' := by
 have g1 := blk_put hxb j u hx
 have hne : g ≠ xb := fun e => by
  have h1 := hr.blk
  rw [e, hxb] at h1; simp at h1
 refine ⟨hr.setB hne h0 u, g1, h0, h6.kept (grown_set W xb j u) (.inr (own71_ne h6 hxb (by decide))), h7.kept (grown_set W xb j u) (.inr (own3_ne h7 hxb (by decide)))⟩
/-- append of one node to a row of one's own. -/
theorem wpList_nodes {W : World} {ops : Array Oper} {rest : List Oper} {o : Oper} {a : Act} {Q : Exit → Act → World → Prop} {base : Nat} {v : Value} {l : List S71} (hown : W.ownsRow base 71 7 v l.length (l.flatMap ncs)) (hlen : l.length ≤ 1000000000) (hbase : base ≤ W.heap.size) (d : S71) (hgd : o.guard = none) (s y : Operand)
  (ho : o.op = .call { callee := .builtin .append, args := #[s, y], argTypes := #[22, 22] }) (hs : a.eval s = v) (hy : a.eval y = .slice (some ⟨W.heap.size, 0, none⟩) 1 1)
  (hk : ∀ v' w', w'.ownsRow base 71 7 v' (l ++ [d]).length ((l ++ [d]).flatMap ncs) → (W.alloc (.cells (ncs d).toArray 71)).grownBy w' v.ownBlock → wpList Tryz.prog ops Q rest (a.put o.dst v') w') : wpList Tryz.prog ops Q (o :: rest) a (W.alloc (.cells (ncs d).toArray 71)) := by
 obtain ⟨i0, hi, hz0, hz1, hz2⟩ := info_parts info71
 have hnew : (W.alloc (.cells (ncs d).toArray 71)).heap[W.heap.size]? = some (.cells (ncs d).toArray 71) := Array.getElem?_push_size
 have hown' := pw_own_below hown (below_one W (.cells (ncs d).toArray 71))
 refine wpList_append_own _ hgd s y 22 ho base 71 i0 _ 7 56 Tryz.underlying22 hi hz0 hz1 hz2 rfl (by decide) v l.length (l.flatMap ncs) hs hown' ⟨W.heap.size, 0, none⟩ 1 1 (ncs d) hy rfl (fun j u hu => ?_) (fun u hu => ?_) (by simp only [maxLen]; omega) (by omega) (by simp; omega) (fun v' w' ho' hg _ => ?_)
 ·have e : (⟨W.heap.size, 0, none⟩ : Addr).add j = ⟨W.heap.size, j, none⟩ := by rw [Addr.add_lit, Nat.zero_add]
  rw [e, Lib.cell_of_heap hnew, List.getElem?_toArray]; exact hu
 ·exact ncs_one [d] u (by simpa using hu)
 ·refine hk v' w' ?_ hg
  rw [List.flatMap_append, List.length_append]
  have e : [d].flatMap ncs = ncs d := by simp
  rw [e]
  exact ho'
end
theorem step_store_all {P : Program} {ops : Array Oper} {o : Oper} {a : Act} {w : World} {Q : Exit → Act → World → Prop} {K : Act → World → Prop} (hw : Region.wanted o (yielded ops a.tmps) = true) (hN : o.dst = none) (t : TypeId) (p x : Operand) (ho : o.op = .store t p x) {g : Nat} {e : TypeId} {cur : Array Value} (hh : w.heap[g]? = some (.cells cur e (0, 0)))
  (haddr : a.eval p = .pointer (some ⟨g, 0, none⟩)) (u : Value) (seg : List Value) (hx : a.eval x = u) (hu : u.cells.toList = seg) (ht : (P.info? t).map (·.size) = some seg.length) (hsz : cur.size = seg.length) (h1 : ∀ q ∈ seg, q.oneCell' = true)
  (h : ∀ w1, w1.heap[g]? = some (.cells seg.toArray e (0, 0)) → w.grownBy w1 (some g) → K a w1) : if Region.wanted o (yielded ops a.tmps) = true then Oper.wp P o a w K Q else K (a.put none undef) w := by
 rw [if_pos hw]
 obtain ⟨cur', h3, h4, h5⟩ := setCells_row seg 0 w cur hh (by omega)
 obtain ⟨s1, s2, s3, s4⟩ := setCells_same g seg 0 w
 have hc : cur' = seg.toArray := by
  apply Array.ext'
  rw [h5]
  simp [hsz]
 rw [hc] at h3
 have hrun := run_store_run (P := P) (o := 0) t u seg hh hu ht (by omega) h1
 unfold Oper.wp execOp
 simp only [ho, haddr, hx, Sem.run_bind, Sem.run_pure, Result.andThen_ok, hrun]
 show K (a.put o.dst undef) _
 rw [hN]
 exact h _ h3 ⟨s1, s2, s3, by rw [s4]; exact Nat.le_refl _, fun k _ hk => setCells_far _ _ k (fun he => hk (by rw [he]))⟩
theorem grown_cell {w w' : World} {r : Nat} {p : Addr} (h : w.grownBy w' (some r)) (hp : p.block < w.heap.size ∧ p.block ≠ r) : w'.cell? p = w.cell? p :=
 World.cell?_of_block (h.block _ hp.1 (fun e => hp.2 (by injection e)))
/-- Behind the error's branch: the zero instance, and the diagnostic. -/
def ER (w W12 : World) (rb n : Nat) (fe : Rr.St) (w' : World) : Prop := w'.heap[rb]? = some (.cells #[.string ⟨#[]⟩, .int .i64 0, .int .i64 0, .int .i64 0, .int .i64 0, .int .i64 0, .slice none 0 0, .slice none 0 0] 25) ∧ w'.heap[n]? = some (.cells #[.int .i64 fe.a, .int .i64 fe.c] 38) ∧ Below w.heap.size w w' ∧ w.heap.size ≤ n
set_option maxRecDepth 100000 in
set_option maxHeartbeats 16000000 in
theorem get_walk (s : ByteArray) (hs : s.size ≤ 1000000000) (w : World) (HT : Tab w) : Calls Tryz.prog 35 #[.string s] w fun e w' => ∃ v vl, e = .returned (.tuple #[v, vl]) ∧ InR w' w.heap.size v (Rr.get s).1 ∧ DR w' w.heap.size vl (Rr.get s).2 ∧ Below w.heap.size w w' := by
 obtain ⟨W0, hW0⟩ : ∃ W0, W0 = w.alloc (inB Cn.zero (.slice none 0 0) (.slice none 0 0)) := ⟨_, rfl⟩
 have hop := opened_walk s (by omega) 1 W0 (by rw [hW0]; exact HT.below (below_one _ _))
 have hots : (Rr.opT s).size ≤ 1000000000 := by
  have h : (Pk.opn s.data.toList).1.length ≤ s.data.toList.length := by
   unfold Pk.opn
   split
   ·simp
   ·split
    ·simp
    ·simp only [List.length_take]; omega
  unfold Rr.opT
  rw [Evs.S_size]
  rw [Evs.size_len] at h
  omega
 have hok0 := Rr.ok_opened s 1
 obtain ⟨F, hF⟩ : ∃ F, Rr.get s = F := ⟨_, rfl⟩
 rw [hF]
 unfold Rr.get at hF
 obtain ⟨t, ht⟩ : ∃ t, Rr.opT s = t := ⟨_, rfl⟩
 obtain ⟨st0, hst0⟩ : ∃ st, Rr.opened s 1 = st := ⟨_, rfl⟩
 rw [ht, hst0] at hop hok0
 rw [ht, hst0] at hF
 rw [ht] at hots
 have HOP := Aside0.mk hop
 have HF := Aside0.mk hF
 have HOK := Aside0.mk hok0
 have HW0 := Aside0.mk hW0
 clear hop hF hok0 ht hst0
 have hz : inB Cn.zero (.slice none 0 0) (.slice none 0 0) = .cells #[.string ⟨#[]⟩, .int .i64 0, .int .i64 0, .int .i64 0, .int .i64 0, .int .i64 0, .slice none 0 0, .slice none 0 0] 25 := rfl
 rw [hz] at hW0
 subst hW0
 go_enter Tryz.func35, Tryz.ntmps35
 go_wp2_with fail
 refine HOP.out.mono ?_
 rintro e W1 ⟨g, rfl, h1⟩
 have HG0 := Aside0.mk (show GS _ (W1.alloc (inB Cn.zero (.slice none 0 0) (.slice none 0 0))) g W1.heap.size t st0 Cn.zero (.slice none 0 0) (.slice none 0 0) from ⟨h1.below (below_one _ _), Array.getElem?_push_size, h1.bl.size, World.ownsRow_nil _ _ _ _, World.ownsRow_nil _ _ _ _⟩)
 have HTX := Aside0.mk (text_walk HG0.out.ri (by omega))
 clear h1 HOP
 have hok1 := Rr.ok_text HOK.out
 obtain ⟨r1, hr1⟩ : ∃ r, Rr.text t st0 = r := ⟨_, rfl⟩
 rw [hr1] at HTX hok1
 go_wp2_with fail
 refine HTX.out.mono ?_
 rintro e W2 ⟨rfl, h2, k2⟩
 have HG1 := Aside0.mk (HG0.out.step h2 k2)
 have c0 := HG1.out.cell 0 _ rfl
 have f0 := HG1.out.fz 0
 have HG2 := Aside0.mk (GS.put HG1.out.ri HG1.out.xbl HG1.out.2.2.1 0 (.string r1.1) (x' := ⟨r1.1, 0, 0, 0, 0, 0, [], []⟩) rfl HG1.out.o6 HG1.out.o7)
 clear h2 k2 HTX HG0 HG1
 go_upto_region 4 with (fail)
 clear c0 f0
 generalize (World.setCell W2 _ _) = W3 at HG2 ⊢
 have hp3 : (W3.alloc (.cells #[.pointer (some ⟨W1.heap.size, 1, none⟩), .pointer (some ⟨W1.heap.size, 2, none⟩), .pointer (some ⟨W1.heap.size, 3, none⟩), .pointer (some ⟨W1.heap.size, 4, none⟩), .pointer (some ⟨W1.heap.size, 5, none⟩)] 88)).heap[W3.heap.size]? = some (.cells #[.pointer (some ⟨W1.heap.size, 1, none⟩), .pointer (some ⟨W1.heap.size, 2, none⟩), .pointer (some ⟨W1.heap.size, 3, none⟩), .pointer (some ⟨W1.heap.size, 4, none⟩), .pointer (some ⟨W1.heap.size, 5, none⟩)] 88) := Array.getElem?_push_size
 have HG3 := Aside0.mk (HG2.out.below (below_one W3 (.cells #[.pointer (some ⟨W1.heap.size, 1, none⟩), .pointer (some ⟨W1.heap.size, 2, none⟩), .pointer (some ⟨W1.heap.size, 3, none⟩), .pointer (some ⟨W1.heap.size, 4, none⟩), .pointer (some ⟨W1.heap.size, 5, none⟩)] 88)))
 have hgl := (Array.getElem?_eq_some_iff.1 HG2.out.ri.blk).1
 have hxl := (Array.getElem?_eq_some_iff.1 HG2.out.xbl).1
 have HIN := Aside0.mk (rints_walk (m := 5) (o := 1) HG3.out.ri (by omega) (by omega) HG3.out.xbl HG3.out.ne HG3.out.2.2.1 hp3 (fun k hk => by
  match k, hk with
  | 0, _ => rfl
  | 1, _ => rfl
  | 2, _ => rfl
  | 3, _ => rfl
  | 4, _ => rfl) (by omega) (by omega) (by simp))
 clear hp3 hgl hxl
 go_wp2_with fail
 refine HIN.out.mono ?_
 rintro e W4 ⟨rfl, h4, hb4, k4⟩
 obtain ⟨q5, hq5⟩ : ∃ q, Rr.nums t 5 r1.2 = q := ⟨_, rfl⟩
 have hok5 := Rr.ok_nums hok1 5
 have hl5 := Rr.nums_len t r1.2 5
 rw [hq5] at h4 hb4 hok5 hl5
 obtain ⟨ka, kb, kc, kd, ke, hkl⟩ : ∃ a b c d e, q5.1 = [a, b, c, d, e] := ⟨_, _, _, _, _, Rr.list5 _ hl5⟩
 rw [hkl] at hb4
 have HG4 := Aside0.mk (show GS _ W4 g W1.heap.size t q5.2 ⟨r1.1, ka, kb, kc, kd, ke, [], []⟩ (.slice none 0 0) (.slice none 0 0) from ⟨h4, hb4, HG2.out.2.2.1, World.ownsRow_nil _ _ _ _, World.ownsRow_nil _ _ _ _⟩)
 have HC := Aside0.mk (count_walk HG4.out.ri (by omega) hok5)
 have hcl := Rr.count_le hok5
 have hokc := Rr.ok_count hok5
 obtain ⟨cn, hcn⟩ : ∃ r, Rr.count t q5.2 = r := ⟨_, rfl⟩
 rw [hcn] at HC hcl hokc
 clear h4 hb4 k4 HIN HG2 HG3
 go_wp2_with fail
 refine HC.out.mono ?_
 rintro e W5 ⟨rfl, h5, k5⟩
 have HG5 := Aside0.mk (HG4.out.step h5 k5)
 clear h5 k5 HC HG4
 go_upto_block 0 with (fail)
 obtain ⟨R, hR⟩ : ∃ R, Rr.nodesN t cn.1.toNat [] cn.2 = R := ⟨_, rfl⟩
 have HR := Aside0.mk hR
 go_cut [] (fun wc => ∃ v6, GS (w.alloc (.cells #[.string ⟨#[]⟩, .int .i64 0, .int .i64 0, .int .i64 0, .int .i64 0, .int .i64 0, .slice none 0 0, .slice none 0 0] 25)) wc g W1.heap.size t R.2 ⟨r1.1, ka, kb, kc, kd, ke, R.1, []⟩ v6 (.slice none 0 0))
 case first =>
  clear hR
  go_wp2_with fail
  go_loopw [22] (fun v22 wr => ∃ (k : Nat) (l : List S71) (st' : Rr.St) (v6 : Value), k ≤ cn.1.toNat ∧ v22 = .int .i64 k ∧ l.length = k ∧ GS (w.alloc (.cells #[.string ⟨#[]⟩, .int .i64 0, .int .i64 0, .int .i64 0, .int .i64 0, .int .i64 0, .slice none 0 0, .slice none 0 0] 25)) wr g W1.heap.size t st' ⟨r1.1, ka, kb, kc, kd, ke, l, []⟩ v6 (.slice none 0 0) ∧ Rr.nodesN t (cn.1.toNat - k) l st' = R) (fun v _ => cn.1.toNat - (intOf v).toNat)
  case atStart => exact ⟨0, [], cn.2, _, Nat.zero_le _, rfl, rfl, HG5.out, HR.out⟩
  case round =>
   obtain ⟨k, l, st', v6, hk, rfl, hlk, hgs, hN⟩ := hrel
   have HGS := Aside0.mk hgs
   have HN := Aside0.mk hN
   clear hgs hN HG5 HR
   by_cases hlt : (k : Int) < cn.1
   ·have hbd := below_two wr (.cells #[.int .i64 0, .int .i64 0, .int .i64 0, .int .i64 0, .int .i64 0, .int .i64 0, .int .i64 0] 71) (.cells #[.pointer (some ⟨wr.heap.size, 0, none⟩), .pointer (some ⟨wr.heap.size, 1, none⟩), .pointer (some ⟨wr.heap.size, 2, none⟩), .pointer (some ⟨wr.heap.size, 3, none⟩), .pointer (some ⟨wr.heap.size, 4, none⟩), .pointer (some ⟨wr.heap.size, 5, none⟩), .pointer (some ⟨wr.heap.size, 6, none⟩)] 88)
    have htb := two_blocks wr (.cells #[.int .i64 0, .int .i64 0, .int .i64 0, .int .i64 0, .int .i64 0, .int .i64 0, .int .i64 0] 71) (.cells #[.pointer (some ⟨wr.heap.size, 0, none⟩), .pointer (some ⟨wr.heap.size, 1, none⟩), .pointer (some ⟨wr.heap.size, 2, none⟩), .pointer (some ⟨wr.heap.size, 3, none⟩), .pointer (some ⟨wr.heap.size, 4, none⟩), .pointer (some ⟨wr.heap.size, 5, none⟩), .pointer (some ⟨wr.heap.size, 6, none⟩)] 88)
    have HG6 := HGS.out.below hbd
    have hgl := (Array.getElem?_eq_some_iff.1 HGS.out.ri.blk).1
    have hW0 := HGS.out.ri.bl.size
    have hin := rints_walk (m := 7) (o := 0) HG6.ri (by omega) (by omega) htb.1 (by omega) hW0 htb.2 (fun k hk => by
     match k, hk with
     | 0, _ => rfl
     | 1, _ => rfl
     | 2, _ => rfl
     | 3, _ => rfl
     | 4, _ => rfl
     | 5, _ => rfl
     | 6, _ => rfl) (by omega) (by omega) (by simp)
    have hl7 := Rr.nums_len t st' 7
    have hsub : cn.1.toNat - k = (cn.1.toNat - (k + 1)) + 1 := by omega
    have hN := HN.out
    rw [hsub] at hN
    unfold Rr.nodesN at hN
    obtain ⟨q7, hq7⟩ : ∃ q, Rr.nums t 7 st' = q := ⟨_, rfl⟩
    rw [hq7] at hin hl7 hN
    have HIN := Aside0.mk hin
    have HN2 := Aside0.mk hN
    have h7 := Rr.list7 _ hl7
    have HNG : Aside0 (wr.heap.size ≠ g) := ⟨by omega⟩
    clear hin hN hsub htb hl7 hgl hW0 HN hq7
    go_wp2_with fail
    refine HIN.out.mono ?_
    rintro e W6 ⟨rfl, h6, hb6, k6⟩
    have hkb : KeepBut wr W6 g none := ⟨Nat.le_trans hbd.size k6.1, fun i hi hg _ => by
     rw [k6.2 i (Nat.lt_of_lt_of_le hi hbd.size) hg (by omega)]
     exact hbd.block i hi⟩
    have HG7 := Aside0.mk (HGS.out.step h6 hkb)
    have HFN := Aside0.mk h6.fine
    have HB6 := Aside0.mk hb6
    clear hkb h6 hb6 k6 HIN HG6 hbd HGS
    by_cases h0 : q7.2.c = 0
    ·have hb : (q7.2.c == 0) = true := by simpa using h0
     rw [hb] at HFN
     clear hb
     go_wp2_with fail
     refine HFN.out.mono ?_
     rintro e W8 ⟨rfl, h8, k8⟩
     have HG8 := Aside0.mk (HG7.out.step h8 k8)
     have hgn : wr.heap.size ≠ g := HNG.out
     have hB8 : W8.heap[wr.heap.size]? = some (.cells (ncs (Rr.nodeOf q7.1)).toArray 71) := by
      rw [k8.2 _ (Array.getElem?_eq_some_iff.1 HB6.out).1 hgn (by simp), HB6.out, h7]; rfl
     have hN := HN2.out
     rw [if_pos h0] at hN
     have HNE := Aside0.mk hN
     obtain ⟨d, hd⟩ : ∃ d, Rr.nodeOf q7.1 = d := ⟨_, rfl⟩
     rw [hd] at hB8 HNE
     obtain ⟨y0, y1, y2, y3, y4, y5, y6⟩ : W8.cell? ⟨wr.heap.size, 0, none⟩ = some (.int .i64 d.f0) ∧ W8.cell? ⟨wr.heap.size, 1, none⟩ = some (.int .i64 d.f1) ∧ W8.cell? ⟨wr.heap.size, 2, none⟩ = some (.int .i64 d.f2) ∧ W8.cell? ⟨wr.heap.size, 3, none⟩ = some (.int .i64 d.f3) ∧ W8.cell? ⟨wr.heap.size, 4, none⟩ = some (.int .i64 d.f4) ∧ W8.cell? ⟨wr.heap.size, 5, none⟩ = some (.int .i64 d.f5) ∧ W8.cell? ⟨wr.heap.size, 6, none⟩ = some (.int .i64 d.f6) := by
      refine ⟨?_, ?_, ?_, ?_, ?_, ?_, ?_⟩ <;> (rw [Lib.cell_of_heap hB8]; rfl)
     have c6 := HG8.out.cell 6 _ rfl
     have hll : l.length ≤ 1000000000 := by omega
     clear h8 k8 HFN HG7 hN HN2 h7 HB6 hB8 hd
     go_wp2_with (at_builtin; refine wpList_nodes HG8.out.o6 hll HG8.out.ri.bl.size d rfl _ _ rfl rfl rfl ?_)
     intro v' W9 ho9 hg9
     have ho9' : W9.ownsRow (w.alloc (.cells #[.string ⟨#[]⟩, .int .i64 0, .int .i64 0, .int .i64 0, .int .i64 0, .int .i64 0, .slice none 0 0, .slice none 0 0] 25)).heap.size 71 7 v' (k + 1) ((l ++ [d]).flatMap ncs) := by simpa [hlk] using ho9
     obtain ⟨g', cap', rfl⟩ := own_form ho9'
     have hal := HG8.out.below (below_one W8 (.cells (ncs d).toArray 71))
     have hi9 : RI (w.alloc (.cells #[.string ⟨#[]⟩, .int .i64 0, .int .i64 0, .int .i64 0, .int .i64 0, .int .i64 0, .slice none 0 0, .slice none 0 0] 25)) W9 g t q7.2 := ⟨hal.ri.is.grown hg9 (fun e => own71_ne HG8.out.o6 HG8.out.ri.blk (by decide) e.symm), hal.ri.bl.grown hg9 hal.ri.bl.size (fun k hk => (HG8.out.o6.lt k hk).1)⟩
     have hx9 : W9.heap[W1.heap.size]? = some (inB ⟨r1.1, ka, kb, kc, kd, ke, l, []⟩ v6 (.slice none 0 0)) := (hg9.block _ (Array.getElem?_eq_some_iff.1 hal.xbl).1 (fun e => own71_ne HG8.out.o6 HG8.out.xbl (by decide) e.symm)).trans hal.xbl
     have hc9 : W9.cell? ⟨W1.heap.size, 6, none⟩ = some v6 := by rw [Lib.cell_of_heap hx9]; rfl
     have hf9 := Lib.frozen_of_heap hx9 6
     have HG9 := Aside0.mk (GS.put hi9 hx9 HG8.out.2.2.1 6 _ (x' := ⟨r1.1, ka, kb, kc, kd, ke, l ++ [d], []⟩) (v6' := .slice (some ⟨g', 0, none⟩) (k + 1) cap') (v7' := .slice none 0 0) rfl (by rw [List.length_append, hlk]; exact ho9') (World.ownsRow_nil _ _ _ _))
     clear ho9 ho9' hg9 hal hi9 hx9 HG8 y0 y1 y2 y3 y4 y5 y6 c6
     go_wp2_with fail
     go_roundw
     case rel => exact ⟨k + 1, l ++ [d], q7.2, _, by omega, by go_num, by rw [List.length_append, hlk]; rfl, HG9.out, HNE.out⟩
     case measure => simp [intOf]; omega
    ·have hb : (q7.2.c == 0) = false := by simpa using h0
     rw [hb] at HFN
     have hN := HN2.out
     rw [if_neg h0] at hN
     clear hb HN2 h7
     go_wp2_with fail
     refine HFN.out.mono ?_
     rintro e W8 ⟨rfl, h8, k8⟩
     have HG8 := Aside0.mk (HG7.out.step h8 k8)
     have HNE := Aside0.mk hN
     clear h8 k8 HFN HG7 hN HB6
     go_wp2_with fail
     go_meet
     case rel => exact ⟨_, by rw [← HNE.out]; exact HG8.out⟩
   ·have hN := HN.out
    rw [show cn.1.toNat - k = 0 by omega] at hN
    have HNE := Aside0.mk hN
    clear hN HN
    go_wp2_with fail
    go_meet
    case rel => exact ⟨_, by rw [← HNE.out]; exact HGS.out⟩
 case rest =>
  obtain ⟨v6, hgs⟩ := hcut
  have HGR := Aside0.mk hgs
  have hokn := Rr.ok_nodesN cn.1.toNat [] cn.2 hokc
  rw [hR] at hokn
  have hlw := rlist_walk HGR.out.ri hots hokn
  have hokl := Rr.ok_list hokn
  obtain ⟨m7, hm7⟩ : ∃ r, Rr.list t R.2 = r := ⟨_, rfl⟩
  rw [hm7] at hlw hokl
  have HL := Aside0.mk hlw
  have hfin : Rr.readE t st0 = Rr.fin t m7.2 ∧ Rr.readX t st0 = ⟨r1.1, ka, kb, kc, kd, ke, R.1, m7.1⟩ := by
   have e1 : Rr.readT t st0 = r1 := hr1
   have e2 : Rr.readH t st0 = q5 := by unfold Rr.readH; rw [e1, hq5]
   have e3 : Rr.readC t st0 = cn := by unfold Rr.readC; rw [e2, hcn]
   have e4 : Rr.readN t st0 = R := by unfold Rr.readN; rw [e3, hR]
   have e5 : Rr.readM t st0 = m7 := by unfold Rr.readM; rw [e4, hm7]
   refine ⟨by unfold Rr.readE; rw [e5], ?_⟩
   unfold Rr.readX
   rw [e1, e2, e4, e5, hkl]; rfl
  have HFN := Aside0.mk hfin
  have hmx : m7.1.length ≤ 1000000000 := by rw [← hm7]; exact Nat.le_trans (Rr.list_len hokn) hots
  have hrn : R.1.length ≤ 1000000000 := by
   rw [← hR]
   have := Rr.nodesN_len t cn.1.toNat [] cn.2
   simp at this; omega
  have hnm : r1.1.size ≤ 1000000000 := by rw [← hr1]; exact Nat.le_trans (Rr.text_len t st0) hots
  clear hgs hlw hm7 hR HG5 HR hfin hq5 hkl hcn hr1
  go_wp2_with fail
  refine HL.out.mono ?_
  rintro e W10 ⟨v7, rfl, ho7, h10, k10⟩
  have HG10 := Aside0.mk (HGR.out.step h10 k10)
  have ho7' : W10.ownsRow (w.alloc (.cells #[.string ⟨#[]⟩, .int .i64 0, .int .i64 0, .int .i64 0, .int .i64 0, .int .i64 0, .slice none 0 0, .slice none 0 0] 25)).heap.size 3 1 v7 m7.1.length (m7.1.flatMap ic) := own_weaken ho7 HGR.out.ri.bl.size
  obtain ⟨A7, c7, rfl⟩ := own_slice ho7'
  have c7' := HG10.out.cell 7 _ rfl
  have f7 := HG10.out.fz 7
  have HG11 := Aside0.mk (GS.put HG10.out.ri HG10.out.xbl HG10.out.2.2.1 7 (.slice A7 m7.1.length c7) (x' := ⟨r1.1, ka, kb, kc, kd, ke, R.1, m7.1⟩) (v6' := v6) rfl HG10.out.o6 ho7')
  clear ho7 ho7' h10 k10 HL HGR HG10
  go_upto_region 13 with (fail)
  clear c7' f7
  generalize (World.setCell W10 _ _) = W11 at HG11 ⊢
  have HE := Aside0.mk (end_walk HG11.out.ri (by omega) hokl)
  go_wp2_with fail
  refine HE.out.mono ?_
  rintro e W12 ⟨rfl, h12, k12⟩
  have HG12 := Aside0.mk (HG11.out.step h12 k12)
  clear h12 k12 HE HG11
  have HZ0 : Aside0 (W12.heap[w.heap.size]? = some (.cells #[.string ⟨#[]⟩, .int .i64 0, .int .i64 0, .int .i64 0, .int .i64 0, .int .i64 0, .slice none 0 0, .slice none 0 0] 25)) := ⟨(HG12.out.ri.bl.block w.heap.size (by simp)).trans Array.getElem?_push_size⟩
  have HBW : Aside0 (Below w.heap.size w W12) := ⟨(below_one w _).trans (HG12.out.ri.bl.mono (by simp))⟩
  by_cases hf : (Rr.fin t m7.2).c = 0
  ·have hb : ((Rr.fin t m7.2).c == 0) = true := by simpa using hf
   have hFe := HF.out
   rw [HFN.out.1, if_pos hf, HFN.out.2] at hFe
   have hR6 := R_of_rows (K := k71) (enc := ncs) k71_M k71_sz (by decide) HG12.out.o6
   have hR7 := R_of_rows (K := Kd.int .i64) (enc := ic) kint_M (fun _ => rfl) (by decide) HG12.out.o7
   obtain ⟨A6, c6, e6, _, hC6⟩ := Kd.R_reads hR6
   obtain ⟨A7', c7', e7, _, hC7⟩ := Kd.R_reads hR7
   have hA7 : A7 = A7' ∧ c7 = c7' := by injection e7 with a b c; exact ⟨a, c⟩
   obtain ⟨rfl, rfl⟩ := hA7
   have htw := told_walk ⟨r1.1, ka, kb, kc, kd, ke, R.1, m7.1⟩ A6 A7 c6 c7 W12 (by show r1.1.size ≤ _; omega) hrn hmx hC6 hC7
   subst e6
   have HTW := Aside0.mk htw
   have HFE := Aside0.mk hFe
   obtain ⟨d0, d1, d2, d3, d4, d5, d6, d7⟩ : W12.cell? ⟨W1.heap.size, 0, none⟩ = some (.string r1.1) ∧ W12.cell? ⟨W1.heap.size, 1, none⟩ = some (.int .i64 ka) ∧ W12.cell? ⟨W1.heap.size, 2, none⟩ = some (.int .i64 kb) ∧ W12.cell? ⟨W1.heap.size, 3, none⟩ = some (.int .i64 kc) ∧ W12.cell? ⟨W1.heap.size, 4, none⟩ = some (.int .i64 kd) ∧ W12.cell? ⟨W1.heap.size, 5, none⟩ = some (.int .i64 ke) ∧ W12.cell? ⟨W1.heap.size, 6, none⟩ = some (.slice A6 R.1.length c6) ∧ W12.cell? ⟨W1.heap.size, 7, none⟩ = some (.slice A7 m7.1.length c7) := ⟨HG12.out.cell 0 _ rfl, HG12.out.cell 1 _ rfl, HG12.out.cell 2 _ rfl, HG12.out.cell 3 _ rfl, HG12.out.cell 4 _ rfl, HG12.out.cell 5 _ rfl, HG12.out.cell 6 _ rfl, HG12.out.cell 7 _ rfl⟩
   clear hR6 hR7 hC6 hC7 e7 htw hFe HF HFN hf
   go_wp2_with fail
   refine HTW.out.mono ?_
   rintro e W13 ⟨v, vl, rfl, ⟨u6, u7, rfl, hR6, hR7⟩, hD, hb13⟩
   obtain ⟨y, hy⟩ : ∃ y, Cn.told ⟨r1.1, ka, kb, kc, kd, ke, R.1, m7.1⟩ = y := ⟨_, rfl⟩
   rw [hy] at hR6 hR7 hD HFE ⊢
   obtain ⟨B6, p6, rfl⟩ := Kd.R_slice hR6
   obtain ⟨B7, p7, rfl⟩ := Kd.R_slice hR7
   have HZ := Aside0.mk ((hb13.block _ (Array.getElem?_eq_some_iff.1 HZ0.out).1).trans HZ0.out)
   have HR6 := Aside0.mk hR6
   have HR7 := Aside0.mk hR7
   have HD := Aside0.mk hD
   have HB13 := Aside0.mk hb13
   clear hR6 hR7 hD hb13 HTW hy d0 d1 d2 d3 d4 d5 d6 d7 HG12 HZ0
   go_wp2_with (refine gate_ (.store 25 (.tmp 2) (.tmp 58)) rfl ?_; refine wpList_store_all rfl rfl 25 (.tmp 2) (.tmp 58) rfl HZ.out (by rfl) _ [.string y.1.nm, .int .i64 y.1.kind, .int .i64 y.1.metric, .int .i64 y.1.scale, .int .i64 y.1.cap, .int .i64 y.1.fleet, .slice B6 y.1.nodes.length p6, .slice B7 y.1.mx.length p7] (by rfl) rfl (by kernel_rfl) rfl (by intro q hq; simp only [List.mem_cons, List.not_mem_nil, or_false] at hq; rcases hq with rfl | rfl | rfl | rfl | rfl | rfl | rfl | rfl <;> rfl) ?_)
   intro w1 hb1 hg1
   go_wp2_with fail
   refine bodyPost_ret (results_ct rfl _ _ w.heap.size 25 #[.string y.1.nm, .int .i64 y.1.kind, .int .i64 y.1.metric, .int .i64 y.1.scale, .int .i64 y.1.cap, .int .i64 y.1.fleet, .slice B6 y.1.nodes.length p6, .slice B7 y.1.mx.length p7] (0, 0) _ rfl hb1 Tryz.underlying25 rfl (by kernel_rfl)) rfl ?_
   rw [← HFE.out]
   have s : ∀ k, (True ∧ k ≠ w.heap.size) → some k ≠ some w.heap.size := fun k hk e => hk.2 (by injection e)
   refine ⟨_, _, rfl, ⟨_, _, rfl, Kd.R_lower (Kd.R_mono (Kd.R_grown (Kd.R_types HR6.out HZ.out (by decide)) hg1 s) (fun _ _ => trivial)) HBW.out.size, Kd.R_lower (Kd.R_mono (Kd.R_grown (Kd.R_types HR7.out HZ.out (by decide)) hg1 s) (fun _ _ => trivial)) HBW.out.size⟩, own_baseD (HD.out.kept hg1 (.inr (own38_ne HD.out HZ.out (by decide)))) HBW.out.size, (HBW.out.trans (HB13.out.mono HBW.out.size)).grown hg1 (Nat.le_trans HBW.out.size HB13.out.size) (by intro k hk; simp at hk; omega)⟩
  ·have hb : ((Rr.fin t m7.2).c == 0) = false := by simpa using hf
   have hFe := HF.out
   rw [HFN.out.1, if_neg hf] at hFe
   obtain ⟨fe, hfe⟩ : ∃ f, Rr.fin t m7.2 = f := ⟨_, rfl⟩
   have hbo := hb
   rw [hfe] at hFe HG12 hf
   have HFE := Aside0.mk hFe
   obtain ⟨c0, c1, c2, c3⟩ := HG12.out.ri.cells
   have hgl := (Array.getElem?_eq_some_iff.1 HG12.out.ri.blk).1
   have hge := HG12.out.ri.is.2
   have HGX : Aside0 (g < W12.drew.heap.size ∧ g ≠ w.heap.size) := ⟨hgl, by simp at hge; omega⟩
   have HGX2 : Aside0 (g < (W12.drew.alloc (.cells #[.int .i64 fe.a, .int .i64 fe.c] 38)).heap.size ∧ g ≠ w.heap.size) := ⟨by have : g < W12.drew.heap.size := hgl; simp at this ⊢; omega, HGX.out.2⟩
   have HCL : Aside0 ((∀ w1 : World, w1.heap[w.heap.size]? = some (.cells [.string ⟨#[]⟩, .int .i64 0, .int .i64 0, .int .i64 0, .int .i64 0, .int .i64 0, .slice none 0 0, .slice none 0 0].toArray 25 (0, 0)) → (W12.drew.alloc (.cells #[.int .i64 fe.a, .int .i64 fe.c] 38)).grownBy w1 (some w.heap.size) → ER w W12 w.heap.size W12.heap.size fe w1) ∧ (∀ w1 : World, w1.heap[w.heap.size]? = some (.cells [.string ⟨#[]⟩, .int .i64 0, .int .i64 0, .int .i64 0, .int .i64 0, .int .i64 0, .slice none 0 0, .slice none 0 0].toArray 25 (0, 0)) → W12.drew.grownBy w1 (some w.heap.size) → ER w W12 w.heap.size w1.heap.size fe (w1.alloc (.cells #[.int .i64 fe.a, .int .i64 fe.c] 38)))) := by
    have hws : w.heap.size < W12.heap.size := (Array.getElem?_eq_some_iff.1 HZ0.out).1
    refine ⟨⟨fun w1 h1 hg => ⟨h1, ?_, ?_, by omega⟩, fun w1 h1 hg => ⟨(Below.heap_alloc _ _ _ (Array.getElem?_eq_some_iff.1 h1).1).trans h1, Array.getElem?_push_size, ?_, by have := hg.size; simp at this; omega⟩⟩⟩
    ·rw [hg.block _ (by simp) (fun e => by injection e; omega)]
     exact Array.getElem?_push_size
    ·exact ((HBW.out.drew).trans ((below_one W12.drew _).mono HBW.out.size)).grown hg (by simp; omega) (fun k hk => by injection hk; omega)
    ·exact ((HBW.out.drew).grown hg (by simp; omega) (fun k hk => by injection hk; omega)).alloc (by have := hg.size; simp at this; omega) _
   clear hFe HF HFN hgl hge hfe
   go_wp2_with fail
   refine start_ (n := 8) (S := fun w' => w'.cell? ⟨g, 2, none⟩ = some (.int .i64 fe.a) ∧ w'.cell? ⟨g, 3, none⟩ = some (.int .i64 fe.c)) (ds := []) #[false, false, false, false, false, false, false, false] (by kernel_rfl) rfl rfl ⟨c2, c3⟩ (fun hHeld => ?_)
   refine pz (i := 0) (N := some 50) (bz 8 1) ?_
   refine pz (i := 1) (N := some 51) (bz 8 3) ?_
   refine pz (i := 2) (N := some 52) (bz 8 7) ?_
   refine pz (i := 3) (N := some 53) (bz 8 15) ?_
   refine tz (i := 4) (N := some 54) (bz 8 31) hHeld ?_
   refine join_ (σ := Nat) 1 (bz 8 127) (fun n => [(55, .slice (some ⟨n, 0, none⟩) 1 1)]) (fun n w' => ER w W12 w.heap.size n fe w') ?_ ?_
   rotate_left
   ·intro hCont
    refine two_ (i := 5) (j := 6) (Ni := some 55) (Nj := none) (bz 8 63) (bz 8 95) rfl rfl rfl rfl (by kernel_rfl) (by decide) (by decide) (fun K hK => ?_) (fun K hK => ?_)
    ·skip
     refine vz ?_
     refine hK.out _ _ ⟨cell_alloc c2, cell_alloc c3⟩ (fun hHeld => ?_)
     clear hK K
     refine nz (N := some 55) ?_
     refine one_ (i := 6) (N := none) (bz 8 127) rfl rfl (by kernel_rfl) (by decide) (fun K hK => ?_)
     refine step_store_all (by rfl) rfl 25 (.tmp 2) (.tmp 50) rfl (show (W12.drew.alloc (.cells #[.int .i64 fe.a, .int .i64 fe.c] 38)).heap[w.heap.size]? = _ from (Below.heap_alloc _ _ _ (Array.getElem?_eq_some_iff.1 HZ0.out).1).trans HZ0.out) (by rfl) _ [.string ⟨#[]⟩, .int .i64 0, .int .i64 0, .int .i64 0, .int .i64 0, .int .i64 0, .slice none 0 0, .slice none 0 0] (by rfl) rfl (by kernel_rfl) rfl (by intro q hq; simp only [List.mem_cons, List.not_mem_nil, or_false] at hq; rcases hq with rfl | rfl | rfl | rfl | rfl | rfl | rfl | rfl <;> rfl) ?_
     intro w1 hb1 hg1
     have k2 : w1.cell? ⟨g, 2, none⟩ = some (.int .i64 fe.a) := (grown_cell hg1 (HGX2.out)).trans (cell_alloc c2)
     have k3 : w1.cell? ⟨g, 3, none⟩ = some (.int .i64 fe.c) := (grown_cell hg1 (HGX2.out)).trans (cell_alloc c3)
     refine hK.out _ _ ⟨k2, k3⟩ (fun hHeld => ?_)
     clear hK K
     exact norm_ (by simp only [putAll, Act.put, List.setIfInBounds_toArray, List.set_cons_zero, List.set_cons_succ]) (hCont W12.heap.size _ (HCL.out.1 w1 hb1 hg1))
    ·skip
     refine step_store_all (by rfl) rfl 25 (.tmp 2) (.tmp 50) rfl HZ0.out (by rfl) _ [.string ⟨#[]⟩, .int .i64 0, .int .i64 0, .int .i64 0, .int .i64 0, .int .i64 0, .slice none 0 0, .slice none 0 0] (by rfl) rfl (by kernel_rfl) rfl (by intro q hq; simp only [List.mem_cons, List.not_mem_nil, or_false] at hq; rcases hq with rfl | rfl | rfl | rfl | rfl | rfl | rfl | rfl <;> rfl) ?_
     intro w1 hb1 hg1
     have k2 : w1.cell? ⟨g, 2, none⟩ = some (.int .i64 fe.a) := (grown_cell hg1 HGX.out).trans c2
     have k3 : w1.cell? ⟨g, 3, none⟩ = some (.int .i64 fe.c) := (grown_cell hg1 HGX.out).trans c3
     refine hK.out _ _ ⟨k2, k3⟩ (fun hHeld => ?_)
     clear hK K
     refine one_ (i := 5) (N := some 55) (bz 8 127) rfl rfl (by kernel_rfl) (by decide) (fun K hK => ?_)
     refine vz ?_
     refine hK.out _ _ ⟨cell_alloc k2, cell_alloc k3⟩ (fun hHeld => ?_)
     clear hK K
     refine nz (N := some 55) ?_
     exact norm_ (by simp only [putAll, Act.put, List.setIfInBounds_toArray, List.set_cons_zero, List.set_cons_succ]) (hCont w1.heap.size _ (HCL.out.2 w1 hb1 hg1))
   rintro nb w1 her
   have HER := Aside0.mk her
   clear her
   have hHeld : True := trivial
   refine norm_ (a' := ?_) ?_ ?_
   rotate_left
   ·simp only [putAll, Act.put, List.setIfInBounds_toArray, List.set_cons_zero, List.set_cons_succ]
    rfl
   refine pz (i := 7) (N := some 3) (bz 8 255) ?_
   refine done_ (by kernel_rfl) ?_
   go_wp2_with fail
   refine bodyPost_ret (results_ct rfl _ _ w.heap.size 25 #[.string ⟨#[]⟩, .int .i64 0, .int .i64 0, .int .i64 0, .int .i64 0, .int .i64 0, .slice none 0 0, .slice none 0 0] (0, 0) _ rfl HER.out.1 Tryz.underlying25 rfl (by kernel_rfl)) rfl ?_
   rw [← HFE.out]
   refine ⟨_, _, rfl, ⟨_, _, rfl, Kd.R_nil _ _ _ _ _, Kd.R_nil _ _ _ _ _⟩, ⟨rfl, .inr ⟨nb, 1, _, rfl, HER.out.2.2.2, HER.out.2.1, Nat.le_refl 1, by decide, rfl, rfl⟩⟩, HER.out.2.2.1⟩
end Go.Proofs.YtofklpphalalhaaGreatDoor
end
section
namespace Go.Proofs.YtofklpphalalhaaGreatDoor
set_option linter.unusedVariables false
set_option linter.unusedSimpArgs false
namespace Rr
/-- Lists of numbers, up to the first wrong one. -/
def routesN (s : ByteArray) : Nat → List (List Int) → St → List (List Int) × St
 | 0, l, st => (l, st)
 | n + 1, l, st => if (list s st).2.c = 0 then routesN s n (l ++ [(list s st).1]) (list s st).2 else (l, (list s st).2)
def planR (s : ByteArray) (st : St) := routesN s (count s st).1.toNat [] (count s st).2
def planE (s : ByteArray) (st : St) := fin s (planR s st).2
def getPlan (s : ByteArray) : List (List Int) × Dg.D :=
 (if (planE (opT s) (opened s 2)).c = 0 then (planR (opT s) (opened s 2)).1 else [], ((planE (opT s) (opened s 2)).a, (planE (opT s) (opened s 2)).c))
theorem ok_routesN {s : ByteArray} : ∀ (n : Nat) (l : List (List Int)) (st : St), Ok s st → Ok s (routesN s n l st).2
  | 0, _, _, h => h
  | n + 1, l, st, h => by
    unfold routesN
    split
    · exact ok_routesN n _ _ (ok_list h)
    · exact ok_list h
theorem routesN_len (s : ByteArray) : ∀ (n : Nat) (l : List (List Int)) (st : St), (routesN s n l st).1.length ≤ l.length + n
  | 0, l, st => Nat.le_refl _
  | n + 1, l, st => by
    unfold routesN
    split
    · have := routesN_len s n (l ++ [(list s st).1]) (list s st).2
      rw [List.length_append, List.length_singleton] at this; omega
    · simp
end Rr
end Go.Proofs.YtofklpphalalhaaGreatDoor
end
