/- packet.GetPlan, walked by hand. Conditions: texts of at most 1000000000 bytes; the sums' table lies as listed. -/
import Derived.Test.YtofklpphalalhaaGreatDoorUhJ1
import Derived.Test.YtofklpphalalhaaGreatDoorUhJ21
import Derived.Deep.DeepCutAuto
import Derived.Deep.CutBlock
namespace Go.Proofs.YtofklpphalalhaaGreatDoor
set_option linter.unusedVariables false
set_option linter.unusedSimpArgs false
open Go.RowKit Go.Proofs.YtofklpphalalhaaGreatDoor.PAll Go.Proofs.YtofklpphalalhaaGreatDoorW.PrintWords Go.Proofs.YtofklpphalalhaaGreatDoorW.PrintLast Go.Proofs.YtofklpphalalhaaGreatDoorW.PrintMore
/-- The boxes of the answers. -/
def PW (w : World) : World := (w.alloc (.cells #[.slice none 0 0] 28)).alloc (.cells #[.int .i64 0, .int .i64 0] 38)
theorem PW.size (w : World) : (PW w).heap.size = w.heap.size + 2 := by unfold PW; simp
theorem PW.below (w : World) : Below w.heap.size w (PW w) := below_two w _ _
theorem PW.b0 (w : World) : (PW w).heap[w.heap.size]? = some (.cells #[.slice none 0 0] 28) := (two_blocks w _ _).1
theorem PW.b1 (w : World) : (PW w).heap[w.heap.size + 1]? = some (.cells #[.int .i64 0, .int .i64 0] 38) := (two_blocks w _ _).2
abbrev kRow : Kd (List Int) := Kd.slice 3 (Kd.int .i64)
theorem infoRow : (Tryz.prog.info? 23).map (fun i => (i.zero, i.size, i.bytes)) = some (some (.slice none 0 0), 1, 24) := by kernel_rfl
/-- What GetPlan has: the reader, and the plan's block, with rows of its own. -/
def PT (W0 W : World) (g xb : Nat) (t : ByteArray) (st : Rr.St) (rs : List (List Int)) (v : Value) : Prop :=
 RI W0 W g t st ∧ W.heap[xb]? = some (.cells #[v] 28) ∧ W0.heap.size ≤ xb ∧ Kd.R kRow 23 W W0.heap.size (fun _ => True) v rs
section
variable {W0 W W' : World} {g xb : Nat} {t : ByteArray} {st st' : Rr.St} {rs : List (List Int)} {v : Value}
theorem PT.ri (h : PT W0 W g xb t st rs v) : RI W0 W g t st := h.1
theorem PT.xbl (h : PT W0 W g xb t st rs v) : W.heap[xb]? = some (.cells #[v] 28) := h.2.1
theorem PT.rows (h : PT W0 W g xb t st rs v) : Kd.R kRow 23 W W0.heap.size (fun _ => True) v rs := h.2.2.2
theorem ri_ne (h : RI W0 W g t st) (hx : W.heap[xb]? = some (.cells #[v] 28)) : g ≠ xb := fun e => by
 have h1 := h.blk
 rw [e, hx] at h1; simp at h1
theorem PT.ne (h : PT W0 W g xb t st rs v) : g ≠ xb := ri_ne h.ri h.xbl
theorem PT.step (h : PT W0 W g xb t st rs v) (hr : RI W0 W' g t st') (hk : KeepBut W W' g none) : PT W0 W' g xb t st' rs v :=
 ⟨hr, (hk.2 xb (Array.getElem?_eq_some_iff.1 h.xbl).1 (fun e => h.ne e.symm) (by simp)).trans h.xbl, h.2.2.1, Kd.R_mono (Kd.R_keep (Kd.R_types h.rows h.ri.blk (by decide)) hk (fun _ hk => hk.2)) (fun _ _ => trivial)⟩
theorem PT.cell (h : PT W0 W g xb t st rs v) : W.cell? ⟨xb, 0, none⟩ = some v := by rw [Lib.cell_of_heap h.xbl]; rfl
theorem PT.put (hr : RI W0 W g t st) (hx : W.heap[xb]? = some (.cells #[v] 28)) (h0 : W0.heap.size ≤ xb) {v' : Value} {rs' : List (List Int)} (hR : Kd.R kRow 23 W W0.heap.size (fun _ => True) v' rs') : PT W0 (W.setCell ⟨xb, 0, none⟩ v') g xb t st rs' v' :=
 ⟨hr.setB (ri_ne hr hx) h0 v', blk_put hx 0 v' rfl, h0, Kd.R_set hR hx (by decide) 0 v'⟩
end
/-- A list that has been read, as an element. -/
theorem row_M {w : World} {base b : Nat} {v : Value} {l : List Int} (h : w.ownsRow b 3 1 v l.length (l.flatMap ic)) (hb : base ≤ b) : kRow.M w base (fun k => b ≤ k) l [v] :=
 ⟨v, rfl, Kd.R_lower (Kd.R_mono (Kd.R_bound (R_of_rows (K := Kd.int .i64) (enc := ic) kint_M (fun _ => rfl) (by decide) h)) (fun _ hk => hk.2.1)) hb⟩
set_option maxRecDepth 100000 in
set_option maxHeartbeats 16000000 in
theorem getPlan_walk (s : ByteArray) (hs : s.size ≤ 1000000000) (w : World) (HT : Tab w) : Calls Tryz.prog 36 #[.string s] w fun e w' => ∃ v, e = .returned (.tuple #[.agg #[v], .agg #[.int .i64 (Rr.getPlan s).2.1, .int .i64 (Rr.getPlan s).2.2]]) ∧ Kd.R kRow 23 w' w.heap.size (fun _ => True) v (Rr.getPlan s).1 ∧ Below w.heap.size w w' := by
 have hop := opened_walk s (by omega) 2 (PW w) (HT.below (PW.below w))
 have hots : (Rr.opT s).size ≤ 1000000000 := by
  have h : (Pk.opn s.data.toList).1.length ≤ s.data.toList.length := by
   unfold Pk.opn
   split
   ·simp
   ·split
    ·simp
    ·simp only [List.length_take]; omega
  unfold Rr.opT
  rw [Evs.S_size]
  rw [Evs.size_len] at h
  omega
 have hok0 := Rr.ok_opened s 2
 obtain ⟨F, hF⟩ : ∃ F, Rr.getPlan s = F := ⟨_, rfl⟩
 rw [hF]
 unfold Rr.getPlan Rr.planE Rr.planR at hF
 obtain ⟨t, ht⟩ : ∃ t, Rr.opT s = t := ⟨_, rfl⟩
 obtain ⟨st0, hst0⟩ : ∃ st, Rr.opened s 2 = st := ⟨_, rfl⟩
 rw [ht, hst0] at hop hok0
 rw [ht, hst0] at hF
 rw [ht] at hots
 have HOP := Aside0.mk hop
 have HF := Aside0.mk hF
 have HOK := Aside0.mk hok0
 have HPS := Aside0.mk (PW.size w)
 clear hop hF hok0 ht hst0
 go_enter Tryz.func36, Tryz.ntmps36
 go_wp2_with fail
 refine HOP.out.mono ?_
 rintro e W1 ⟨g, rfl, h1⟩
 have HG0 := Aside0.mk (show PT (PW w) (W1.alloc (.cells #[.slice none 0 0] 28)) g W1.heap.size t st0 [] (.slice none 0 0) from ⟨h1.below (below_one _ _), Array.getElem?_push_size, h1.bl.size, Kd.R_nil _ _ _ _ _⟩)
 have HC := Aside0.mk (count_walk HG0.out.ri (by omega) HOK.out)
 have hcl := Rr.count_le HOK.out
 have hokc := Rr.ok_count HOK.out
 clear h1 HOP
 obtain ⟨cn, hcn⟩ : ∃ r, Rr.count t st0 = r := ⟨_, rfl⟩
 rw [hcn] at HC hcl hokc
 have HCN := Aside0.mk hcn
 clear hcn
 go_wp2_with fail
 refine HC.out.mono ?_
 rintro e W5 ⟨rfl, h5, k5⟩
 have HG5 := Aside0.mk (HG0.out.step h5 k5)
 clear h5 k5 HC HG0
 go_upto_block 0 with (fail)
 obtain ⟨R, hR⟩ : ∃ R, Rr.routesN t cn.1.toNat [] cn.2 = R := ⟨_, rfl⟩
 have HR := Aside0.mk hR
 have HOKC := Aside0.mk hokc
 go_cut [] (fun wc => ∃ v6, PT (PW w) wc g W1.heap.size t R.2 R.1 v6)
 case first =>
  clear hR hokc
  go_wp2_with fail
  go_loopw [11] (fun v11 wr => ∃ (k : Nat) (l : List (List Int)) (st' : Rr.St) (v6 : Value), k ≤ cn.1.toNat ∧ v11 = .int .i64 k ∧ l.length = k ∧ PT (PW w) wr g W1.heap.size t st' l v6 ∧ Rr.Ok t st' ∧ Rr.routesN t (cn.1.toNat - k) l st' = R) (fun v _ => cn.1.toNat - (intOf v).toNat)
  case atStart => exact ⟨0, [], cn.2, _, Nat.zero_le _, rfl, rfl, HG5.out, HOKC.out, HR.out⟩
  case round =>
   obtain ⟨k, l, st', v6, hk, rfl, hlk, hgs, hok, hN⟩ := hrel
   have HGS := Aside0.mk hgs
   have HN := Aside0.mk hN
   have HO := Aside0.mk hok
   clear hgs hN HG5 HR hok HOKC
   by_cases hlt : (k : Int) < cn.1
   ·have HL := Aside0.mk (rlist_walk HGS.out.ri (by omega) HO.out)
    have hokl := Rr.ok_list HO.out
    have hsub : cn.1.toNat - k = (cn.1.toNat - (k + 1)) + 1 := by omega
    have hN := HN.out
    rw [hsub] at hN
    unfold Rr.routesN at hN
    obtain ⟨q, hq⟩ : ∃ q, Rr.list t st' = q := ⟨_, rfl⟩
    rw [hq] at HL hN hokl
    have HN2 := Aside0.mk hN
    have HOL := Aside0.mk hokl
    clear hN hsub HN hq hokl
    go_wp2_with fail
    refine HL.out.mono ?_
    rintro e W6 ⟨vl, rfl, hol, h6, k6⟩
    have HG6 := Aside0.mk (HGS.out.step h6 k6)
    have HFN := Aside0.mk h6.fine
    have HOW := Aside0.mk hol
    have HWS : Aside0 ((PW w).heap.size ≤ wr.heap.size) := ⟨HGS.out.ri.bl.size⟩
    have HWV : Aside0 (∀ k, v6.ownBlock = some k → k < wr.heap.size) := ⟨by obtain ⟨inner, ho⟩ := Kd.R_own HGS.out.rows; exact fun k hk => (ho.lt k hk).2⟩
    clear h6 k6 hol HL HGS HO
    by_cases h0 : q.2.c = 0
    ·have hb : (q.2.c == 0) = true := by simpa using h0
     rw [hb] at HFN
     clear hb
     go_wp2_with fail
     refine HFN.out.mono ?_
     rintro e W7 ⟨rfl, h7, k7⟩
     have HO7 : Aside0 (W7.ownsRow wr.heap.size 3 1 vl q.1.length (q.1.flatMap ic)) := ⟨k7.own HOW.out (own3_ne HOW.out HG6.out.ri.blk (by decide)) (by cases hb : vl.ownBlock <;> simp)⟩
     have HG7 := Aside0.mk (HG6.out.step h7 k7)
     obtain ⟨Al, cl, rfl⟩ := own_slice HO7.out
     have hN := HN2.out
     rw [if_pos h0] at hN
     have HNE := Aside0.mk hN
     have c6 := HG7.out.cell
     clear h7 k7 HFN HG6 hN HN2 HOW
     go_wp2_with (at_builtin; refine Kd.R_append kRow (w0 := PW w) (PW w).heap.size rfl _ _ 26 23 (.slice none 0 0) 24 rfl Tryz.underlying26 infoRow rfl (by decide) (by decide) v6 l q.1 [.slice Al q.1.length cl] (fun _ => True) (fun k => wr.heap.size ≤ k) rfl rfl (row_M HO7.out HWS.out) (fun k hk => ⟨trivial, fun e => by have := HWV.out k e.symm; omega⟩) (fun _ _ => trivial) HG7.out.rows HG7.out.ri.bl HG7.out.ri.bl.size (by omega) ?_)
     intro v9 W9 hR9 hb9 hg9 hat9
     have hx9 : W9.heap[W1.heap.size]? = some (.cells #[v6] 28) := (hg9.block _ (Array.getElem?_eq_some_iff.1 HG7.out.xbl).1 (Kd.R_ne HG7.out.rows HG7.out.xbl (by decide))).trans HG7.out.xbl
     have hi9 : RI (PW w) W9 g t q.2 := ⟨HG7.out.ri.is.grown hg9 (Kd.R_ne HG7.out.rows HG7.out.ri.blk (by decide)), hb9⟩
     have hln : (l ++ [q.1]).length = k + 1 := by rw [List.length_append, hlk]; rfl
     obtain ⟨A9, c9, e9⟩ := Kd.R_slice hR9
     rw [hln] at e9
     subst e9
     have hc9 : W9.cell? ⟨W1.heap.size, 0, none⟩ = some v6 := by rw [Lib.cell_of_heap hx9]; rfl
     have hf9 := Lib.frozen_of_heap hx9 0
     have HG9 := Aside0.mk (PT.put hi9 hx9 HG7.out.2.2.1 hR9)
     have HLN := Aside0.mk hln
     clear hx9 hi9 hR9 hb9 hg9 hat9 hln HG7 HO7 HWV c6
     go_wp2_with fail
     go_roundw
     case rel => exact ⟨k + 1, l ++ [q.1], q.2, _, by omega, by go_num, HLN.out, HG9.out, HOL.out, HNE.out⟩
     case measure => simp [intOf]; omega
    ·have hb : (q.2.c == 0) = false := by simpa using h0
     rw [hb] at HFN
     have hN := HN2.out
     rw [if_neg h0] at hN
     clear hb HN2
     go_wp2_with fail
     refine HFN.out.mono ?_
     rintro e W8 ⟨rfl, h8, k8⟩
     have HG8 := Aside0.mk (HG6.out.step h8 k8)
     have HNE := Aside0.mk hN
     clear h8 k8 HFN HG6 hN HOW HWV
     go_wp2_with fail
     go_meet
     case rel => exact ⟨_, by rw [← HNE.out]; exact HG8.out⟩
   ·have hN := HN.out
    rw [show cn.1.toNat - k = 0 by omega] at hN
    have HNE := Aside0.mk hN
    clear hN HN
    go_wp2_with fail
    go_meet
    case rel => exact ⟨_, by rw [← HNE.out]; exact HGS.out⟩
 case rest =>
  obtain ⟨v6, hgs⟩ := hcut
  have HGR := Aside0.mk hgs
  have hokr := Rr.ok_routesN cn.1.toNat [] cn.2 HOKC.out
  rw [hR] at hokr
  have HE := Aside0.mk (end_walk HGR.out.ri (by omega) hokr)
  have hFe := HF.out
  rw [HCN.out, hR] at hFe
  obtain ⟨fe, hfe⟩ : ∃ f, Rr.fin t R.2 = f := ⟨_, rfl⟩
  rw [hfe] at hFe HE
  have HFE := Aside0.mk hFe
  clear hgs hokr hFe hfe hR HR HG5 HF HCN HOKC hokc
  go_wp2_with fail
  refine HE.out.mono ?_
  rintro e W12 ⟨rfl, h12, k12⟩
  have HG12 := Aside0.mk (HGR.out.step h12 k12)
  clear h12 k12 HE HGR
  have HZ0 : Aside0 (W12.heap[w.heap.size]? = some (.cells #[.slice none 0 0] 28)) := ⟨(HG12.out.ri.bl.block w.heap.size (by rw [HPS.out]; omega)).trans (PW.b0 w)⟩
  have HZ1 : Aside0 (W12.heap[w.heap.size + 1]? = some (.cells #[.int .i64 0, .int .i64 0] 38)) := ⟨(HG12.out.ri.bl.block (w.heap.size + 1) (by rw [HPS.out]; omega)).trans (PW.b1 w)⟩
  have HBW : Aside0 (Below w.heap.size w W12) := ⟨(PW.below w).trans (HG12.out.ri.bl.mono (by rw [HPS.out]; omega))⟩
  have HGX : Aside0 (g < W12.heap.size ∧ g ≠ w.heap.size ∧ g ≠ w.heap.size + 1) := ⟨by
   have h1 := (Array.getElem?_eq_some_iff.1 HG12.out.ri.blk).1
   have h2 := HG12.out.ri.is.2
   rw [HPS.out] at h2
   exact ⟨h1, by omega, by omega⟩⟩
  obtain ⟨c0, c1, c2, c3⟩ := HG12.out.ri.cells
  have cx := HG12.out.cell
  by_cases hf : fe.c = 0
  ·have hb : (fe.c == 0) = true := by simpa using hf
   have hFe := HFE.out
   rw [if_pos hf] at hFe
   replace HFE := Aside0.mk hFe
   obtain ⟨A6, c6, e6⟩ := Kd.R_slice HG12.out.rows
   subst e6
   clear hFe hf
   go_wp2_with fail
   refine start_ (n := 7) (S := fun w' => w'.cell? ⟨W1.heap.size, 0, none⟩ = some (.slice A6 R.1.length c6) ∧ w'.cell? ⟨g, 2, none⟩ = some (.int .i64 fe.a) ∧ w'.cell? ⟨g, 3, none⟩ = some (.int .i64 fe.c)) (ds := [6]) #[false, false, false, false, false, false, false] (by kernel_rfl) rfl rfl ⟨cx, c2, c3⟩ (fun hHeld => ?_)
   refine pz (i := 1) (N := some 34) (bz 7 2) ?_
   refine pz (i := 2) (N := some 35) (bz 7 6) ?_
   refine pz (i := 3) (N := some 36) (bz 7 14) ?_
   refine tz (i := 0) (N := some 33) (bz 7 15) hHeld ?_
   refine tz (i := 4) (N := some 37) (bz 7 31) hHeld ?_
   refine one_ (i := 5) (N := none) (bz 7 63) rfl rfl (by kernel_rfl) (by decide) (fun K hK => ?_)
   refine step_store_all (by rfl) rfl 28 (.tmp 2) (.tmp 33) rfl HZ0.out (by rfl) _ [.slice A6 R.1.length c6] (by rfl) rfl (by kernel_rfl) rfl (by intro q hq; simp only [List.mem_cons, List.not_mem_nil, or_false] at hq; rcases hq with rfl <;> rfl) ?_
   intro w1 hb1 hg1
   have kx : w1.cell? ⟨W1.heap.size, 0, none⟩ = some (.slice A6 R.1.length c6) := (grown_cell hg1 ⟨(Array.getElem?_eq_some_iff.1 HG12.out.xbl).1, by have h := HG12.out.2.2.1; rw [HPS.out] at h; exact fun (e : W1.heap.size = w.heap.size) => by omega⟩).trans cx
   have k2 : w1.cell? ⟨g, 2, none⟩ = some (.int .i64 fe.a) := (grown_cell hg1 ⟨HGX.out.1, HGX.out.2.1⟩).trans c2
   have k3 : w1.cell? ⟨g, 3, none⟩ = some (.int .i64 fe.c) := (grown_cell hg1 ⟨HGX.out.1, HGX.out.2.1⟩).trans c3
   have HZ1' : w1.heap[w.heap.size + 1]? = some (.cells #[.int .i64 0, .int .i64 0] 38) := (hg1.block (w.heap.size + 1) (Array.getElem?_eq_some_iff.1 HZ1.out).1 (fun e => by injection e; omega)).trans HZ1.out
   have HG1 := Aside0.mk hg1
   have HB1' := Aside0.mk hb1
   clear hg1 hb1
   refine hK.out _ _ ⟨kx, k2, k3⟩ (fun hHeld => ?_)
   clear hK K
   refine last_ (i := 6) (N := none) (bz 7 127) rfl rfl (by kernel_rfl) (by decide) (fun K hK => ?_)
   refine step_store_all (by rfl) rfl 38 (.tmp 3) (.tmp 37) rfl HZ1' (by rfl) _ [.int .i64 fe.a, .int .i64 fe.c] (by rfl) rfl (by kernel_rfl) rfl (by intro q hq; simp only [List.mem_cons, List.not_mem_nil, or_false] at hq; rcases hq with rfl | rfl <;> rfl) ?_
   intro w2 hb2 hg2
   have HB1 := Aside0.mk ((hg2.block w.heap.size (Array.getElem?_eq_some_iff.1 HB1'.out).1 (fun e => by injection e; omega)).trans HB1'.out)
   refine hK.out _ _ ?_
   clear hK K
   refine done_ (by kernel_rfl) ?_
   go_wp2_with fail
   refine bodyPost_ret (results_cc rfl _ _ w.heap.size (w.heap.size + 1) 28 38 #[.slice A6 R.1.length c6] #[.int .i64 fe.a, .int .i64 fe.c] (0, 0) (0, 0) _ _ rfl HB1.out Tryz.underlying28 rfl (by kernel_rfl) rfl hb2 Tryz.underlying38 rfl (by kernel_rfl)) rfl ?_
   rw [← HFE.out]
   have s : ∀ k, (True ∧ k ≠ w.heap.size) → some k ≠ some w.heap.size := fun k hk e => hk.2 (by injection e)
   have s1 : ∀ k, (True ∧ k ≠ w.heap.size + 1) → some k ≠ some (w.heap.size + 1) := fun k hk e => hk.2 (by injection e)
   have hR1 := Kd.R_mono (Kd.R_grown (Kd.R_types (Kd.R_below HG12.out.rows ((Below.refl _ _).drew)) HZ0.out (by decide)) HG1.out s) (fun _ _ => trivial)
   have hR2 := Kd.R_mono (Kd.R_grown (Kd.R_types hR1 ((HG1.out.block _ (Array.getElem?_eq_some_iff.1 HZ1.out).1 (fun e => by injection e; omega)).trans HZ1.out) (by decide)) hg2 s1) (fun _ _ => trivial)
   exact ⟨_, rfl, Kd.R_lower hR2 (by rw [HPS.out]; omega), ((HBW.out.drew).grown HG1.out (by have := HBW.out.size; simpa using this) (fun k hk => by injection hk; omega)).grown hg2 (Nat.le_trans HBW.out.size (by have := HG1.out.size; simpa using this)) (fun k hk => by injection hk; omega)⟩
  ·have hb : (fe.c == 0) = false := by simpa using hf
   have hFe := HFE.out
   rw [if_neg hf] at hFe
   replace HFE := Aside0.mk hFe
   clear hFe hf
   go_wp2_with fail
   refine start_ (n := 7) (S := fun w' => w'.cell? ⟨g, 2, none⟩ = some (.int .i64 fe.a) ∧ w'.cell? ⟨g, 3, none⟩ = some (.int .i64 fe.c)) (ds := [6]) #[false, false, false, false, false, false, false] (by kernel_rfl) rfl rfl ⟨c2, c3⟩ (fun hHeld => ?_)
   refine pz (i := 0) (N := some 28) (bz 7 1) ?_
   refine pz (i := 1) (N := some 29) (bz 7 3) ?_
   refine pz (i := 2) (N := some 30) (bz 7 7) ?_
   refine pz (i := 3) (N := some 31) (bz 7 15) ?_
   refine tz (i := 4) (N := some 32) (bz 7 31) hHeld ?_
   refine one_ (i := 5) (N := none) (bz 7 63) rfl rfl (by kernel_rfl) (by decide) (fun K hK => ?_)
   refine step_store_all (by rfl) rfl 28 (.tmp 2) (.tmp 28) rfl HZ0.out (by rfl) _ [.slice none 0 0] (by rfl) rfl (by kernel_rfl) rfl (by intro q hq; simp only [List.mem_cons, List.not_mem_nil, or_false] at hq; rcases hq with rfl <;> rfl) ?_
   intro w1 hb1 hg1
   have k2 : w1.cell? ⟨g, 2, none⟩ = some (.int .i64 fe.a) := (grown_cell hg1 ⟨HGX.out.1, HGX.out.2.1⟩).trans c2
   have k3 : w1.cell? ⟨g, 3, none⟩ = some (.int .i64 fe.c) := (grown_cell hg1 ⟨HGX.out.1, HGX.out.2.1⟩).trans c3
   have HZ1' : w1.heap[w.heap.size + 1]? = some (.cells #[.int .i64 0, .int .i64 0] 38) := (hg1.block (w.heap.size + 1) (Array.getElem?_eq_some_iff.1 HZ1.out).1 (fun e => by injection e; omega)).trans HZ1.out
   have HG1 := Aside0.mk hg1
   have HB1' := Aside0.mk hb1
   clear hg1 hb1
   refine hK.out _ _ ⟨k2, k3⟩ (fun hHeld => ?_)
   clear hK K
   refine last_ (i := 6) (N := none) (bz 7 127) rfl rfl (by kernel_rfl) (by decide) (fun K hK => ?_)
   refine step_store_all (by rfl) rfl 38 (.tmp 3) (.tmp 32) rfl HZ1' (by rfl) _ [.int .i64 fe.a, .int .i64 fe.c] (by rfl) rfl (by kernel_rfl) rfl (by intro q hq; simp only [List.mem_cons, List.not_mem_nil, or_false] at hq; rcases hq with rfl | rfl <;> rfl) ?_
   intro w2 hb2 hg2
   have HB1 := Aside0.mk ((hg2.block w.heap.size (Array.getElem?_eq_some_iff.1 HB1'.out).1 (fun e => by injection e; omega)).trans HB1'.out)
   refine hK.out _ _ ?_
   clear hK K
   refine done_ (by kernel_rfl) ?_
   go_wp2_with fail
   refine bodyPost_ret (results_cc rfl _ _ w.heap.size (w.heap.size + 1) 28 38 #[.slice none 0 0] #[.int .i64 fe.a, .int .i64 fe.c] (0, 0) (0, 0) _ _ rfl HB1.out Tryz.underlying28 rfl (by kernel_rfl) rfl hb2 Tryz.underlying38 rfl (by kernel_rfl)) rfl ?_
   rw [← HFE.out]
   exact ⟨_, rfl, Kd.R_nil _ _ _ _ _, ((HBW.out.drew).grown HG1.out (by have := HBW.out.size; simpa using this) (fun k hk => by injection hk; omega)).grown hg2 (Nat.le_trans HBW.out.size (by have := HG1.out.size; simpa using this)) (fun k hk => by injection hk; omega)⟩
end Go.Proofs.YtofklpphalalhaaGreatDoor
