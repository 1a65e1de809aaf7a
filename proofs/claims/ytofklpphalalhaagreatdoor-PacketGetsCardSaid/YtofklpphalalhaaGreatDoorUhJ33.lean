/- Texts of this claim, joined: GivenB, PAllx14, DgF. Each as it was, cut to what the claim uses. Conditions: each theorem's own. -/
import Derived.Test.YtofklpphalalhaaGreatDoorUhJ1
import Derived.Test.YtofklpphalalhaaGreatDoorUhJ32
import Derived.Test.YtofklpphalalhaaGreatDoorUhGivenY
import Derived.Deep.DeepCutAuto
import Derived.Deep.CutBlock
import Derived.Test.YtofklpphalalhaaGreatDoorUhPAllx1
import Derived.Test.YtofklpphalalhaaGreatDoorUhJ4
import Derived.Test.YtofklpphalalhaaGreatDoorUhJ9
import Derived.Lib.SlicesCompact
section
namespace Go.Proofs.YtofklpphalalhaaGreatDoor
set_option linter.unusedVariables false
set_option linter.unusedSimpArgs false
open Go.RowKit Go.Proofs.YtofklpphalalhaaGreatDoor.PAll Go.Proofs.YtofklpphalalhaaGreatDoorW.PrintWords Go.Proofs.YtofklpphalalhaaGreatDoorW.PrintLast Go.Proofs.YtofklpphalalhaaGreatDoorW.PrintMore
/-- The boxes of the answers. -/
def QW (w : World) : World := (w.alloc (.cells #[.slice none 0 0] 54)).alloc (.cells #[.int .i64 0, .int .i64 0] 38)
theorem QW.size (w : World) : (QW w).heap.size = w.heap.size + 2 := by unfold QW; simp
theorem QW.below (w : World) : Below w.heap.size w (QW w) := below_two w _ _
theorem QW.b0 (w : World) : (QW w).heap[w.heap.size]? = some (.cells #[.slice none 0 0] 54) := (two_blocks w _ _).1
theorem QW.b1 (w : World) : (QW w).heap[w.heap.size + 1]? = some (.cells #[.int .i64 0, .int .i64 0] 38) := (two_blocks w _ _).2
/-- What GetPlan has: the reader, and the plan's block, with rows of its own. -/
def QT (W0 W : World) (g xb : Nat) (t : ByteArray) (st : Rr.St) (rs : List (List Int)) (v : Value) : Prop :=
 RQ W0 W g t st ∧ W.heap[xb]? = some (.cells #[v] 54) ∧ W0.heap.size ≤ xb ∧ Kd.R kRow 23 W W0.heap.size (fun _ => True) v rs
section
variable {W0 W W' : World} {g xb : Nat} {t : ByteArray} {st st' : Rr.St} {rs : List (List Int)} {v : Value}
theorem QT.ri (h : QT W0 W g xb t st rs v) : RQ W0 W g t st := h.1
theorem QT.xbl (h : QT W0 W g xb t st rs v) : W.heap[xb]? = some (.cells #[v] 54) := h.2.1
theorem QT.rows (h : QT W0 W g xb t st rs v) : Kd.R kRow 23 W W0.heap.size (fun _ => True) v rs := h.2.2.2
theorem rq_ne (h : RQ W0 W g t st) (hx : W.heap[xb]? = some (.cells #[v] 54)) : g ≠ xb := fun e => by
 have h1 := h.blk
 rw [e, hx] at h1; simp at h1
theorem QT.ne (h : QT W0 W g xb t st rs v) : g ≠ xb := rq_ne h.ri h.xbl
theorem QT.step (h : QT W0 W g xb t st rs v) (hr : RQ W0 W' g t st') (hk : KeepBut W W' g none) : QT W0 W' g xb t st' rs v :=
 ⟨hr, (hk.2 xb (Array.getElem?_eq_some_iff.1 h.xbl).1 (fun e => h.ne e.symm) (by simp)).trans h.xbl, h.2.2.1, Kd.R_mono (Kd.R_keep (Kd.R_types h.rows h.ri.blk (by decide)) hk (fun _ hk => hk.2)) (fun _ _ => trivial)⟩
theorem QT.cell (h : QT W0 W g xb t st rs v) : W.cell? ⟨xb, 0, none⟩ = some v := by rw [Lib.cell_of_heap h.xbl]; rfl
theorem RQ.setB {j B : Nat} (h : RQ W0 W g t st) (hg : g ≠ B) (hB : W0.heap.size ≤ B) (u : Value) : RQ W0 (W.setCell ⟨B, j, none⟩ u) g t st :=
 ⟨⟨(Below.heap_setCell W ⟨B, j, none⟩ u g hg).trans h.blk, h.is.2⟩, h.bl.setCell (p := ⟨B, j, none⟩) hB _⟩
theorem RQ.grown {row : Option Nat} (h : RQ W0 W g t st) (hg : W.grownBy W' row) (hne : some g ≠ row) (hr : ∀ k, row = some k → W0.heap.size ≤ k) : RQ W0 W' g t st :=
 ⟨⟨(hg.block g (Array.getElem?_eq_some_iff.1 h.blk).1 hne).trans h.blk, h.is.2⟩, h.bl.grown hg h.bl.size hr⟩
theorem QT.put (hr : RQ W0 W g t st) (hx : W.heap[xb]? = some (.cells #[v] 54)) (h0 : W0.heap.size ≤ xb) {v' : Value} {rs' : List (List Int)} (hR : Kd.R kRow 23 W W0.heap.size (fun _ => True) v' rs') : QT W0 (W.setCell ⟨xb, 0, none⟩ v') g xb t st rs' v' :=
 ⟨hr.setB (rq_ne hr hx) h0 v', blk_put hx 0 v' rfl, h0, Kd.R_set hR hx (by decide) 0 v'⟩
theorem own_zero3 {base : Nat} (hb : base ≤ W.heap.size) : (W.alloc (.cells #[] 3)).ownsRow base 3 1 (.slice (some ⟨W.heap.size, 0, none⟩) 0 0) 0 [] :=
 ⟨rfl, .inr ⟨_, 0, #[], rfl, hb, Array.getElem?_push_size, Nat.le_refl _, by unfold maxLen; omega, rfl, rfl⟩⟩
end
/-- What the inner loop has: the reader, a row of its own above the round's world. -/
def QL (W0 wo W : World) (g : Nat) (t : ByteArray) (st : Rr.St) (l : List Int) (v : Value) : Prop :=
 RQ W0 W g t st ∧ KeepBut wo W g none ∧ W.ownsRow wo.heap.size 3 1 v l.length (l.flatMap ic)
theorem QL.step {W0 wo W W' : World} {g : Nat} {t : ByteArray} {st st' : Rr.St} {l : List Int} {v : Value} (h : QL W0 wo W g t st l v) (hr : RQ W0 W' g t st') (hk : KeepBut W W' g none) : QL W0 wo W' g t st' l v :=
 ⟨hr, KB.trans h.2.1 hk, hk.own h.2.2 (own3_ne h.2.2 h.1.blk (by decide)) (by cases hb : v.ownBlock <;> simp)⟩
theorem QL.app {W0 wo W W' : World} {g : Nat} {t : ByteArray} {st : Rr.St} {l : List Int} {v v' : Value} {x : Int} (h : QL W0 wo W g t st l v) (hwo : W0.heap.size ≤ wo.heap.size) (ho : W'.ownsRow wo.heap.size 3 1 v' (l ++ [x]).length ((l ++ [x]).flatMap ic)) (hg : (W.alloc (.cells #[.int .i64 x] 3)).grownBy W' v.ownBlock) : QL W0 wo W' g t st (l ++ [x]) v' := by
 have hal : Below W.heap.size W (W.alloc (.cells #[.int .i64 x] 3)) := below_one _ _
 refine ⟨(h.1.below hal).grown hg (fun e => own3_ne h.2.2 h.1.blk (by decide) e.symm) (fun k hk => Nat.le_trans hwo (h.2.2.lt k hk).1), ?_, ho⟩
 have h5 : KeepBut wo (W.alloc (.cells #[.int .i64 x] 3)) g none := KB.trans h.2.1 (KeepBut.of_below hal g none)
 refine ⟨Nat.le_trans h5.1 hg.size, fun i hi hgi hr => ?_⟩
 rw [hg.block i (Nat.lt_of_lt_of_le hi h5.1) (fun e => by have := (h.2.2.lt i e.symm).1; omega)]
 exact h5.2 i hi hgi hr
set_option maxRecDepth 100000 in
set_option maxHeartbeats 16000000 in
theorem getPlan2_walk (s : ByteArray) (hs : s.size ≤ 1000000000) (w : World) : Calls Tryz.prog 84 #[.string s] w fun e w' => ∃ v, e = .returned (.tuple #[.agg #[v], .agg #[.int .i64 (Rq.getPlan s).2.1, .int .i64 (Rq.getPlan s).2.2]]) ∧ Kd.R kRow 23 w' w.heap.size (fun _ => True) v (Rq.getPlan s).1 ∧ Below w.heap.size w w' := by
 have hop := opened2_walk s (by omega) 2 (QW w)
 have hots : (Rr.opT s).size ≤ 1000000000 := by
  have h : (Pk.opn s.data.toList).1.length ≤ s.data.toList.length := by
   unfold Pk.opn
   split
   ·simp
   ·split
    ·simp
    ·simp only [List.length_take]; omega
  unfold Rr.opT
  rw [Evs.S_size]
  rw [Evs.size_len] at h
  omega
 have hok0 := Rr.ok_opened s 2
 obtain ⟨F, hF⟩ : ∃ F, Rq.getPlan s = F := ⟨_, rfl⟩
 rw [hF]
 unfold Rq.getPlan Rq.planE Rq.planR at hF
 obtain ⟨t, ht⟩ : ∃ t, Rr.opT s = t := ⟨_, rfl⟩
 obtain ⟨st0, hst0⟩ : ∃ st, Rr.opened s 2 = st := ⟨_, rfl⟩
 rw [ht, hst0] at hop hok0
 rw [ht, hst0] at hF
 rw [ht] at hots
 have HOP := Aside0.mk hop
 have HF := Aside0.mk hF
 have HOK := Aside0.mk hok0
 have HPS := Aside0.mk (QW.size w)
 clear hop hF hok0 ht hst0
 go_enter Tryz.func84, Tryz.ntmps84
 go_wp2_with fail
 refine HOP.out.mono ?_
 rintro e W1 ⟨g, rfl, h1⟩
 have HG0 := Aside0.mk (show QT (QW w) (W1.alloc (.cells #[.slice none 0 0] 54)) g W1.heap.size t st0 [] (.slice none 0 0) from ⟨h1.below (below_one _ _), Array.getElem?_push_size, h1.bl.size, Kd.R_nil _ _ _ _ _⟩)
 have HC := Aside0.mk (HG0.out.ri.count (by omega) (by have := HOK.out.2; omega))
 have hokc := Rq.ok_count HOK.out
 clear h1 HOP
 obtain ⟨cn, hcn⟩ : ∃ r, Rq.count t st0 = r := ⟨_, rfl⟩
 have hcl : cn.2.c = 0 → cn.1 ≤ t.size := by rw [← hcn]; exact Rq.count_le
 rw [hcn] at HC hokc
 have HCN := Aside0.mk hcn
 have HCL := Aside0.mk hcl
 clear hcn hcl
 go_wp2_with fail
 refine HC.out.mono ?_
 rintro e W5 ⟨rfl, h5, k5⟩
 have HG5 := Aside0.mk (HG0.out.step h5 k5)
 clear h5 k5 HC HG0
 go_upto_block 0 with (fail)
 obtain ⟨R, hR⟩ : ∃ R, Rq.routesN t cn.1.toNat [] cn.2 = R := ⟨_, rfl⟩
 have HR := Aside0.mk hR
 have HOKC := Aside0.mk hokc
 go_cut [] (fun wc => ∃ v6, QT (QW w) wc g W1.heap.size t R.2 R.1 v6)
 case first =>
  clear hR hokc
  go_wp2_with fail
  go_loopw [7] (fun v7 wr => ∃ (k : Nat) (l : List (List Int)) (st' : Rr.St) (v6 : Value), k ≤ cn.1.toNat ∧ v7 = .int .i64 k ∧ l.length = k ∧ QT (QW w) wr g W1.heap.size t st' l v6 ∧ Rr.Ok t st' ∧ (st'.c = 0 → cn.1 ≤ t.size) ∧ Rq.routesN t (cn.1.toNat - k) l st' = R) (fun v _ => cn.1.toNat - (intOf v).toNat)
  case atStart => exact ⟨0, [], cn.2, _, Nat.zero_le _, rfl, rfl, HG5.out, HOKC.out, HCL.out, HR.out⟩
  case round =>
   obtain ⟨k, l, st', v6, hk, rfl, hlk, hgs, hok, hcl, hN⟩ := hrel
   have HGS := Aside0.mk hgs
   have HN := Aside0.mk hN
   have HO := Aside0.mk hok
   have HCT := Aside0.mk hcl
   clear hgs hN HG5 HR hok HOKC hcl HCL
   by_cases hlt : (k : Int) < cn.1
   ·have HFN := Aside0.mk HGS.out.ri.fine
    have hsub : cn.1.toNat - k = (cn.1.toNat - (k + 1)) + 1 := by omega
    have hN := HN.out
    rw [hsub] at hN
    unfold Rq.routesN at hN
    by_cases h0 : st'.c = 0
    ·have hb : (st'.c == 0) = true := by simpa using h0
     rw [hb] at HFN
     rw [if_pos h0] at hN
     have HN2 := Aside0.mk hN
     have hn9 := HCT.out h0
     clear hb hN hsub HN HCT
     go_wp2_with fail
     refine HFN.out.mono ?_
     rintro e W6 ⟨rfl, h6, k6⟩
     have HG6 := Aside0.mk (HGS.out.step h6 k6)
     clear h6 k6 HFN HGS
     obtain ⟨wo, hwo⟩ : ∃ wo, wo = W6 := ⟨_, rfl⟩
     have HRA := Aside0.mk (HG6.out.ri.below (below_one W6 (.cells #[] 3)))
     have HZ := Aside0.mk (own_zero3 (W := W6) (Nat.le_refl W6.heap.size))
     have HC2 := Aside0.mk (HRA.out.count (by omega) (by have := HO.out.2; omega))
     have hok2 := Rq.ok_count HO.out
     unfold Rq.list at HN2
     obtain ⟨cm, hcm⟩ : ∃ r, Rq.count t st' = r := ⟨_, rfl⟩
     have hcl2 : cm.2.c = 0 → cm.1 ≤ t.size := by rw [← hcm]; exact Rq.count_le
     rw [hcm] at HC2 hok2 HN2
     have HOK2 := Aside0.mk hok2
     have HCL2 := Aside0.mk hcl2
     have HL0 := Aside0.mk (Rq.ok_listN cm.1.toNat [] hok2)
     clear hcm hok2 hcl2 HRA
     obtain ⟨L, hL⟩ : ∃ L, Rq.listN t cm.1.toNat [] cm.2 = L := ⟨_, rfl⟩
     rw [hL] at HN2 HL0
     have HL := Aside0.mk hL
     clear hL
     go_wp2_with fail
     refine HC2.out.mono ?_
     rintro e W7 ⟨rfl, h7, k7⟩
     have HQ7 : Aside0 (QL (QW w) W6 W7 g t cm.2 [] (.slice (some ⟨W6.heap.size, 0, none⟩) 0 0)) := ⟨h7, KB.trans (KeepBut.of_below (below_one W6 (.cells #[] 3)) g none) k7, k7.own HZ.out (fun e => by have h1 := (Array.getElem?_eq_some_iff.1 HG6.out.ri.blk).1; simp [Value.ownBlock] at e; omega) (by simp [Value.ownBlock])⟩
     clear h7 k7 HC2 HZ hwo wo
     go_upto_block 2 with (fail)
     go_cut [8] (fun v8 wc => QL (QW w) W6 wc g t L.2 L.1 v8)
     case first =>
      go_wp2_with fail
      go_loopw [8, 10] (fun v8 v10 wi => ∃ (j : Nat) (m : List Int) (s2 : Rr.St), j ≤ cm.1.toNat ∧ v10 = .int .i64 j ∧ m.length = j ∧ QL (QW w) W6 wi g t s2 m v8 ∧ Rr.Ok t s2 ∧ (s2.c = 0 → cm.1 ≤ t.size) ∧ Rq.listN t (cm.1.toNat - j) m s2 = L) (fun _ v _ => cm.1.toNat - (intOf v).toNat)
      case atStart => exact ⟨0, [], cm.2, Nat.zero_le _, rfl, rfl, HQ7.out, HOK2.out, HCL2.out, HL.out⟩
      case round =>
       obtain ⟨j, m, s2, hj, rfl, hmj, hql, hok3, hcl3, hM⟩ := hrel
       have HQL := Aside0.mk hql
       have HO3 := Aside0.mk hok3
       have HM := Aside0.mk hM
       have HCT3 := Aside0.mk hcl3
       clear hql hok3 hM hcl3 HQ7 HOK2 HCL2 HL
       by_cases hlt2 : (j : Int) < cm.1
       ·have HF2 := Aside0.mk HQL.out.1.fine
        have hsub : cm.1.toNat - j = (cm.1.toNat - (j + 1)) + 1 := by omega
        have hM := HM.out
        rw [hsub] at hM
        unfold Rq.listN at hM
        by_cases h02 : s2.c = 0
        ·have hb : (s2.c == 0) = true := by simpa using h02
         rw [hb] at HF2
         rw [if_pos h02] at hM
         have hn10 := HCT3.out h02
         have hokn := Rq.ok_num HO3.out
         obtain ⟨q, hq⟩ : ∃ q, Rq.num t s2 = q := ⟨_, rfl⟩
         rw [hq] at hM hokn
         have HM2 := Aside0.mk hM
         have HOKN := Aside0.mk hokn
         have HQ := Aside0.mk hq
         clear hb hM hsub HM HCT3 hokn hq
         go_wp2_with fail
         refine HF2.out.mono ?_
         rintro e W8 ⟨rfl, h8, k8⟩
         have HQ8 := Aside0.mk (HQL.out.step h8 k8)
         have hnum := HQ8.out.1.num (by omega)
         rw [HQ.out] at hnum
         have HNU := Aside0.mk hnum
         clear h8 k8 HF2 HQL hnum HQ
         go_wp2_with fail
         refine HNU.out.mono ?_
         rintro e W9 ⟨rfl, h9, k9⟩
         have HQ9 := Aside0.mk (HQ8.out.step h9 k9)
         clear h9 k9 HNU HQ8
         go_wp2_with (at_builtin; refine wpList_int HQ9.out.2.2 (by omega) HQ9.out.2.1.1 q.1 rfl _ _ rfl rfl rfl ?_)
         intro v' W10 ho10 hg10
         have ho11 : W10.ownsRow W6.heap.size 3 1 v' (m ++ [q.1]).length ((m ++ [q.1]).flatMap ic) := by first | exact ho10 | (rw [List.length_append, hmj, List.flatMap_append]; simpa using ho10)
         have HQ10 := Aside0.mk (HQ9.out.app HG6.out.ri.bl.size ho11 hg10)
         have HMJ : Aside0 ((m ++ [q.1]).length = j + 1) := ⟨by rw [List.length_append, hmj]; rfl⟩
         clear ho10 ho11 hg10 HQ9
         go_wp2_with fail
         go_roundw
         case rel => exact ⟨j + 1, m ++ [q.1], q.2, by omega, by go_num, HMJ.out, HQ10.out, HOKN.out, fun _ => hn10, HM2.out⟩
         case measure => simp [intOf]; omega
        ·have hb : (s2.c == 0) = false := by simpa using h02
         rw [hb] at HF2
         rw [if_neg h02] at hM
         clear hb hsub HM
         go_wp2_with fail
         refine HF2.out.mono ?_
         rintro e W8 ⟨rfl, h8, k8⟩
         have HQ8 := Aside0.mk (HQL.out.step h8 k8)
         have HME := Aside0.mk hM
         clear h8 k8 HF2 HQL hM
         go_wp2_with fail
         go_meet
         case rel => rw [← HME.out]; exact HQ8.out
       ·have hM := HM.out
        rw [show cm.1.toNat - j = 0 by omega] at hM
        have HME := Aside0.mk hM
        clear hM HM
        go_wp2_with fail
        go_meet
        case rel => rw [← HME.out]; exact HQL.out
     case rest =>
      have HQC := Aside0.mk hcut
      clear hcut
      have HG7 := Aside0.mk (HG6.out.step HQC.out.1 HQC.out.2.1)
      have HWS : Aside0 ((QW w).heap.size ≤ W6.heap.size) := ⟨HG6.out.ri.bl.size⟩
      have HWV : Aside0 (∀ k, v6.ownBlock = some k → k < W6.heap.size) := ⟨by obtain ⟨inner, ho⟩ := Kd.R_own HG6.out.rows; exact fun k hk => (ho.lt k hk).2⟩
      have HO7 := Aside0.mk HQC.out.2.2
      obtain ⟨Al, cl, rfl⟩ := own_slice HO7.out
      have c6 := HG7.out.cell
      clear HQ7 HQC HG6
      go_wp2_with (at_builtin; refine Kd.R_append kRow (w0 := QW w) (QW w).heap.size rfl _ _ 26 23 (.slice none 0 0) 24 rfl Tryz.underlying26 infoRow rfl (by decide) (by decide) v6 l L.1 [.slice Al L.1.length cl] (fun _ => True) (fun k => W6.heap.size ≤ k) rfl rfl (row_M HO7.out HWS.out) (fun k hk => ⟨trivial, fun e => by have := HWV.out k e.symm; omega⟩) (fun _ _ => trivial) HG7.out.rows HG7.out.ri.bl HG7.out.ri.bl.size (by omega) ?_)
      intro v9 W9 hR9 hb9 hg9 hat9
      have hx9 : W9.heap[W1.heap.size]? = some (.cells #[v6] 54) := (hg9.block _ (Array.getElem?_eq_some_iff.1 HG7.out.xbl).1 (Kd.R_ne HG7.out.rows HG7.out.xbl (by decide))).trans HG7.out.xbl
      have hi9 : RQ (QW w) W9 g t L.2 := ⟨HG7.out.ri.is.grown hg9 (Kd.R_ne HG7.out.rows HG7.out.ri.blk (by decide)), hb9⟩
      have hln : (l ++ [L.1]).length = k + 1 := by rw [List.length_append, hlk]; rfl
      obtain ⟨A9, c9, e9⟩ := Kd.R_slice hR9
      rw [hln] at e9
      subst e9
      have hc9 : W9.cell? ⟨W1.heap.size, 0, none⟩ = some v6 := by rw [Lib.cell_of_heap hx9]; rfl
      have hf9 := Lib.frozen_of_heap hx9 0
      have HG9 := Aside0.mk (QT.put hi9 hx9 HG7.out.2.2.1 hR9)
      have HLN := Aside0.mk hln
      clear hx9 hi9 hR9 hb9 hg9 hat9 hln HG7 HO7 HWV c6
      go_wp2_with fail
      go_roundw
      case rel => exact ⟨k + 1, l ++ [L.1], L.2, _, by omega, by go_num, HLN.out, HG9.out, HL0.out, fun _ => hn9, HN2.out⟩
      case measure => simp [intOf]; omega
    ·have hb : (st'.c == 0) = false := by simpa using h0
     rw [hb] at HFN
     rw [if_neg h0] at hN
     clear hb hsub HN
     go_wp2_with fail
     refine HFN.out.mono ?_
     rintro e W8 ⟨rfl, h8, k8⟩
     have HG8 := Aside0.mk (HGS.out.step h8 k8)
     have HNE := Aside0.mk hN
     clear h8 k8 HFN HGS hN
     go_wp2_with fail
     go_meet
     case rel => exact ⟨_, by rw [← HNE.out]; exact HG8.out⟩
   ·have hN := HN.out
    rw [show cn.1.toNat - k = 0 by omega] at hN
    have HNE := Aside0.mk hN
    clear hN HN
    go_wp2_with fail
    go_meet
    case rel => exact ⟨_, by rw [← HNE.out]; exact HGS.out⟩
 case rest =>
  obtain ⟨v6, hgs⟩ := hcut
  have HGR := Aside0.mk hgs
  have HE := Aside0.mk (end2_walk HGR.out.ri)
  have hFe := HF.out
  rw [HCN.out, hR] at hFe
  obtain ⟨fe, hfe⟩ : ∃ f, Rq.fin t R.2 = f := ⟨_, rfl⟩
  rw [hfe] at hFe HE
  have HFE := Aside0.mk hFe
  clear hgs hFe hfe hR HR HG5 HF HCN HOKC hokc HCL
  go_wp2_with fail
  refine HE.out.mono ?_
  rintro e W11 ⟨rfl, h11, k11⟩
  have HG11 := Aside0.mk (HGR.out.step h11 k11)
  have HFN := Aside0.mk h11.fine
  clear h11 k11 HE HGR
  by_cases hf : fe.c = 0
  ·have hb : (fe.c == 0) = true := by simpa using hf
   rw [hb] at HFN
   clear hb
   go_wp2_with fail
   refine HFN.out.mono ?_
   rintro e W12 ⟨rfl, h12, k12⟩
   have HG12 := Aside0.mk (HG11.out.step h12 k12)
   clear h12 k12 HFN HG11
   have HZ0 : Aside0 (W12.heap[w.heap.size]? = some (.cells #[.slice none 0 0] 54)) := ⟨(HG12.out.ri.bl.block w.heap.size (by rw [HPS.out]; omega)).trans (QW.b0 w)⟩
   have HZ1 : Aside0 (W12.heap[w.heap.size + 1]? = some (.cells #[.int .i64 0, .int .i64 0] 38)) := ⟨(HG12.out.ri.bl.block (w.heap.size + 1) (by rw [HPS.out]; omega)).trans (QW.b1 w)⟩
   have HBW : Aside0 (Below w.heap.size w W12) := ⟨(QW.below w).trans (HG12.out.ri.bl.mono (by rw [HPS.out]; omega))⟩
   have HGX : Aside0 (g < W12.heap.size ∧ g ≠ w.heap.size ∧ g ≠ w.heap.size + 1) := ⟨by
    have h1 := (Array.getElem?_eq_some_iff.1 HG12.out.ri.blk).1
    have h2 := HG12.out.ri.is.2
    rw [HPS.out] at h2
    exact ⟨h1, by omega, by omega⟩⟩
   have cx := HG12.out.cell
   have hFe := HFE.out
   rw [if_pos hf] at hFe
   replace HFE := Aside0.mk hFe
   obtain ⟨A6, c6, e6⟩ := Kd.R_slice HG12.out.rows
   subst e6
   clear hFe hf
   go_wp2_with (refine gate_ (.store 54 (.tmp 2) (.tmp 60)) rfl ?_; refine wpList_store_all rfl rfl 54 (.tmp 2) (.tmp 60) rfl HZ0.out (by rfl) _ [.slice A6 R.1.length c6] (by rfl) rfl (by kernel_rfl) rfl (by intro q hq; simp only [List.mem_cons, List.not_mem_nil, or_false] at hq; subst hq; rfl) ?_)
   intro w1 hb1 hg1
   have HZ1' : w1.heap[w.heap.size + 1]? = some (.cells #[.int .i64 0, .int .i64 0] 38) := (hg1.block (w.heap.size + 1) (Array.getElem?_eq_some_iff.1 HZ1.out).1 (fun e => by injection e; omega)).trans HZ1.out
   have HG1 := Aside0.mk hg1
   have HB1' := Aside0.mk hb1
   have HZ1'' := Aside0.mk HZ1'
   clear hg1 hb1 HZ1'
   go_wp2_with (refine gate_ (.store 38 (.tmp 3) (.tmp 61)) rfl ?_; refine wpList_store_all rfl rfl 38 (.tmp 3) (.tmp 61) rfl HZ1''.out (by rfl) _ [.int .i64 0, .int .i64 0] (by rfl) rfl (by kernel_rfl) rfl (by intro q hq; simp only [List.mem_cons, List.not_mem_nil, or_false] at hq; rcases hq with rfl | rfl <;> rfl) ?_)
   intro w2 hb2 hg2
   have HB1 := Aside0.mk ((hg2.block w.heap.size (Array.getElem?_eq_some_iff.1 HB1'.out).1 (fun e => by injection e; omega)).trans HB1'.out)
   go_wp2_with fail
   refine bodyPost_ret (results_cc rfl _ _ w.heap.size (w.heap.size + 1) 54 38 #[.slice A6 R.1.length c6] #[.int .i64 0, .int .i64 0] (0, 0) (0, 0) _ _ rfl HB1.out Tryz.underlying54 rfl (by kernel_rfl) rfl hb2 Tryz.underlying38 rfl (by kernel_rfl)) rfl ?_
   rw [← HFE.out]
   have s : ∀ k, (True ∧ k ≠ w.heap.size) → some k ≠ some w.heap.size := fun k hk e => hk.2 (by injection e)
   have s1 : ∀ k, (True ∧ k ≠ w.heap.size + 1) → some k ≠ some (w.heap.size + 1) := fun k hk e => hk.2 (by injection e)
   have hR1 := Kd.R_mono (Kd.R_grown (Kd.R_types HG12.out.rows HZ0.out (by decide)) HG1.out s) (fun _ _ => trivial)
   have hR2 := Kd.R_mono (Kd.R_grown (Kd.R_types hR1 HZ1''.out (by decide)) hg2 s1) (fun _ _ => trivial)
   exact ⟨_, rfl, Kd.R_lower hR2 (by rw [HPS.out]; omega), (HBW.out.grown HG1.out HBW.out.size (fun k hk => by injection hk; omega)).grown hg2 (Nat.le_trans HBW.out.size HG1.out.size) (fun k hk => by injection hk; omega)⟩
  ·have hb : (fe.c == 0) = false := by simpa using hf
   rw [hb] at HFN
   clear hb
   go_wp2_with fail
   refine HFN.out.mono ?_
   rintro e W12 ⟨rfl, h12, k12⟩
   have HG12 := Aside0.mk (HG11.out.step h12 k12)
   clear h12 k12 HFN HG11
   have HZ0 : Aside0 (W12.heap[w.heap.size]? = some (.cells #[.slice none 0 0] 54)) := ⟨(HG12.out.ri.bl.block w.heap.size (by rw [HPS.out]; omega)).trans (QW.b0 w)⟩
   have HZ1 : Aside0 (W12.heap[w.heap.size + 1]? = some (.cells #[.int .i64 0, .int .i64 0] 38)) := ⟨(HG12.out.ri.bl.block (w.heap.size + 1) (by rw [HPS.out]; omega)).trans (QW.b1 w)⟩
   have HBW : Aside0 (Below w.heap.size w W12) := ⟨(QW.below w).trans (HG12.out.ri.bl.mono (by rw [HPS.out]; omega))⟩
   have HGX : Aside0 (g < W12.heap.size ∧ g ≠ w.heap.size ∧ g ≠ w.heap.size + 1) := ⟨by
    have h1 := (Array.getElem?_eq_some_iff.1 HG12.out.ri.blk).1
    have h2 := HG12.out.ri.is.2
    rw [HPS.out] at h2
    exact ⟨h1, by omega, by omega⟩⟩
   have cx := HG12.out.cell
   have hFe := HFE.out
   rw [if_neg hf] at hFe
   replace HFE := Aside0.mk hFe
   obtain ⟨c0, c1, c2, c3⟩ := HG12.out.ri.cells
   clear hFe hf
   go_wp2_with fail
   refine start_ (n := 7) (S := fun w' => w'.cell? ⟨g, 2, none⟩ = some (.int .i64 fe.a) ∧ w'.cell? ⟨g, 3, none⟩ = some (.int .i64 fe.c)) (ds := [6]) #[false, false, false, false, false, false, false] (by kernel_rfl) rfl rfl ⟨c2, c3⟩ (fun hHeld => ?_)
   refine pz (i := 0) (N := some 55) (bz 7 1) ?_
   refine pz (i := 1) (N := some 56) (bz 7 3) ?_
   refine pz (i := 2) (N := some 57) (bz 7 7) ?_
   refine pz (i := 3) (N := some 58) (bz 7 15) ?_
   refine tz (i := 4) (N := some 59) (bz 7 31) hHeld ?_
   refine one_ (i := 5) (N := none) (bz 7 63) rfl rfl (by kernel_rfl) (by decide) (fun K hK => ?_)
   refine step_store_all (by rfl) rfl 54 (.tmp 2) (.tmp 55) rfl HZ0.out (by rfl) _ [.slice none 0 0] (by rfl) rfl (by kernel_rfl) rfl (by intro q hq; simp only [List.mem_cons, List.not_mem_nil, or_false] at hq; rcases hq with rfl <;> rfl) ?_
   intro w1 hb1 hg1
   have k2 : w1.cell? ⟨g, 2, none⟩ = some (.int .i64 fe.a) := (grown_cell hg1 ⟨HGX.out.1, HGX.out.2.1⟩).trans c2
   have k3 : w1.cell? ⟨g, 3, none⟩ = some (.int .i64 fe.c) := (grown_cell hg1 ⟨HGX.out.1, HGX.out.2.1⟩).trans c3
   have HZ1' : w1.heap[w.heap.size + 1]? = some (.cells #[.int .i64 0, .int .i64 0] 38) := (hg1.block (w.heap.size + 1) (Array.getElem?_eq_some_iff.1 HZ1.out).1 (fun e => by injection e; omega)).trans HZ1.out
   have HG1 := Aside0.mk hg1
   have HB1' := Aside0.mk hb1
   clear hg1 hb1
   refine hK.out _ _ ⟨k2, k3⟩ (fun hHeld => ?_)
   clear hK K
   refine last_ (i := 6) (N := none) (bz 7 127) rfl rfl (by kernel_rfl) (by decide) (fun K hK => ?_)
   refine step_store_all (by rfl) rfl 38 (.tmp 3) (.tmp 59) rfl HZ1' (by rfl) _ [.int .i64 fe.a, .int .i64 fe.c] (by rfl) rfl (by kernel_rfl) rfl (by intro q hq; simp only [List.mem_cons, List.not_mem_nil, or_false] at hq; rcases hq with rfl | rfl <;> rfl) ?_
   intro w2 hb2 hg2
   have HB1 := Aside0.mk ((hg2.block w.heap.size (Array.getElem?_eq_some_iff.1 HB1'.out).1 (fun e => by injection e; omega)).trans HB1'.out)
   refine hK.out _ _ ?_
   clear hK K
   refine done_ (by kernel_rfl) ?_
   go_wp2_with fail
   refine bodyPost_ret (results_cc rfl _ _ w.heap.size (w.heap.size + 1) 54 38 #[.slice none 0 0] #[.int .i64 fe.a, .int .i64 fe.c] (0, 0) (0, 0) _ _ rfl HB1.out Tryz.underlying54 rfl (by kernel_rfl) rfl hb2 Tryz.underlying38 rfl (by kernel_rfl)) rfl ?_
   rw [← HFE.out]
   exact ⟨_, rfl, Kd.R_nil _ _ _ _ _, ((HBW.out.drew).grown HG1.out (by have := HBW.out.size; simpa using this) (fun k hk => by injection hk; omega)).grown hg2 (Nat.le_trans HBW.out.size (by have := HG1.out.size; simpa using this)) (fun k hk => by injection hk; omega)⟩
end Go.Proofs.YtofklpphalalhaaGreatDoor
end
section
-- Written by a program out of the translation, for several roots at once (set All). Not trusted: Lean checks it.
namespace Go.Proofs.YtofklpphalalhaaGreatDoor.PAll
open Go.RowKit Go.Proofs.YtofklpphalalhaaGreatDoorW.PrintWords Go.Proofs.YtofklpphalalhaaGreatDoorW.PrintLast Go.Proofs.YtofklpphalalhaaGreatDoorW.PrintMore
attribute [local go_sem] min2_int min_two
set_option linter.unusedVariables false
set_option linter.unusedSimpArgs false
attribute [local go_sem high] eqA38
/-! ### entrepotref04_Same: function 43 -/
def entrepotref04_Same.l0 : Nat → List (S38) → List (S38) → Int → Option (Bool)
 | 0, _, _, _ => none
 | k + 1, x0, x1, x5 => if x5 < (x0.length : Int) then (if 0 ≤ x5 then (if x5 < (x1.length : Int) then (if (!(((rd_T38 x0 x5).f0) == ((rd_T38 x1 x5).f0)) || (!(((rd_T38 x0 x5).f1) == ((rd_T38 x1 x5).f1)))) = true then (some false) else (entrepotref04_Same.l0 k x0 x1 (wrap64 (x5 + 1)))) else (none)) else (none)) else (some true)
/-! ### entrepotref07_Ints: function 103 -/
def entrepotref07_Ints.l0 : Nat → List Int → List Int → Int → Option (Bool)
 | 0, _, _, _ => none
 | k + 1, x0, x1, x5 => if x5 < (x0.length : Int) then (if 0 ≤ x5 then (if x5 < (x1.length : Int) then (if (rd x0 x5) = (rd x1 x5) then (entrepotref07_Ints.l0 k x0 x1 (wrap64 (x5 + 1))) else (some false)) else (none)) else (none)) else (some true)
def entrepotref07_Ints.f (k : Nat) (l0 : List Int) (l1 : List Int) : Option (Bool) := if (l0.length : Int) = (l1.length : Int) then (entrepotref07_Ints.l0 k l0 l1 0) else (some false)
/-! ### entrepotref09_Same: function 44 -/
def entrepotref09_Same.l0 : Nat → Int → List (List Int) → List (List Int) → Option (Bool)
 | 0, _, _, _ => none
 | k + 1, x5, x281000, x282000 => if x5 < (x281000.length : Int) then (if 0 ≤ x5 then (if x5 < (x282000.length : Int) then ((entrepotref07_Ints.f k (rd_L4 x281000 x5) (rd_L4 x282000 x5)).bind fun t284 => (if t284 = true then (entrepotref09_Same.l0 k (wrap64 (x5 + 1)) x281000 x282000) else (some false))) else (none)) else (none)) else (some true)
end Go.Proofs.YtofklpphalalhaaGreatDoor.PAll
end
section
namespace Dg
end Dg
namespace Dg
open Go.Lib
def rput (d : D) : List D → List D
 | [] => [d]
 | a :: l => if less a d = true then a :: rput d l else if a = d then d :: l else d :: a :: l
theorem rput_mem (d : D) (l : List D) (x : D) : x ∈ rput d l ↔ x = d ∨ x ∈ l := by
  induction l with
  | nil => simp [rput]
  | cons a l ih =>
    rw [rput]
    split
    · rw [List.mem_cons, ih, List.mem_cons]
      constructor
      · rintro (h | h | h)
        · exact .inr (.inl h)
        · exact .inl h
        · exact .inr (.inr h)
      · rintro (h | h | h)
        · exact .inr (.inl h)
        · exact .inl h
        · exact .inr (.inr h)
    · split
      · rename_i e; subst e
        rw [List.mem_cons]
        constructor
        · rintro (h | h)
          · exact .inl h
          · exact .inr (.inr h)
        · rintro (h | h | h)
          · exact .inl h
          · exact .inl h
          · exact .inr h
      · rw [List.mem_cons]
theorem rput_strict (d : D) : ∀ {l : List D}, strict l = true → strict (rput d l) = true := by
  intro l
  induction l with
  | nil => intro _; rfl
  | cons a l ih =>
    intro h
    have hc := strict_cons h
    rw [rput]
    split
    · rename_i c
      refine strict_mk (ih hc.1) fun x hx => ?_
      rcases (rput_mem d l x).1 hx with rfl | hx
      · exact c
      · exact hc.2 x hx
    · split
      · rename_i e; subst e; exact h
      · rename_i c e
        have c2 : less d a = true := by
          cases h2 : less d a with
          | true => rfl
          | false => exact absurd (less_total (by simpa using c) h2) e
        refine strict_mk h fun x hx => ?_
        rcases List.mem_cons.1 hx with rfl | hx
        · exact c2
        · exact less_trans c2 (hc.2 x hx)
theorem rput_take (d : D) : ∀ (l : List D) (n : Nat), (rput d l).take n = (rput d (l.take n)).take n := by
  intro l
  induction l with
  | nil => intro n; simp
  | cons a l ih =>
    intro n
    cases n with
    | zero => simp
    | succ n =>
      rw [List.take_succ_cons, rput, rput]
      split
      · rw [List.take_succ_cons, List.take_succ_cons, ih]
      · split
        · rw [List.take_succ_cons, List.take_succ_cons, List.take_take, Nat.min_self]
        · rw [List.take_succ_cons, List.take_succ_cons]
          cases n with
          | zero => rfl
          | succ n => rw [List.take_succ_cons, List.take_succ_cons, List.take_take, Nat.min_eq_left (by omega)]
def putAll (acc : List D) (l : List D) : List D := l.foldl (fun acc d => rput d acc) acc
def putAll16 (acc : List D) (l : List D) : List D := l.foldl (fun acc d => (rput d acc).take 16) acc
theorem putAll16_eq : ∀ (l acc : List D), putAll16 (acc.take 16) l = (putAll acc l).take 16 := by
  intro l
  induction l with
  | nil => intro acc; rfl
  | cons d l ih =>
    intro acc
    have := ih (rput d acc)
    unfold putAll putAll16 at *
    rw [List.foldl_cons, List.foldl_cons, ← rput_take]
    exact this
theorem putAll_ok : ∀ (l acc : List D), strict acc = true → strict (putAll acc l) = true ∧ ∀ x, x ∈ putAll acc l ↔ x ∈ acc ∨ x ∈ l := by
  intro l
  induction l with
  | nil => intro acc h; exact ⟨h, fun x => by simp [putAll]⟩
  | cons d l ih =>
    intro acc h
    have := ih (rput d acc) (rput_strict d h)
    refine ⟨this.1, fun x => ?_⟩
    have h2 := this.2 x
    rw [rput_mem] at h2
    show x ∈ putAll (rput d acc) l ↔ _
    rw [h2, List.mem_cons]
    constructor
    · rintro ((h | h) | h)
      · exact .inr (.inl h)
      · exact .inl h
      · exact .inr (.inr h)
    · rintro (h | h | h)
      · exact .inl (.inr h)
      · exact .inl (.inl h)
      · exact .inr h
theorem strict_ext : ∀ {l m : List D}, strict l = true → strict m = true → (∀ x, x ∈ l ↔ x ∈ m) → l = m := by
  intro l
  induction l with
  | nil =>
    intro m _ _ h
    cases m with
    | nil => rfl
    | cons b m => exact absurd ((h b).2 List.mem_cons_self) (by simp)
  | cons a l ih =>
    intro m hl hm h
    cases m with
    | nil => exact absurd ((h a).1 List.mem_cons_self) (by simp)
    | cons b m =>
      have h1 := strict_cons hl
      have h2 := strict_cons hm
      have e : a = b := by
        rcases List.mem_cons.1 ((h a).1 List.mem_cons_self) with e | e
        · exact e
        · rcases List.mem_cons.1 ((h b).2 List.mem_cons_self) with e2 | e2
          · exact e2.symm
          · have := less_asymm (h2.2 a e)
            rw [h1.2 b e2] at this; cases this
      subst e
      congr 1
      refine ih h1.1 h2.1 fun x => ⟨fun hx => ?_, fun hx => ?_⟩
      · rcases List.mem_cons.1 ((h x).1 (List.mem_cons_of_mem _ hx)) with e | e
        · subst e
          have := h1.2 x hx
          rw [less_irrefl] at this; cases this
        · exact e
      · rcases List.mem_cons.1 ((h x).2 (List.mem_cons_of_mem _ hx)) with e | e
        · subst e
          have := h2.2 x hx
          rw [less_irrefl] at this; cases this
        · exact e
theorem strict_snoc {l : List D} {x : D} (h : strict l = true) (hx : ∀ y ∈ l, less y x = true) : strict (l ++ [x]) = true := by
  induction l with
  | nil => rfl
  | cons a l ih =>
    have hc := strict_cons h
    refine strict_mk (ih hc.1 fun y hy => hx y (List.mem_cons_of_mem _ hy)) fun y hy => ?_
    rcases List.mem_append.1 hy with hy | hy
    · exact hc.2 y hy
    · obtain rfl := List.mem_singleton.1 hy
      exact hx a List.mem_cons_self
theorem get_bang (l : List D) (i : Nat) (h : i < l.length) : l.toArray[i]! = l[i] := by
 rw [getElem!_pos l.toArray i (by simpa using h)]; rfl
theorem compact_ok (l : List D) (hs : ∀ i (h : i + 1 < l.length), less l[i + 1] (l[i]'(by omega)) = false) : ∀ m, m ≤ l.length →
    strict (compactUpTo l.toArray m) = true ∧ (∀ x, x ∈ compactUpTo l.toArray m ↔ x ∈ l.take m) ∧ (∀ _ : 0 < m, ∀ (_ : m - 1 < l.length), ∀ x ∈ compactUpTo l.toArray m, x = l[m - 1] ∨ less x l[m - 1] = true) := by
  intro m
  induction m with
  | zero => intro _; exact ⟨rfl, fun x => by simp [compactUpTo], fun h => absurd h (Nat.lt_irrefl 0)⟩
  | succ m ih =>
    intro hm
    obtain ⟨h1, h2, h3⟩ := ih (by omega)
    have hml : m < l.length := by omega
    rw [compactUpTo_succ, get_bang l m hml]
    have htake : l.take (m + 1) = l.take m ++ [l[m]] := by
      rw [List.take_add_one, List.getElem?_eq_getElem hml]; rfl
    by_cases hk : keeps l.toArray m = true
    · rw [if_pos hk]
      have hall : ∀ y ∈ compactUpTo l.toArray m, less y l[m] = true := by
        intro y hy
        have hm0 : 0 < m := by
          rcases Nat.eq_zero_or_pos m with e | e
          · subst e; simp [compactUpTo] at hy
          · exact e
        have hne : l[m] ≠ l[m - 1] := by
          unfold keeps at hk
          rw [decide_eq_true_eq] at hk
          rcases hk with e | e
          · omega
          · rw [get_bang l m hml, get_bang l (m - 1) (by omega)] at e; exact e
        have hd := hs (m - 1) (by omega)
        simp only [show m - 1 + 1 = m by omega] at hd
        have hlt : less l[m - 1] l[m] = true := by
          cases h : less l[m - 1] l[m] with
          | true => rfl
          | false => exact absurd (less_total hd h) hne
        rcases h3 hm0 (by omega) y hy with e | e
        · rw [e]; exact hlt
        · exact less_trans e hlt
      refine ⟨strict_snoc h1 hall, fun x => ?_, fun _ _ x hx => ?_⟩
      · rw [htake, List.mem_append, List.mem_append, h2]
      · simp only [Nat.add_sub_cancel]
        rcases List.mem_append.1 hx with hx | hx
        · exact .inr (hall x hx)
        · exact .inl (List.mem_singleton.1 hx)
    · have hm0 : 0 < m := by
        rcases Nat.eq_zero_or_pos m with e | e
        · subst e; exact absurd (keeps_lt_one _ 0 (by omega)) hk
        · exact e
      have he : l[m] = l[m - 1] := by
        by_cases e : l[m] = l[m - 1]
        · exact e
        · refine absurd (keeps_pos ?_) hk
          rw [get_bang l m hml, get_bang l (m - 1) (by omega)]; exact e
      rw [if_neg hk, List.append_nil]
      refine ⟨h1, fun x => ?_, fun _ _ x hx => ?_⟩
      · rw [htake, List.mem_append, h2, List.mem_singleton]
        refine ⟨fun h => .inl h, fun h => ?_⟩
        rcases h with h | h
        · exact h
        · rw [h, he]
          have : l[m - 1] ∈ l.take m := by
            rw [List.mem_take_iff_getElem]
            exact ⟨m - 1, by omega, rfl⟩
          exact this
      · simp only [Nat.add_sub_cancel]
        rw [he]
        exact h3 hm0 (by omega) x hx
theorem all_eq (l : List D) : (compact (l.mergeSort fun x y => !less y x)).take 16 = putAll16 [] l := by
 have hp : (l.mergeSort fun x y => !less y x).Pairwise (fun x y => (!less y x) = true) := List.pairwise_mergeSort (fun a b c h1 h2 => by
  rw [Bool.not_eq_true'] at *
  rw [less_iff'] at *; omega) (fun a b => by
  cases h1 : less b a with
  | false => rfl
  | true => rw [less_asymm h1]; rfl) l
 have hmem : ∀ x, x ∈ (l.mergeSort fun x y => !less y x) ↔ x ∈ l := fun x => (List.mergeSort_perm l _).mem_iff
 generalize (l.mergeSort fun x y => !less y x) = s at hp hmem ⊢
 have hs : ∀ i (h : i + 1 < s.length), less s[i + 1] (s[i]'(by omega)) = false := fun i h => by
  have := List.pairwise_iff_getElem.1 hp i (i + 1) (by omega) h (by omega)
  simpa using this
 obtain ⟨h1, h2, _⟩ := compact_ok s hs s.length (Nat.le_refl _)
 have hA := putAll_ok l [] rfl
 have e : compact s = putAll [] l := strict_ext h1 hA.1 fun x => by
  have h3 := h2 x
  rw [List.take_length, hmem] at h3
  have h4 := hA.2 x
  simp only [List.not_mem_nil, false_or] at h4
  rw [h4]; exact h3
 rw [e, ← putAll16_eq]; rfl
end Dg
end
