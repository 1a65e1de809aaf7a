/- Texts of this claim, joined: PAllx12, EvP. Each as it was, cut to what the claim uses. Conditions: each theorem's own. -/
import Derived.Test.YtofklpphalalhaaGreatDoorUpJ1
import Derived.Test.YtofklpphalalhaaGreatDoorUpPAllx9
import Derived.Test.YtofklpphalalhaaGreatDoorUpPAllx10
import Derived.Test.YtofklpphalalhaaGreatDoorUpJ3
import Derived.Test.YtofklpphalalhaaGreatDoorUpPAllx11
import Derived.Test.YtofklpphalalhaaGreatDoorUpEvs
import Derived.Test.YtofklpphalalhaaGreatDoorUpGivenR
import Derived.Test.YtofklpphalalhaaGreatDoorUpJ26
section
-- Written by a program out of the translation, for several roots at once (set All). Not trusted: Lean checks it.
namespace Go.Proofs.YtofklpphalalhaaGreatDoor.PAll
open Go.RowKit Go.Proofs.YtofklpphalalhaaGreatDoorW.PrintWords Go.Proofs.YtofklpphalalhaaGreatDoorW.PrintLast Go.Proofs.YtofklpphalalhaaGreatDoorW.PrintMore
attribute [local go_sem] min2_int min_two
set_option linter.unusedVariables false
set_option linter.unusedSimpArgs false
/-! ### entrepotref22_PutPlan: function 31 -/
def entrepotref22_PutPlan.l0 : Nat → ByteArray → Int → List (List Int) → Option (ByteArray)
  | 0, _, _, _ => none
  | k + 1, x3, x4, x264000 => if x4 < (x264000.length : Int) then (if 0 ≤ x4 then ((entrepotref21_PutUint.f k ((rd_L4 x264000 x4).length : Int)).bind fun t266 => (if x3.size + t266.size ≤ 9223372036854775807 then ((entrepotref22_ints.f k (rd_L4 x264000 x4)).bind fun t268 => (if (x3 ++ t266).size + t268.size ≤ 9223372036854775807 then (entrepotref22_PutPlan.l0 k ((x3 ++ t266) ++ t268) (wrap64 (x4 + 1)) x264000) else (none))) else (none))) else (none)) else ((entrepotref21_Seal.f k x3).bind fun t269 => (some t269))
def entrepotref22_PutPlan.f (k : Nat) (l0_0 : List (List Int)) : Option (ByteArray) := (entrepotref21_PutUint.f k (l0_0.length : Int)).bind fun t264 => (if 4 + t264.size ≤ 9223372036854775807 then (entrepotref22_PutPlan.l0 k ((⟨#[69, 80, 84, 2]⟩ : ByteArray) ++ t264) 0 l0_0) else (none))
def entrepotref22_PutPlan.T5 : Bool × List (List Nat × List Nat) := (true, [([], []), ([], []), ([1], [1]), ([], []), ([2, 3], [2, 3]), ([4], [4]), ([5], [5]), ([6], [6]), ([0, 7], [0, 7]), ([], []), ([9], [9]), ([], []), ([10, 11], [10, 11]), ([12], [12]), ([13, 7], [13]), ([8, 14], [8, 14]), ([15, 14, 0, 1, 2, 3, 4, 5, 6, 7, 8, 9, 10, 11, 12, 13, 14, 15], [0, 15])])
def entrepotref22_PutPlan.B5 : List Nat := [0, 0, 2, 0, 14, 30, 62, 126, 255, 0, 512, 0, 3584, 7680, 16126, 32767, 65535]
theorem entrepotref22_PutPlan.tab5 : rtab .any (opsOf Tryz.f31 5) = entrepotref22_PutPlan.T5 := by kernel_rfl
theorem entrepotref22_PutPlan.bits5 : waitsOk entrepotref22_PutPlan.T5.2 entrepotref22_PutPlan.B5 = true := by kernel_rfl
set_option maxHeartbeats 8000000 in
set_option maxRecDepth 100000 in
theorem entrepotref22_PutPlan.calls (k : Nat) (A0_0 : Option Addr) (c0_0 : Nat) (l0_0 : List (List Int)) (r : ByteArray) (w : World) (hr0_0 : Kd.C (Kd.slice 3 (Kd.int .i64)) w A0_0 l0_0.length l0_0) (hc0_0 : l0_0.length ≤ c0_0) (h : entrepotref22_PutPlan.f k l0_0 = some r) :
    Calls Tryz.prog 31 #[.agg #[.slice A0_0 l0_0.length c0_0]] w fun e w' => e = .returned (.string r) ∧ Below w.heap.size w w' := by
  have hu54 := Tryz.underlying54
  have HR0_0 := Aside0.mk hr0_0
  have HC0_0 := Aside0.mk hc0_0
  clear hr0_0 hc0_0
  have HB := Aside0.mk (Below.refl w.heap.size w)
  have H : ((entrepotref21_PutUint.f k (l0_0.length : Int)).bind fun t264 => (if 4 + t264.size ≤ 9223372036854775807 then (entrepotref22_PutPlan.l0 k ((⟨#[69, 80, 84, 2]⟩ : ByteArray) ++ t264) 0 l0_0) else (none))) = some r := h
  clear h
  replace H := Option.bind_eq_some_iff.mp H
  obtain ⟨t264, A20, H⟩ := H
  replace H : (if 4 + t264.size ≤ 9223372036854775807 then (entrepotref22_PutPlan.l0 k ((⟨#[69, 80, 84, 2]⟩ : ByteArray) ++ t264) 0 l0_0) else (none)) = some r := H
  have A2 := Aside0.mk A20
  clear A20
  by_cases c3 : 4 + t264.size ≤ 9223372036854775807
  · rw [if_pos c3] at H
    have c3b0 := eq_true c3
    have c3b1 : decide (4 + t264.size ≤ 9223372036854775807) = true := decide_eq_true c3
    try have c3b2 : (9223372036854775807 < 4 + t264.size) = False := eq_false (Nat.not_lt.2 c3)
    have H' := Aside0.mk H
    clear H
    go_enter Tryz.func31, Tryz.ntmps31
    go_wp2_with (first | ((with_reducible refine gate_dst (N := 1) rfl ?_); refine box_event ?hg (N := 1) ?hd (cs := #[.slice A0_0 l0_0.length c0_0]) (t := 54) ?hr ?_; (case hd => rfl); (case hg => rfl); (case hr => first | (go_simp; done) | (go_simp; rfl)); intro gb263 hg w4 hbox hb; have n0_ := Aside0.mk (below_step (by repeat (first | (with_reducible first | exact HB.out | apply below_alloc | apply pw_below_drewN | apply below_drew1) | exact HB.out)) hb); have n1_ := Aside0.mk (hbox); have n2_ := Aside0.mk ((by rw [hg]; exact (below_size (by repeat (first | (with_reducible first | exact HB.out | apply below_alloc | apply pw_below_drewN | apply below_drew1) | exact HB.out))) : w.heap.size ≤ gb263)); have n3_ := Aside0.mk ((by rw [hg]; exact (below_size (by repeat (first | (with_reducible first | exact HB.out | apply below_alloc | apply pw_below_drewN | apply below_drew1) | exact HB.out))) : w.heap.size ≤ gb263)); clear HB; have HB := n0_; have BK263 := n1_; have GW263 := n2_; have GE263 := n3_; clear n0_ n1_ n2_ n3_; clear hb hbox hg; have hcz5_0 : w4.cell? ⟨gb263, 0, none⟩ = some (.slice A0_0 l0_0.length c0_0) := (blk_cell BK263.out 0).trans rfl; have hfz5_0 := blk_frozen BK263.out 0) | ((with_reducible refine gate_callee (f := 82) rfl ?_); refine goesL_ (some 8) rfl rfl Tryz.func82 (by kernel_rfl) rfl #[.int .i64 (l0_0.length : Int)] rfl (by (try simp only [List.map_toArray, List.map_cons, List.map_nil]); first | done | rfl | (simp only [List.length_drop, List.length_take]; rfl)) ?_; (with_reducible refine (entrepotref21_PutUint.calls k (l0_0.length : Int) t264 _ A2.out).mono ?_); rintro e w6 ⟨rfl, hb⟩; refine ⟨_, rfl, ?_⟩; have n0_ := Aside0.mk (blk_below (g := gb263) (o := .cells #[.slice A0_0 l0_0.length c0_0] 54 (0, 0)) (by (with_reducible repeat (first | refine blk_drewN ?_ _ | refine blk_drew ?_ | refine blk_alloc ?_ _)); exact BK263.out) hb); have n1_ := Aside0.mk (below_step (by repeat (first | (with_reducible first | exact HB.out | apply below_alloc | apply pw_below_drewN | apply below_drew1 | refine below_set ?_ GE263.out) | exact HB.out)) hb); clear BK263; clear HB; have BK263 := n0_; have HB := n1_; clear n0_ n1_; (try clear hb); (try clear hb2); (try clear hk); (try clear hi)))
    go_loopg [3, 4] k (fun kq v3 v4 w' => ∃ (x3_1 : ByteArray) (x4_1 : Int), v3 = .string x3_1 ∧ v4 = .int .i64 x4_1 ∧ Aside0 (entrepotref22_PutPlan.l0 kq x3_1 x4_1 l0_0 = some r) ∧ Aside0 (kq ≤ k) ∧ Aside0 (w'.heap[gb263]? = some (.cells #[(.slice A0_0 l0_0.length c0_0)] 54 (0, 0))) ∧ Aside0 (Below w.heap.size w w'))
    case atStart => exact ⟨((⟨#[69, 80, 84, 2]⟩ : ByteArray) ++ t264), (0), (by first | rfl | (simp; done) | (simp [*]; done)), (by first | rfl | (simp; done) | (simp [*]; done)), H', ⟨Nat.le_refl _⟩, ⟨by (with_reducible repeat (first | refine blk_drewN ?_ _ | refine blk_drew ?_ | refine blk_alloc ?_ _)); exact BK263.out⟩, ⟨by repeat (first | (with_reducible first | exact HB.out | apply below_alloc | apply pw_below_drewN | apply below_drew1 | refine below_set ?_ GE263.out) | exact HB.out)⟩⟩
    case round =>
      clear H'
      try clear p2
      try clear c3
      try clear c3b0
      try clear c3b1
      try clear c3b2
      try clear hcz5_0
      try clear hfz5_0
      obtain ⟨x3_1, x4_1, rfl, rfl, HA, HK1, BK263, HB⟩ := hrel
      cases gk with
      | zero => exact absurd HA.out (by simp [entrepotref22_PutPlan.l0])
      | succ k1 =>
        have H := HA.out
        clear HA
        simp only [entrepotref22_PutPlan.l0] at H
        by_cases c7 : x4_1 < (l0_0.length : Int)
        · rw [if_pos c7] at H
          have c7b0 : decide (x4_1 < (l0_0.length : Int)) = true := decide_eq_true c7
          clear c7
          by_cases c8 : 0 ≤ x4_1
          · rw [if_pos c8] at H
            have c8b0 : decide (0 ≤ x4_1) = true := decide_eq_true c8
            clear c8
            replace H := Option.bind_eq_some_iff.mp H
            obtain ⟨t266, A90, H⟩ := H
            replace H : (if x3_1.size + t266.size ≤ 9223372036854775807 then ((entrepotref22_ints.f k1 (rd_L4 l0_0 x4_1)).bind fun t268 => (if (x3_1 ++ t266).size + t268.size ≤ 9223372036854775807 then (entrepotref22_PutPlan.l0 k1 ((x3_1 ++ t266) ++ t268) (wrap64 (x4_1 + 1)) l0_0) else (none))) else (none)) = some r := H
            have A9 := Aside0.mk A90
            clear A90
            by_cases c10 : x3_1.size + t266.size ≤ 9223372036854775807
            · rw [if_pos c10] at H
              have c10b0 := eq_true c10
              have c10b1 : decide (x3_1.size + t266.size ≤ 9223372036854775807) = true := decide_eq_true c10
              try have c10b2 : (9223372036854775807 < x3_1.size + t266.size) = False := eq_false (Nat.not_lt.2 c10)
              replace H := Option.bind_eq_some_iff.mp H
              obtain ⟨t268, A110, H⟩ := H
              replace H : (if (x3_1 ++ t266).size + t268.size ≤ 9223372036854775807 then (entrepotref22_PutPlan.l0 k1 ((x3_1 ++ t266) ++ t268) (wrap64 (x4_1 + 1)) l0_0) else (none)) = some r := H
              have A11 := Aside0.mk A110
              clear A110
              by_cases c12 : (x3_1 ++ t266).size + t268.size ≤ 9223372036854775807
              · rw [if_pos c12] at H
                have c12b0 := eq_true c12
                have c12b1 : decide ((x3_1 ++ t266).size + t268.size ≤ 9223372036854775807) = true := decide_eq_true c12
                try have c12b2 : (9223372036854775807 < (x3_1 ++ t266).size + t268.size) = False := eq_false (Nat.not_lt.2 c12)
                try have c12b4 : (9223372036854775807 < x3_1.size + t266.size + t268.size) = False := eq_false (by have h_ := c12; simp only [ByteArray.size_append] at h_; omega)
                have H' := Aside0.mk H
                clear H
                have hcz13_0 : wr.cell? ⟨gb263, 0, none⟩ = some (.slice A0_0 l0_0.length c0_0) := (blk_cell BK263.out 0).trans rfl
                have hfz13_0 := blk_frozen BK263.out 0
                try go_wp2
                have n0_ := Aside0.mk (blk_drew BK263.out)
                have n1_ := Aside0.mk (below_drew1 HB.out)
                clear BK263
                clear HB
                have BK263 := n0_
                have HB := n1_
                clear n0_ n1_
                have p265 : 0 ≤ (x4_1 : Int) := of_decide_eq_true (by first | (with_reducible assumption) | assumption)
                have q265 : x4_1 < (l0_0.length : Int) := of_decide_eq_true (by first | (with_reducible assumption) | assumption)
                obtain ⟨ad265, A265_0, c265_0, e265, hx265_0, hl265_0, hi265_0⟩ := at_L4 HR0_0.out x4_1 p265 q265
                have hw265_0 := hx265_0
                cases e265
                replace hx265_0 := (HB.out.cell (World.block_lt_of_cell? w _ hx265_0)).trans hx265_0
                have HR265_0 := Aside0.mk hi265_0
                have HC265_0 := Aside0.mk hl265_0
                clear hi265_0 hl265_0
                replace p265 := eq_true p265
                replace q265 := eq_true q265
                have p267 : 0 ≤ (x4_1 : Int) := of_decide_eq_true (by first | (with_reducible assumption) | assumption)
                have q267 : x4_1 < (l0_0.length : Int) := of_decide_eq_true (by first | (with_reducible assumption) | assumption)
                obtain ⟨ad267, A267_0, c267_0, e267, hx267_0, hl267_0, hi267_0⟩ := at_L4 HR0_0.out x4_1 p267 q267
                have hw267_0 := hx267_0
                obtain rfl : ad265 = ad267 := (by injection e267)
                replace hx267_0 := (HB.out.cell (World.block_lt_of_cell? w _ hx267_0)).trans hx267_0
                have HR267_0 := Aside0.mk hi267_0
                have HC267_0 := Aside0.mk hl267_0
                clear hi267_0 hl267_0
                replace p267 := eq_true p267
                replace q267 := eq_true q267
                have ea_ := Option.some.inj (hx265_0.symm.trans hx267_0)
                injection ea_ with ea_ en_ ec_
                subst ea_
                subst ec_
                clear en_
                refine start_ (n := 17) (S := fun w' => w'.cell? ⟨gb263, 0, none⟩ = some (.slice (some ad265) l0_0.length c0_0) ∧ w'.cell? (ad265.add (x4_1).toNat) = some (.slice A265_0 (rd_L4 l0_0 x4_1).length c265_0) ∧ w'.cell? (ad265.add (x4_1).toNat) = some (.slice A265_0 (rd_L4 l0_0 x4_1).length c265_0)) (ds := []) #[false, false, false, false, false, false, false, false, false, false, false, false, false, false, false, false, false] (by kernel_rfl) rfl rfl ⟨(blk_cell BK263.out 0).trans rfl, ((HB.out.cell (World.block_lt_of_cell? w _ hw265_0)).trans hw265_0), ((HB.out.cell (World.block_lt_of_cell? w _ hw267_0)).trans hw267_0)⟩ (fun hHeld => ?_); refine with_tabW entrepotref22_PutPlan.tab5 entrepotref22_PutPlan.bits5 (fun HT_ HW_ => ?_)
                generalize wr.drew = w14 at BK263 HB HR265_0 HR267_0 hx265_0 hx267_0 hHeld ⊢
                refine pure_ (i := 0) (N := some 17) (v := ?_) (a' := ?_) #[true, false, false, false, false, false, false, false, false, false, false, false, false, false, false, false, false] rfl rfl (any_of HT_.out (by kernel_rfl)) (fun _ _ _ h => h) (Or.inl ⟨by rfl, ?_⟩) ?_ ?_
                rotate_left
                · intro w'
                  go_simp
                  with_reducible rfl
                rotate_left
                · simp only [Act.put, List.setIfInBounds_toArray, List.set_cons_zero, List.set_cons_succ, i64_w, i32_w]
                  rfl
                refine pure_ (i := 1) (N := some 18) (v := ?_) (a' := ?_) #[true, true, false, false, false, false, false, false, false, false, false, false, false, false, false, false, false] rfl rfl (any_of HT_.out (by kernel_rfl)) (fun _ _ _ h => h) (Or.inl ⟨by rfl, ?_⟩) ?_ ?_
                rotate_left
                · intro w'
                  go_simp
                  with_reducible rfl
                rotate_left
                · simp only [Act.put, List.setIfInBounds_toArray, List.set_cons_zero, List.set_cons_succ, i64_w, i32_w]
                  rfl
                refine pure_ (i := 3) (N := some 20) (v := ?_) (a' := ?_) #[true, true, false, true, false, false, false, false, false, false, false, false, false, false, false, false, false] rfl rfl (any_of HT_.out (by kernel_rfl)) (fun _ _ _ h => h) (Or.inl ⟨by rfl, ?_⟩) ?_ ?_
                rotate_left
                · intro w'
                  go_simp
                  with_reducible rfl
                rotate_left
                · simp only [Act.put, List.setIfInBounds_toArray, List.set_cons_zero, List.set_cons_succ, i64_w, i32_w]
                  rfl
                refine pure_ (i := 9) (N := some 26) (v := ?_) (a' := ?_) #[true, true, false, true, false, false, false, false, false, true, false, false, false, false, false, false, false] rfl rfl (any_of HT_.out (by kernel_rfl)) (fun _ _ _ h => h) (Or.inl ⟨by rfl, ?_⟩) ?_ ?_
                rotate_left
                · intro w'
                  go_simp
                  with_reducible rfl
                rotate_left
                · simp only [Act.put, List.setIfInBounds_toArray, List.set_cons_zero, List.set_cons_succ, i64_w, i32_w]
                  rfl
                refine pure_ (i := 11) (N := some 28) (v := ?_) (a' := ?_) #[true, true, false, true, false, false, false, false, false, true, false, true, false, false, false, false, false] rfl rfl (any_of HT_.out (by kernel_rfl)) (fun _ _ _ h => h) (Or.inl ⟨by rfl, ?_⟩) ?_ ?_
                rotate_left
                · intro w'
                  go_simp
                  with_reducible rfl
                rotate_left
                · simp only [Act.put, List.setIfInBounds_toArray, List.set_cons_zero, List.set_cons_succ, i64_w, i32_w]
                  rfl
                refine take_ (i := 2) (N := some 19) (v := ?_) (a' := ?_) #[true, true, true, true, false, false, false, false, false, true, false, true, false, false, false, false, false] rfl rfl (take_ofW HT_.out HW_.out (by kernel_rfl)) (fun _ _ _ h => h) (Or.inl ⟨by rfl, ?_⟩) hHeld ?_ ?_
                rotate_left
                · rintro w' ⟨s0, s1, s2⟩
                  go_simp
                  with_reducible rfl
                rotate_left
                · simp only [Act.put, List.setIfInBounds_toArray, List.set_cons_zero, List.set_cons_succ, i64_w, i32_w]
                  rfl
                refine pure_ (i := 4) (N := some 21) (v := ?_) (a' := ?_) #[true, true, true, true, true, false, false, false, false, true, false, true, false, false, false, false, false] rfl rfl (any_of HT_.out (by kernel_rfl)) (fun _ _ _ h => h) (Or.inl ⟨by rfl, ?_⟩) ?_ ?_
                rotate_left
                · intro w'
                  go_simp
                  with_reducible rfl
                rotate_left
                · simp only [Act.put, List.setIfInBounds_toArray, List.set_cons_zero, List.set_cons_succ, i64_w, i32_w]
                  rfl
                refine take_ (i := 5) (N := some 22) (v := ?_) (a' := ?_) #[true, true, true, true, true, true, false, false, false, true, false, true, false, false, false, false, false] rfl rfl (take_ofW HT_.out HW_.out (by kernel_rfl)) (fun _ _ _ h => h) (Or.inl ⟨by rfl, ?_⟩) hHeld ?_ ?_
                rotate_left
                · rintro w' ⟨s0, s1, s2⟩
                  go_simp
                  with_reducible rfl
                rotate_left
                · simp only [Act.put, List.setIfInBounds_toArray, List.set_cons_zero, List.set_cons_succ, i64_w, i32_w]
                  rfl
                refine pure_ (i := 6) (N := some 23) (v := ?_) (a' := ?_) #[true, true, true, true, true, true, true, false, false, true, false, true, false, false, false, false, false] rfl rfl (any_of HT_.out (by kernel_rfl)) (fun _ _ _ h => h) (Or.inl ⟨by rfl, ?_⟩) ?_ ?_
                rotate_left
                · intro w'
                  go_simp
                  with_reducible rfl
                rotate_left
                · simp only [Act.put, List.setIfInBounds_toArray, List.set_cons_zero, List.set_cons_succ, i64_w, i32_w]
                  rfl
                refine take_ (i := 10) (N := some 27) (v := ?_) (a' := ?_) #[true, true, true, true, true, true, true, false, false, true, true, true, false, false, false, false, false] rfl rfl (take_ofW HT_.out HW_.out (by kernel_rfl)) (fun _ _ _ h => h) (Or.inl ⟨by rfl, ?_⟩) hHeld ?_ ?_
                rotate_left
                · rintro w' ⟨s0, s1, s2⟩
                  go_simp
                  with_reducible rfl
                rotate_left
                · simp only [Act.put, List.setIfInBounds_toArray, List.set_cons_zero, List.set_cons_succ, i64_w, i32_w]
                  rfl
                refine pure_ (i := 12) (N := some 29) (v := ?_) (a' := ?_) #[true, true, true, true, true, true, true, false, false, true, true, true, true, false, false, false, false] rfl rfl (any_of HT_.out (by kernel_rfl)) (fun _ _ _ h => h) (Or.inl ⟨by rfl, ?_⟩) ?_ ?_
                rotate_left
                · intro w'
                  go_simp
                  with_reducible rfl
                rotate_left
                · simp only [Act.put, List.setIfInBounds_toArray, List.set_cons_zero, List.set_cons_succ, i64_w, i32_w]
                  rfl
                refine take_ (i := 13) (N := some 30) (v := ?_) (a' := ?_) #[true, true, true, true, true, true, true, false, false, true, true, true, true, true, false, false, false] rfl rfl (take_ofW HT_.out HW_.out (by kernel_rfl)) (fun _ _ _ h => h) (Or.inl ⟨by rfl, ?_⟩) hHeld ?_ ?_
                rotate_left
                · rintro w' ⟨s0, s1, s2⟩
                  go_simp
                  with_reducible rfl
                rotate_left
                · simp only [Act.put, List.setIfInBounds_toArray, List.set_cons_zero, List.set_cons_succ, i64_w, i32_w]
                  rfl
                refine one_ (i := 7) (N := some 24) #[true, true, true, true, true, true, true, true, false, true, true, true, true, true, false, false, false] rfl rfl (one_of HT_.out (by kernel_rfl)) (by decide) (fun K hK => ?_)
                refine goes_ Tryz.func82 (by kernel_rfl) rfl #[.int .i64 ((rd_L4 l0_0 x4_1).length : Int)] (by rfl) rfl rfl (by (try simp only [List.map_toArray, List.map_cons, List.map_nil]); first | done | rfl | (simp only [List.length_drop, List.length_take]; rfl)) ?_
                with_reducible refine (entrepotref21_PutUint.calls k1 ((rd_L4 l0_0 x4_1).length : Int) t266 _ A9.out).mono ?_
                rintro e w15 ⟨rfl, hb⟩
                refine ⟨_, rfl, ?_⟩
                have n0_ := Aside0.mk (blk_below (g := gb263) (o := .cells #[.slice (some ad265) l0_0.length c0_0] 54 (0, 0)) (by (with_reducible repeat (first | refine blk_drewN ?_ _ | refine blk_drew ?_ | refine blk_alloc ?_ _)); exact BK263.out) hb)
                have n1_ := Aside0.mk (below_step (by repeat (first | (with_reducible first | exact HB.out | apply below_alloc | apply pw_below_drewN | apply below_drew1 | refine below_set ?_ GE263.out) | exact HB.out)) hb)
                clear BK263
                clear HB
                have BK263 := n0_
                have HB := n1_
                clear n0_ n1_
                (try clear hb)
                (try clear hb2)
                (try clear hk)
                (try clear hi)
                refine hK.out _ _ ⟨(blk_cell BK263.out 0).trans rfl, ((HB.out.cell (World.block_lt_of_cell? w _ hw265_0)).trans hw265_0), ((HB.out.cell (World.block_lt_of_cell? w _ hw267_0)).trans hw267_0)⟩ (fun hHeld => ?_)
                clear hK K
                refine norm_ (a' := ?_) ?_ ?_
                rotate_left
                · show Act.put _ (some 24) _ = _
                  simp only [Act.put, List.setIfInBounds_toArray, List.set_cons_zero, List.set_cons_succ, i64_w, i32_w]
                  rfl
                refine pure_ (i := 8) (N := some 25) (v := ?_) (a' := ?_) #[true, true, true, true, true, true, true, true, true, true, true, true, true, true, false, false, false] rfl rfl (any_of HT_.out (by kernel_rfl)) (fun _ _ _ h => h) (Or.inl ⟨by rfl, ?_⟩) ?_ ?_
                rotate_left
                · intro w'
                  go_simp
                  with_reducible rfl
                rotate_left
                · simp only [Act.put, List.setIfInBounds_toArray, List.set_cons_zero, List.set_cons_succ, i64_w, i32_w]
                  rfl
                refine one_ (i := 14) (N := some 31) #[true, true, true, true, true, true, true, true, true, true, true, true, true, true, true, false, false] rfl rfl (one_of HT_.out (by kernel_rfl)) (by decide) (fun K hK => ?_)
                refine goes_ Tryz.func81 (by kernel_rfl) rfl #[.slice A265_0 (rd_L4 l0_0 x4_1).length c265_0] (by rfl) rfl rfl (by (try simp only [List.map_toArray, List.map_cons, List.map_nil]); first | done | rfl | (simp only [List.length_drop, List.length_take]; rfl)) ?_
                with_reducible refine (entrepotref22_ints.calls k1 _ _ (rd_L4 l0_0 x4_1) t268 _ ?side1 ?side2 A11.out).mono ?_
                (case side1 => repeat (first | exact (Kd.C_below HR267_0.out HB.out) | (with_reducible refine Kd.C_alloc ?_ _) | (with_reducible refine Kd.C_drewN ?_ _) | (with_reducible refine Kd.C_drew ?_)))
                (case side2 => exact HC267_0.out)
                rintro e w16 ⟨rfl, hb⟩
                refine ⟨_, rfl, ?_⟩
                have n0_ := Aside0.mk (blk_below (g := gb263) (o := .cells #[.slice (some ad265) l0_0.length c0_0] 54 (0, 0)) (by (with_reducible repeat (first | refine blk_drewN ?_ _ | refine blk_drew ?_ | refine blk_alloc ?_ _)); exact BK263.out) hb)
                have n1_ := Aside0.mk (below_step (by repeat (first | (with_reducible first | exact HB.out | apply below_alloc | apply pw_below_drewN | apply below_drew1 | refine below_set ?_ GE263.out) | exact HB.out)) hb)
                clear BK263
                clear HB
                have BK263 := n0_
                have HB := n1_
                clear n0_ n1_
                (try clear hb)
                (try clear hb2)
                (try clear hk)
                (try clear hi)
                refine hK.out _ _ ⟨(blk_cell BK263.out 0).trans rfl, ((HB.out.cell (World.block_lt_of_cell? w _ hw265_0)).trans hw265_0), ((HB.out.cell (World.block_lt_of_cell? w _ hw267_0)).trans hw267_0)⟩ (fun hHeld => ?_)
                clear hK K
                refine norm_ (a' := ?_) ?_ ?_
                rotate_left
                · show Act.put _ (some 31) _ = _
                  simp only [Act.put, List.setIfInBounds_toArray, List.set_cons_zero, List.set_cons_succ, i64_w, i32_w]
                  rfl
                refine pure_ (i := 15) (N := some 32) (v := ?_) (a' := ?_) #[true, true, true, true, true, true, true, true, true, true, true, true, true, true, true, true, false] rfl rfl (any_of HT_.out (by kernel_rfl)) (fun _ _ _ h => h) (Or.inl ⟨by rfl, ?_⟩) ?_ ?_
                rotate_left
                · intro w'
                  go_simp
                  with_reducible rfl
                rotate_left
                · simp only [Act.put, List.setIfInBounds_toArray, List.set_cons_zero, List.set_cons_succ, i64_w, i32_w]
                  rfl
                refine pure_ (i := 16) (N := some 3) (v := ?_) (a' := ?_) #[true, true, true, true, true, true, true, true, true, true, true, true, true, true, true, true, true] rfl rfl (any_of HT_.out (by kernel_rfl)) (fun _ _ _ h => h) (Or.inl ⟨by rfl, ?_⟩) ?_ ?_
                rotate_left
                · intro w'
                  go_simp
                  with_reducible rfl
                rotate_left
                · simp only [Act.put, List.setIfInBounds_toArray, List.set_cons_zero, List.set_cons_succ, i64_w, i32_w]
                  rfl
                refine done_ (done_of HT_.out (by kernel_rfl)) ?_
                try go_wp2
                go_roundg k1
                case measure => have := HK1.out; omega
                case rel => exact ⟨((x3_1 ++ t266) ++ t268), (wrap64 (x4_1 + 1)), (by first | rfl | (simp; done) | (simp [*]; done)), (by first | rfl | (simp; done) | (simp [*]; done)), H', ⟨by have := HK1.out; omega⟩, ⟨by (with_reducible repeat (first | refine blk_drewN ?_ _ | refine blk_drew ?_ | refine blk_alloc ?_ _)); exact BK263.out⟩, ⟨by repeat (first | (with_reducible first | exact HB.out | apply below_alloc | apply pw_below_drewN | apply below_drew1 | refine below_set ?_ GE263.out) | exact HB.out)⟩⟩
              · rw [if_neg c12] at H
                exact absurd H (by simp)
            · rw [if_neg c10] at H
              exact absurd H (by simp)
          · rw [if_neg c8] at H
            exact absurd H (by simp)
        · rw [if_neg c7] at H
          have c7b0 : decide (x4_1 < (l0_0.length : Int)) = false := decide_eq_false c7
          clear c7
          replace H := Option.bind_eq_some_iff.mp H
          obtain ⟨t269, A170, H⟩ := H
          replace H : (some t269) = some r := H
          have A17 := Aside0.mk A170
          clear A170
          obtain rfl := Option.some.inj H
          have hcz18_0 : wr.cell? ⟨gb263, 0, none⟩ = some (.slice A0_0 l0_0.length c0_0) := (blk_cell BK263.out 0).trans rfl
          have hfz18_0 := blk_frozen BK263.out 0
          go_wp2_with (first | ((with_reducible refine gate_callee (f := 34) rfl ?_); refine goesL_ (some 34) rfl rfl Tryz.func34 (by kernel_rfl) rfl #[.string x3_1] rfl (by (try simp only [List.map_toArray, List.map_cons, List.map_nil]); first | done | rfl | (simp only [List.length_drop, List.length_take]; rfl)) ?_; (with_reducible refine (entrepotref21_Seal.calls k1 x3_1 t269 _ A17.out).mono ?_); rintro e w19 ⟨rfl, hb⟩; refine ⟨_, rfl, ?_⟩; have n0_ := Aside0.mk (blk_below (g := gb263) (o := .cells #[.slice A0_0 l0_0.length c0_0] 54 (0, 0)) (by (with_reducible repeat (first | refine blk_drewN ?_ _ | refine blk_drew ?_ | refine blk_alloc ?_ _)); exact BK263.out) hb); have n1_ := Aside0.mk (below_step (by repeat (first | (with_reducible first | exact HB.out | apply below_alloc | apply pw_below_drewN | apply below_drew1 | refine below_set ?_ GE263.out) | exact HB.out)) hb); clear BK263; clear HB; have BK263 := n0_; have HB := n1_; clear n0_ n1_; (try clear hb); (try clear hb2); (try clear hk); (try clear hi)))
          go_ret
          exact ⟨by first | rfl | (simp [errW_none, errW_some] <;> rfl) | (simp [*, errW_none, errW_some] <;> rfl), by repeat (first | (with_reducible first | exact HB.out | apply below_alloc | apply pw_below_drewN | apply below_drew1 | refine below_set ?_ GE263.out) | exact HB.out)⟩
  · rw [if_neg c3] at H
    exact absurd H (by simp)
end Go.Proofs.YtofklpphalalhaaGreatDoor.PAll
end
section
namespace Go.Proofs.YtofklpphalalhaaGreatDoor.Evs
set_option linter.unusedVariables false
set_option linter.unusedSimpArgs false
open Go.RowKit Go.Lib Go.Proofs.YtofklpphalalhaaGreatDoor.PAll Go.Proofs.YtofklpphalalhaaGreatDoorW.PrintWords Go.Proofs.YtofklpphalalhaaGreatDoorW.PrintLast
theorem nxp (i : Nat) (h : i ≤ 1000000000) : wrap64 ((i : Int) + 1) = ((i + 1 : Nat) : Int) := by rw [w64 _ (by omega) (by omega)]; rfl
theorem rd_at (l : List Int) (i : Nat) (h : i < l.length) : rd l (i : Int) = l[i] := by
  unfold rd
  rw [Int.toNat_natCast, List.getD_eq_getElem?_getD, List.getElem?_eq_getElem h]; rfl
theorem intsP_l (l : List Int) (hl : l.length ≤ 100000) (j : Nat) : ∀ (i : Nat) (acc : List UInt8), i + j = l.length → acc.length ≤ 9 * i → Ev (fun k => entrepotref22_ints.l0 k l (S acc) (i : Int)) (S (acc ++ Pp.ints (l.drop i))) := by
  induction j with
  | zero =>
    intro i acc hi ha
    refine ⟨1, fun k hk => ?_⟩
    obtain ⟨q, rfl⟩ : ∃ q, k = q + 1 := ⟨k - 1, by omega⟩
    simp only [entrepotref22_ints.l0]
    rw [if_neg (by omega), List.drop_of_length_le (by omega)]
    simp [Pp.ints]
  | succ j ih =>
    intro i acc hi ha
    have hil : i < l.length := by omega
    have hp := Pp.putI_len l[i]
    obtain ⟨K1, h1⟩ := refPutInt l[i]
    obtain ⟨K2, h2⟩ := ih (i + 1) (acc ++ Pk.putI l[i]) (by omega) (by rw [List.length_append]; omega)
    refine ⟨max K1 K2 + 1, fun k hk => ?_⟩
    obtain ⟨q, rfl⟩ : ∃ q, k = q + 1 := ⟨k - 1, by omega⟩
    have e1 : entrepotref21_PutInt.f q l[i] = _ := h1 q (by omega)
    have e2 : entrepotref22_ints.l0 q l (S (acc ++ Pk.putI l[i])) ((i + 1 : Nat) : Int) = _ := h2 q (by omega)
    simp only [entrepotref22_ints.l0]
    rw [if_pos (by omega), if_pos (by omega), rd_at l i hil, e1]
    simp only [Option.bind_some]
    rw [S_size, S_size, if_pos (by omega), S_append, nxp i (by omega), e2, List.drop_eq_getElem_cons hil]
    simp only [Pp.ints, List.flatMap_cons, List.append_assoc]
theorem intsP (l : List Int) (hl : l.length ≤ 100000) : Ev (fun k => entrepotref22_ints.f k l) (S (Pp.ints l)) := by
  have h := intsP_l l hl l.length 0 [] (by omega) (by simp)
  simpa [entrepotref22_ints.f, S] using h
section
variable (nm : ByteArray) (a b c d e : Int) (ns : List S71) (mx : List Int) (hn : ns.length ≤ 10000) (hm : mx.length ≤ 10000)
include hn hm
theorem putP_l (j : Nat) : ∀ (i : Nat) (acc : List UInt8), i + j = ns.length → acc.length ≤ 100000 + 63 * i → Ev (fun k => entrepotref22_Put.l0 k (S acc) (i : Int) nm a b c d e (ns.map rn) mx) (S (Pk.shut (acc ++ Pp.nodes (ns.drop i) ++ Pp.list mx))) := by
  have hl : (ns.map rn).length = ns.length := List.length_map _
  induction j with
  | zero =>
    intro i acc hi ha
    have hq := Pp.putUI_len mx.length (by omega)
    have hi2 := Pp.ints_len mx
    obtain ⟨K1, h1⟩ := refPutUint (mx.length : Int) (by omega)
    obtain ⟨K2, h2⟩ := intsP mx (by omega)
    obtain ⟨K3, h3⟩ := refSealed (S (acc ++ Pk.putUI mx.length ++ Pp.ints mx)) (by rw [S_size]; simp only [List.length_append]; omega)
    refine ⟨max K1 (max K2 K3) + 1, fun k hk => ?_⟩
    obtain ⟨q, rfl⟩ : ∃ q, k = q + 1 := ⟨k - 1, by omega⟩
    have e1 : entrepotref21_PutUint.f q (mx.length : Int) = _ := h1 q (by omega)
    have e2 : entrepotref22_ints.f q mx = _ := h2 q (by omega)
    have e3 : entrepotref21_Seal.f q (S (acc ++ Pk.putUI mx.length ++ Pp.ints mx)) = _ := h3 q (by omega)
    simp only [entrepotref22_Put.l0]
    rw [if_neg (by rw [hl]; omega), e1]
    simp only [Option.bind_some]
    rw [S_size, S_size, if_pos (by omega), e2]
    simp only [Option.bind_some]
    rw [S_append, S_size, S_size, if_pos (by rw [List.length_append]; omega), S_append, e3, List.drop_of_length_le (by omega)]
    simp [Pp.nodes, Pp.list, S_data]
  | succ j ih =>
    intro i acc hi ha
    have hil : i < ns.length := by omega
    have hz : rd_T71 ns i = ns[i] := by
      unfold rd_T71
      rw [Int.toNat_natCast, List.getD_eq_getElem?_getD, List.getElem?_eq_getElem hil]; rfl
    have hi2 := Pp.ints_len (Pp.nums ns[i])
    have hi3 : (Pp.nums ns[i]).length = 7 := rfl
    obtain ⟨K1, h1⟩ := intsP (Pp.nums ns[i]) (by rw [hi3]; omega)
    obtain ⟨K2, h2⟩ := ih (i + 1) (acc ++ Pp.ints (Pp.nums ns[i])) (by omega) (by rw [List.length_append]; omega)
    refine ⟨max K1 K2 + 1, fun k hk => ?_⟩
    obtain ⟨q, rfl⟩ : ∃ q, k = q + 1 := ⟨k - 1, by omega⟩
    have e1 : entrepotref22_ints.f q (Pp.nums ns[i]) = _ := h1 q (by omega)
    have e2 : entrepotref22_Put.l0 q (S (acc ++ Pp.ints (Pp.nums ns[i]))) ((i + 1 : Nat) : Int) nm a b c d e (ns.map rn) mx = _ := h2 q (by omega)
    simp only [entrepotref22_Put.l0]
    rw [if_pos (by rw [hl]; omega), if_pos (by omega), rd_rn _ _ hil, hz]
    rw [show ([(rn ns[i]).f0, (rn ns[i]).f1, (rn ns[i]).f2, (rn ns[i]).f3, (rn ns[i]).f4, (rn ns[i]).f5, (rn ns[i]).f6] : List Int) = Pp.nums ns[i] from rfl, e1]
    simp only [Option.bind_some]
    rw [S_size, S_size, if_pos (by omega), S_append, nxp i (by omega), e2, List.drop_eq_getElem_cons hil]
    simp only [Pp.nodes, List.flatMap_cons, List.append_assoc]
end
theorem refPutX (x : Cn.In) (hs : x.nm.size ≤ 10000) (hn : x.nodes.length ≤ 10000) (hm : x.mx.length ≤ 10000) : Ev (fun k => entrepotref22_Put.f k x.nm x.kind x.metric x.scale x.cap x.fleet (x.nodes.map rn) x.mx) (S (Pk.shut (Pp.inst x))) := by
  have hl : (x.nodes.map rn).length = x.nodes.length := List.length_map _
  have ht : (Pk.putT x.nm.data.toList).length ≤ 10009 := by
    unfold Pk.putT
    have hn : x.nm.data.toList.length ≤ 10000 := by rw [size_len]; exact hs
    have := putU_len9 x.nm.data.toList.length (by omega)
    rw [List.length_append]
    omega
  have hi := Pp.ints_len [x.kind, x.metric, x.scale, x.cap, x.fleet]
  have hi5 : [x.kind, x.metric, x.scale, x.cap, x.fleet].length = 5 := rfl
  have hq := Pp.putUI_len x.nodes.length (by omega)
  obtain ⟨K1, h1⟩ := refPutText x.nm (by omega)
  obtain ⟨K2, h2⟩ := intsP [x.kind, x.metric, x.scale, x.cap, x.fleet] (by rw [hi5]; omega)
  obtain ⟨K3, h3⟩ := refPutUint (x.nodes.length : Int) (by omega)
  obtain ⟨K4, h4⟩ := putP_l x.nm x.kind x.metric x.scale x.cap x.fleet x.nodes x.mx hn hm x.nodes.length 0 ([69, 80, 84, 1] ++ Pk.putT x.nm.data.toList ++ Pp.ints [x.kind, x.metric, x.scale, x.cap, x.fleet] ++ Pk.putUI x.nodes.length) (by omega) (by simp only [List.length_append, List.length_cons, List.length_nil] at *; omega)
  refine ⟨max (max K1 K2) (max K3 K4), fun q hk => ?_⟩
  have e1 : entrepotref21_PutText.f q x.nm = _ := h1 q (by omega)
  have e2 : entrepotref22_ints.f q [x.kind, x.metric, x.scale, x.cap, x.fleet] = _ := h2 q (by omega)
  have e3 : entrepotref21_PutUint.f q (x.nodes.length : Int) = _ := h3 q (by omega)
  have e4 : entrepotref22_Put.l0 q (S ([69, 80, 84, 1] ++ Pk.putT x.nm.data.toList ++ Pp.ints [x.kind, x.metric, x.scale, x.cap, x.fleet] ++ Pk.putUI x.nodes.length)) ((0 : Nat) : Int) x.nm x.kind x.metric x.scale x.cap x.fleet (x.nodes.map rn) x.mx = _ := h4 q (by omega)
  show entrepotref22_Put.f q x.nm x.kind x.metric x.scale x.cap x.fleet (x.nodes.map rn) x.mx = _
  unfold entrepotref22_Put.f
  rw [e1]
  simp only [Option.bind_some]
  rw [S_size, if_pos (by omega), e2]
  simp only [Option.bind_some]
  rw [show (⟨#[69, 80, 84, 1]⟩ : ByteArray) = S [69, 80, 84, 1] from rfl, S_append, S_size, S_size, if_pos (by simp only [List.length_append, List.length_cons, List.length_nil] at *; omega), hl, e3]
  simp only [Option.bind_some]
  rw [S_append, S_size, S_size, if_pos (by simp only [List.length_append, List.length_cons, List.length_nil] at *; omega), S_append]
  refine e4.trans ?_
  rw [List.drop_zero]
  rfl
theorem planP_l (rs : List (List Int)) (hl : rs.length ≤ 10000) (hr : ∀ r ∈ rs, r.length ≤ 10000) (j : Nat) : ∀ (i : Nat) (acc : List UInt8), i + j = rs.length → acc.length ≤ 1000 + 90009 * i → Ev (fun k => entrepotref22_PutPlan.l0 k (S acc) (i : Int) rs) (S (Pk.shut (acc ++ (rs.drop i).flatMap Pp.list))) := by
  induction j with
  | zero =>
    intro i acc hi ha
    obtain ⟨K3, h3⟩ := refSealed (S acc) (by rw [S_size]; omega)
    refine ⟨K3 + 1, fun k hk => ?_⟩
    obtain ⟨q, rfl⟩ : ∃ q, k = q + 1 := ⟨k - 1, by omega⟩
    have e3 : entrepotref21_Seal.f q (S acc) = _ := h3 q (by omega)
    simp only [entrepotref22_PutPlan.l0]
    rw [if_neg (by omega), e3, List.drop_of_length_le (by omega)]
    simp [S_data]
  | succ j ih =>
    intro i acc hi ha
    have hil : i < rs.length := by omega
    have hrl := hr _ (List.getElem_mem hil)
    have hrd : rd_L4 rs (i : Int) = rs[i] := by
      unfold rd_L4
      rw [Int.toNat_natCast, List.getD_eq_getElem?_getD, List.getElem?_eq_getElem hil]; rfl
    have hq := Pp.putUI_len rs[i].length (by omega)
    have hi2 := Pp.ints_len rs[i]
    obtain ⟨K1, h1⟩ := refPutUint (rs[i].length : Int) (by omega)
    obtain ⟨K2, h2⟩ := intsP rs[i] (by omega)
    obtain ⟨K3, h3⟩ := ih (i + 1) (acc ++ Pk.putUI rs[i].length ++ Pp.ints rs[i]) (by omega) (by simp only [List.length_append]; omega)
    refine ⟨max K1 (max K2 K3) + 1, fun k hk => ?_⟩
    obtain ⟨q, rfl⟩ : ∃ q, k = q + 1 := ⟨k - 1, by omega⟩
    have e1 : entrepotref21_PutUint.f q (rs[i].length : Int) = _ := h1 q (by omega)
    have e2 : entrepotref22_ints.f q rs[i] = _ := h2 q (by omega)
    have e3 : entrepotref22_PutPlan.l0 q (S (acc ++ Pk.putUI rs[i].length ++ Pp.ints rs[i])) ((i + 1 : Nat) : Int) rs = _ := h3 q (by omega)
    simp only [entrepotref22_PutPlan.l0]
    rw [if_pos (by omega), if_pos (by omega), hrd, e1]
    simp only [Option.bind_some]
    rw [S_size, S_size, if_pos (by omega), e2]
    simp only [Option.bind_some]
    rw [S_append, S_size, S_size, if_pos (by rw [List.length_append]; omega), S_append, nxp i (by omega), e3, List.drop_eq_getElem_cons hil]
    simp only [Pp.list, List.flatMap_cons, List.append_assoc]
theorem refPutP (rs : List (List Int)) (hl : rs.length ≤ 10000) (hr : ∀ r ∈ rs, r.length ≤ 10000) : Ev (fun k => entrepotref22_PutPlan.f k rs) (S (Pk.shut (Pp.plan rs))) := by
  have hq := Pp.putUI_len rs.length (by omega)
  obtain ⟨K1, h1⟩ := refPutUint (rs.length : Int) (by omega)
  obtain ⟨K2, h2⟩ := planP_l rs hl hr rs.length 0 ([69, 80, 84, 2] ++ Pk.putUI rs.length) (by omega) (by simp only [List.length_append, List.length_cons, List.length_nil]; omega)
  refine ⟨max K1 K2, fun q hk => ?_⟩
  have e1 : entrepotref21_PutUint.f q (rs.length : Int) = _ := h1 q (by omega)
  have e2 : entrepotref22_PutPlan.l0 q (S ([69, 80, 84, 2] ++ Pk.putUI rs.length)) ((0 : Nat) : Int) rs = _ := h2 q (by omega)
  show entrepotref22_PutPlan.f q rs = _
  unfold entrepotref22_PutPlan.f
  rw [e1]
  simp only [Option.bind_some]
  rw [S_size, if_pos (by omega), show (⟨#[69, 80, 84, 2]⟩ : ByteArray) = S [69, 80, 84, 2] from rfl, S_append]
  refine e2.trans ?_
  rw [List.drop_zero]
  rfl
end Go.Proofs.YtofklpphalalhaaGreatDoor.Evs
end
