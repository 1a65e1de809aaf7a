-- Written by a program out of the translation, for several roots at once (set All). Not trusted: Lean checks it.
import Derived.Test.YtbbkchifbinioaaDoorPAllx0
import Derived.Test.YtbbkchifbinioaaDoorPAllx3
import Derived.Test.YtbbkchifbinioaaDoorGivenD
namespace Go.Proofs.YtbbkchifbinioaaDoor.PAll
open Go.RowKit Go.Proofs.YtbbkchifbinioaaDoorW.PrintWords Go.Proofs.YtbbkchifbinioaaDoorW.PrintLast Go.Proofs.YtbbkchifbinioaaDoorW.PrintMore
attribute [local go_sem] max2_int min2_int max_two min_two max_three min_three max_four min_four   -- for this text's walks alone
set_option linter.unusedVariables false
set_option linter.unusedSimpArgs false

/-! ### entrepotlaw03_WordsCover: function 4 -/
mutual
def entrepotlaw03_WordsCover.j0 : Nat → ByteArray → Bool → Option (Bool)
  | 0, _, _ => none
  | k + 1, x0, x16 => if x16 = true then ((entrepotlaw03_shown.f).bind fun t151 => (some t151)) else ((words_Fields.f x0 0 (x0.size : Int)).bind fun t152 => (entrepotlaw03_WordsCover.l0 k x0 t152 0 0))
def entrepotlaw03_WordsCover.l0 : Nat → ByteArray → List (S24) → Int → Int → Option (Bool)
  | 0, _, _, _, _ => none
  | k + 1, x0, x3, x4, x5 => if x5 ≤ (x3.length : Int) then (if x5 < (x3.length : Int) then (if 0 ≤ x5 then (if ((rd_T24 x3 x5).f0) ≥ ((rd_T24 x3 x5).f1) then (some false) else (if x5 > 0 then (if ((rd_T24 x3 x5).f0) ≤ x4 then (some false) else (entrepotlaw03_WordsCover.j2 k x0 x3 x4 x5 ((rd_T24 x3 x5).f0) ((rd_T24 x3 x5).f1))) else (entrepotlaw03_WordsCover.j2 k x0 x3 x4 x5 ((rd_T24 x3 x5).f0) ((rd_T24 x3 x5).f1)))) else (none)) else (entrepotlaw03_WordsCover.j2 k x0 x3 x4 x5 (x0.size : Int) (x0.size : Int))) else (some true)
def entrepotlaw03_WordsCover.j2 : Nat → ByteArray → List (S24) → Int → Int → Int → Int → Option (Bool)
  | 0, _, _, _, _, _, _ => none
  | k + 1, x0, x3, x4, x5, x6, x7 => if x6 < x4 then (entrepotlaw03_WordsCover.j3 k x0 x3 x4 x5 x6 x7 true) else (entrepotlaw03_WordsCover.j3 k x0 x3 x4 x5 x6 x7 (decide (x7 > (x0.size : Int))))
def entrepotlaw03_WordsCover.j3 : Nat → ByteArray → List (S24) → Int → Int → Int → Int → Bool → Option (Bool)
  | 0, _, _, _, _, _, _, _ => none
  | k + 1, x0, x3, x4, x5, x6, x7, x66 => if x66 = true then (some false) else (entrepotlaw03_WordsCover.l1 k x0 x3 x5 x6 x7 x4)
def entrepotlaw03_WordsCover.l1 : Nat → ByteArray → List (S24) → Int → Int → Int → Int → Option (Bool)
  | 0, _, _, _, _, _, _ => none
  | k + 1, x0, x3, x5, x6, x7, x8 => if x8 < x6 then (if 0 ≤ x8 then (if x8 < (x0.size : Int) then (if (bt x0 x8) = 32 then (entrepotlaw03_WordsCover.l1 k x0 x3 x5 x6 x7 (wrap64 (x8 + 1))) else (if (bt x0 x8) = 9 then (entrepotlaw03_WordsCover.l1 k x0 x3 x5 x6 x7 (wrap64 (x8 + 1))) else (some false))) else (none)) else (none)) else (entrepotlaw03_WordsCover.l2 k x0 x3 x5 x7 x6)
def entrepotlaw03_WordsCover.l2 : Nat → ByteArray → List (S24) → Int → Int → Int → Option (Bool)
  | 0, _, _, _, _, _ => none
  | k + 1, x0, x3, x5, x7, x9 => if x9 < x7 then (if 0 ≤ x9 then (if x9 < (x0.size : Int) then (if (bt x0 x9) = 32 then (some false) else (if (bt x0 x9) = 9 then (some false) else (entrepotlaw03_WordsCover.l2 k x0 x3 x5 x7 (wrap64 (x9 + 1))))) else (none)) else (none)) else (entrepotlaw03_WordsCover.l0 k x0 x3 x7 (wrap64 (x5 + 1)))
end
def entrepotlaw03_WordsCover.f (k : Nat) (a0 : ByteArray) : Option (Bool) := if (a0.size : Int) > 1000 then (entrepotlaw03_WordsCover.j0 k a0 true) else ((entrepotlaw03_shown.f).bind fun t150 => (entrepotlaw03_WordsCover.j0 k a0 (!t150)))
theorem entrepotlaw03_WordsCover.mono_l : ∀ k, (∀ y0 y1, LeO (entrepotlaw03_WordsCover.j0 k y0 y1) (entrepotlaw03_WordsCover.j0 (k + 1) y0 y1)) ∧ (∀ y0 y1 y2 y3, LeO (entrepotlaw03_WordsCover.l0 k y0 y1 y2 y3) (entrepotlaw03_WordsCover.l0 (k + 1) y0 y1 y2 y3)) ∧ (∀ y0 y1 y2 y3 y4 y5, LeO (entrepotlaw03_WordsCover.j2 k y0 y1 y2 y3 y4 y5) (entrepotlaw03_WordsCover.j2 (k + 1) y0 y1 y2 y3 y4 y5)) ∧ (∀ y0 y1 y2 y3 y4 y5 y6, LeO (entrepotlaw03_WordsCover.j3 k y0 y1 y2 y3 y4 y5 y6) (entrepotlaw03_WordsCover.j3 (k + 1) y0 y1 y2 y3 y4 y5 y6)) ∧ (∀ y0 y1 y2 y3 y4 y5, LeO (entrepotlaw03_WordsCover.l1 k y0 y1 y2 y3 y4 y5) (entrepotlaw03_WordsCover.l1 (k + 1) y0 y1 y2 y3 y4 y5)) ∧ (∀ y0 y1 y2 y3 y4, LeO (entrepotlaw03_WordsCover.l2 k y0 y1 y2 y3 y4) (entrepotlaw03_WordsCover.l2 (k + 1) y0 y1 y2 y3 y4))
  | 0 => ⟨fun _ _ r h => by simp [entrepotlaw03_WordsCover.j0] at h, fun _ _ _ _ r h => by simp [entrepotlaw03_WordsCover.l0] at h, fun _ _ _ _ _ _ r h => by simp [entrepotlaw03_WordsCover.j2] at h, fun _ _ _ _ _ _ _ r h => by simp [entrepotlaw03_WordsCover.j3] at h, fun _ _ _ _ _ _ r h => by simp [entrepotlaw03_WordsCover.l1] at h, fun _ _ _ _ _ r h => by simp [entrepotlaw03_WordsCover.l2] at h⟩
  | k + 1 => by
    obtain ⟨ih0, ih1, ih2, ih3, ih4, ih5⟩ := entrepotlaw03_WordsCover.mono_l k
    refine ⟨?_, ?_, ?_, ?_, ?_, ?_⟩
    · intro y0 y1
      unfold entrepotlaw03_WordsCover.j0
      repeat' first
      | (with_reducible exact ih0 _ _)
      | (with_reducible exact ih1 _ _ _ _)
      | (with_reducible exact ih2 _ _ _ _ _ _)
      | (with_reducible exact ih3 _ _ _ _ _ _ _)
      | (with_reducible exact ih4 _ _ _ _ _ _)
      | (with_reducible exact ih5 _ _ _ _ _)
      | (with_reducible exact LeO.refl _)
      | (with_reducible exact LeO.none _)
      | (with_reducible refine LeO.ite ?_ ?_)
      | (with_reducible refine LeO.bind ?_ (fun _ => ?_))
      | exact ih0 _ _
      | exact ih1 _ _ _ _
      | exact ih2 _ _ _ _ _ _
      | exact ih3 _ _ _ _ _ _ _
      | exact ih4 _ _ _ _ _ _
      | exact ih5 _ _ _ _ _
      | exact LeO.none _
      | refine LeO.ite ?_ ?_
      | refine LeO.bind ?_ (fun _ => ?_)
    · intro y0 y1 y2 y3
      unfold entrepotlaw03_WordsCover.l0
      repeat' first
      | (with_reducible exact ih0 _ _)
      | (with_reducible exact ih1 _ _ _ _)
      | (with_reducible exact ih2 _ _ _ _ _ _)
      | (with_reducible exact ih3 _ _ _ _ _ _ _)
      | (with_reducible exact ih4 _ _ _ _ _ _)
      | (with_reducible exact ih5 _ _ _ _ _)
      | (with_reducible exact LeO.refl _)
      | (with_reducible exact LeO.none _)
      | (with_reducible refine LeO.ite ?_ ?_)
      | (with_reducible refine LeO.bind ?_ (fun _ => ?_))
      | exact ih0 _ _
      | exact ih1 _ _ _ _
      | exact ih2 _ _ _ _ _ _
      | exact ih3 _ _ _ _ _ _ _
      | exact ih4 _ _ _ _ _ _
      | exact ih5 _ _ _ _ _
      | exact LeO.none _
      | refine LeO.ite ?_ ?_
      | refine LeO.bind ?_ (fun _ => ?_)
    · intro y0 y1 y2 y3 y4 y5
      unfold entrepotlaw03_WordsCover.j2
      repeat' first
      | (with_reducible exact ih0 _ _)
      | (with_reducible exact ih1 _ _ _ _)
      | (with_reducible exact ih2 _ _ _ _ _ _)
      | (with_reducible exact ih3 _ _ _ _ _ _ _)
      | (with_reducible exact ih4 _ _ _ _ _ _)
      | (with_reducible exact ih5 _ _ _ _ _)
      | (with_reducible exact LeO.refl _)
      | (with_reducible exact LeO.none _)
      | (with_reducible refine LeO.ite ?_ ?_)
      | (with_reducible refine LeO.bind ?_ (fun _ => ?_))
      | exact ih0 _ _
      | exact ih1 _ _ _ _
      | exact ih2 _ _ _ _ _ _
      | exact ih3 _ _ _ _ _ _ _
      | exact ih4 _ _ _ _ _ _
      | exact ih5 _ _ _ _ _
      | exact LeO.none _
      | refine LeO.ite ?_ ?_
      | refine LeO.bind ?_ (fun _ => ?_)
    · intro y0 y1 y2 y3 y4 y5 y6
      unfold entrepotlaw03_WordsCover.j3
      repeat' first
      | (with_reducible exact ih0 _ _)
      | (with_reducible exact ih1 _ _ _ _)
      | (with_reducible exact ih2 _ _ _ _ _ _)
      | (with_reducible exact ih3 _ _ _ _ _ _ _)
      | (with_reducible exact ih4 _ _ _ _ _ _)
      | (with_reducible exact ih5 _ _ _ _ _)
      | (with_reducible exact LeO.refl _)
      | (with_reducible exact LeO.none _)
      | (with_reducible refine LeO.ite ?_ ?_)
      | (with_reducible refine LeO.bind ?_ (fun _ => ?_))
      | exact ih0 _ _
      | exact ih1 _ _ _ _
      | exact ih2 _ _ _ _ _ _
      | exact ih3 _ _ _ _ _ _ _
      | exact ih4 _ _ _ _ _ _
      | exact ih5 _ _ _ _ _
      | exact LeO.none _
      | refine LeO.ite ?_ ?_
      | refine LeO.bind ?_ (fun _ => ?_)
    · intro y0 y1 y2 y3 y4 y5
      unfold entrepotlaw03_WordsCover.l1
      repeat' first
      | (with_reducible exact ih0 _ _)
      | (with_reducible exact ih1 _ _ _ _)
      | (with_reducible exact ih2 _ _ _ _ _ _)
      | (with_reducible exact ih3 _ _ _ _ _ _ _)
      | (with_reducible exact ih4 _ _ _ _ _ _)
      | (with_reducible exact ih5 _ _ _ _ _)
      | (with_reducible exact LeO.refl _)
      | (with_reducible exact LeO.none _)
      | (with_reducible refine LeO.ite ?_ ?_)
      | (with_reducible refine LeO.bind ?_ (fun _ => ?_))
      | exact ih0 _ _
      | exact ih1 _ _ _ _
      | exact ih2 _ _ _ _ _ _
      | exact ih3 _ _ _ _ _ _ _
      | exact ih4 _ _ _ _ _ _
      | exact ih5 _ _ _ _ _
      | exact LeO.none _
      | refine LeO.ite ?_ ?_
      | refine LeO.bind ?_ (fun _ => ?_)
    · intro y0 y1 y2 y3 y4
      unfold entrepotlaw03_WordsCover.l2
      repeat' first
      | (with_reducible exact ih0 _ _)
      | (with_reducible exact ih1 _ _ _ _)
      | (with_reducible exact ih2 _ _ _ _ _ _)
      | (with_reducible exact ih3 _ _ _ _ _ _ _)
      | (with_reducible exact ih4 _ _ _ _ _ _)
      | (with_reducible exact ih5 _ _ _ _ _)
      | (with_reducible exact LeO.refl _)
      | (with_reducible exact LeO.none _)
      | (with_reducible refine LeO.ite ?_ ?_)
      | (with_reducible refine LeO.bind ?_ (fun _ => ?_))
      | exact ih0 _ _
      | exact ih1 _ _ _ _
      | exact ih2 _ _ _ _ _ _
      | exact ih3 _ _ _ _ _ _ _
      | exact ih4 _ _ _ _ _ _
      | exact ih5 _ _ _ _ _
      | exact LeO.none _
      | refine LeO.ite ?_ ?_
      | refine LeO.bind ?_ (fun _ => ?_)
theorem entrepotlaw03_WordsCover.mono : ∀ a0 k, LeO (entrepotlaw03_WordsCover.f k a0) (entrepotlaw03_WordsCover.f (k + 1) a0) := by
  intro a0 k
  obtain ⟨ih0, ih1, ih2, ih3, ih4, ih5⟩ := entrepotlaw03_WordsCover.mono_l k
  unfold entrepotlaw03_WordsCover.f
  repeat' first
      | (with_reducible exact ih0 _ _)
      | (with_reducible exact ih1 _ _ _ _)
      | (with_reducible exact ih2 _ _ _ _ _ _)
      | (with_reducible exact ih3 _ _ _ _ _ _ _)
      | (with_reducible exact ih4 _ _ _ _ _ _)
      | (with_reducible exact ih5 _ _ _ _ _)
      | (with_reducible exact LeO.refl _)
      | (with_reducible exact LeO.none _)
      | (with_reducible refine LeO.ite ?_ ?_)
      | (with_reducible refine LeO.bind ?_ (fun _ => ?_))
      | exact ih0 _ _
      | exact ih1 _ _ _ _
      | exact ih2 _ _ _ _ _ _
      | exact ih3 _ _ _ _ _ _ _
      | exact ih4 _ _ _ _ _ _
      | exact ih5 _ _ _ _ _
      | exact LeO.none _
      | refine LeO.ite ?_ ?_
      | refine LeO.bind ?_ (fun _ => ?_)
set_option maxHeartbeats 8000000 in
set_option maxRecDepth 100000 in
theorem entrepotlaw03_WordsCover.calls (k : Nat) (a0 : ByteArray) (r : Bool) (w : World) (h : entrepotlaw03_WordsCover.f k a0 = some r) :
    Calls Tryd.prog 4 #[.string a0] w fun e w' => e = .returned (.bool r) ∧ Below w.heap.size w w' := by
  have HB := Aside0.mk (Below.refl w.heap.size w)
  have H : (if (a0.size : Int) > 1000 then (entrepotlaw03_WordsCover.j0 k a0 true) else ((entrepotlaw03_shown.f).bind fun t150 => (entrepotlaw03_WordsCover.j0 k a0 (!t150)))) = some r := h
  clear h
  have HC2 := Aside0.mk H
  clear H
  go_enter Tryd.func4, Tryd.ntmps4
  go_upto_region 1 with (fail)
  go_cut [16] (fun v16 wc => ∃ (kq : Nat) (x16_1 : Bool), v16 = .bool x16_1 ∧ Aside0 (entrepotlaw03_WordsCover.j0 kq a0 x16_1 = some r) ∧ Aside0 (kq ≤ k) ∧ Aside0 (Below w.heap.size w wc))
  case first =>
    have H := HC2.out
    clear HC2
    by_cases c3 : (a0.size : Int) > 1000
    · rw [if_pos c3] at H
      have c3b0 : decide (1000 < (a0.size : Int)) = true := decide_eq_true c3
      have c3b1 : decide (1000 < a0.size) = true := decide_eq_true (by omega)
      clear c3
      (first | rw [c3b0] | (simp only [i64_w, i32_w]; rw [c3b0]) | skip)
      have H' := Aside0.mk H
      clear H
      go_wp2
      go_meet
      case rel => exact ⟨_, (true), (by first | rfl | (simp; done) | (simp [*]; done)), H', ⟨by first | omega | exact Nat.le_refl _⟩, ⟨by repeat (first | (with_reducible first | exact HB.out | apply below_alloc | apply pw_below_drewN | apply below_drew1) | exact HB.out)⟩⟩
    · rw [if_neg c3] at H
      have c3b0 : decide (1000 < (a0.size : Int)) = false := decide_eq_false c3
      have c3b1 : decide (1000 < a0.size) = false := decide_eq_false (by omega)
      clear c3
      (first | rw [c3b0] | (simp only [i64_w, i32_w]; rw [c3b0]) | skip)
      replace H := Option.bind_eq_some_iff.mp H
      obtain ⟨t150, A40, H⟩ := H
      replace H : (entrepotlaw03_WordsCover.j0 k a0 (!t150)) = some r := H
      have A4 := Aside0.mk A40
      clear A40
      have H' := Aside0.mk H
      clear H
      go_wp2_with (first | (go_at_call 10; (with_reducible refine (entrepotlaw03_shown.calls  t150 _ A4.out).mono ?_); rintro e w5 ⟨rfl, hb⟩; have n0_ := Aside0.mk (below_step (by repeat (first | (with_reducible first | exact HB.out | apply below_alloc | apply pw_below_drewN | apply below_drew1) | exact HB.out)) hb); clear HB; have HB := n0_; clear n0_; (try clear hb); (try clear hb2); (try clear hk); (try clear hi)))
      go_meet
      case rel => exact ⟨_, (!t150), (by first | rfl | (simp; done) | (simp [*]; done)), H', ⟨by first | omega | exact Nat.le_refl _⟩, ⟨by repeat (first | (with_reducible first | exact HB.out | apply below_alloc | apply pw_below_drewN | apply below_drew1) | exact HB.out)⟩⟩
  case rest =>
    clear HC2
    try clear p2
    try clear c3
    try clear c3b0
    try clear c3b1
    try clear c4
    obtain ⟨kq, x16_1, rfl, HA, HJ1, HB⟩ := hcut
    cases kq with
    | zero => exact absurd HA.out (by simp [entrepotlaw03_WordsCover.j0])
    | succ kj1 =>
      have H := HA.out
      clear HA
      simp only [entrepotlaw03_WordsCover.j0] at H
      by_cases c6 : x16_1 = true
      · subst c6
        have H1 : ((entrepotlaw03_shown.f).bind fun t151 => (some t151)) = some r := by rw [if_pos rfl] at H; exact H
        clear H
        have H := H1
        clear H1
        replace H := Option.bind_eq_some_iff.mp H
        obtain ⟨t151, A70, H⟩ := H
        replace H : (some t151) = some r := H
        have A7 := Aside0.mk A70
        clear A70
        obtain rfl := Option.some.inj H
        go_wp2_with (first | ((with_reducible refine gate_callee (f := 10) rfl ?_); refine goesL_ (some 17) rfl rfl Tryd.func10 (by kernel_rfl) rfl #[] rfl (by (try simp only [List.map_toArray, List.map_cons, List.map_nil]); first | done | rfl | (simp only [List.length_drop, List.length_take]; rfl)) ?_; (with_reducible refine (entrepotlaw03_shown.calls  t151 _ A7.out).mono ?_); rintro e w8 ⟨rfl, hb⟩; refine ⟨_, rfl, ?_⟩; have n0_ := Aside0.mk (below_step (by repeat (first | (with_reducible first | exact HB.out | apply below_alloc | apply pw_below_drewN | apply below_drew1) | exact HB.out)) hb); clear HB; have HB := n0_; clear n0_; (try clear hb); (try clear hb2); (try clear hk); (try clear hi)))
        go_ret
        exact ⟨by first | rfl | (simp [errW_none, errW_some] <;> rfl) | (simp [*, errW_none, errW_some] <;> rfl), by repeat (first | (with_reducible first | exact HB.out | apply below_alloc | apply pw_below_drewN | apply below_drew1) | exact HB.out)⟩
      · replace c6 := Bool.eq_false_iff.mpr c6
        subst c6
        have H1 : ((words_Fields.f a0 0 (a0.size : Int)).bind fun t152 => (entrepotlaw03_WordsCover.l0 kj1 a0 t152 0 0)) = some r := by rw [if_neg (show ¬ (false = true) by decide)] at H; exact H
        clear H
        have H := H1
        clear H1
        replace H := Option.bind_eq_some_iff.mp H
        obtain ⟨t152, A90, H⟩ := H
        replace H : (entrepotlaw03_WordsCover.l0 kj1 a0 t152 0 0) = some r := H
        have A9 := Aside0.mk A90
        clear A90
        have H' := Aside0.mk H
        clear H
        go_wp2_with (first | ((with_reducible refine gate_callee (f := 13) rfl ?_); refine goesL_ (some 21) rfl rfl Tryd.func13 (by kernel_rfl) rfl #[.string a0, .int .i64 0, .int .i64 (a0.size : Int)] rfl (by (try simp only [List.map_toArray, List.map_cons, List.map_nil]); first | done | rfl | (simp only [List.length_drop, List.length_take]; rfl)) ?_; (with_reducible refine (words_Fields.calls a0 0 (a0.size : Int) t152 _ A9.out).mono ?_); rintro e w10 ⟨v153, rfl, ho0, hb⟩; refine ⟨_, rfl, ?_⟩; have n0_ := Aside0.mk (Kd.R_lower ho0 (below_size (by repeat (first | (with_reducible first | exact HB.out | apply below_alloc | apply pw_below_drewN | apply below_drew1) | exact HB.out)))); have n1_ := Aside0.mk (below_step (by repeat (first | (with_reducible first | exact HB.out | apply below_alloc | apply pw_below_drewN | apply below_drew1) | exact HB.out)) hb); clear HB; have HO154 := n0_; have HB := n1_; clear n0_ n1_; (try clear hb); (try clear hb2); (try clear hk); (try clear hi); (try clear ho0)))
        go_loopg [4, 5] kj1 (fun kq v4 v5 w' => ∃ (x4_2 : Int) (x5_2 : Int), v4 = .int .i64 x4_2 ∧ v5 = .int .i64 x5_2 ∧ Aside0 (entrepotlaw03_WordsCover.l0 kq a0 t152 x4_2 x5_2 = some r) ∧ Aside0 (kq ≤ kj1) ∧ Aside0 (Kd.R k24 24 w' w.heap.size (fun _ => True) v153 t152) ∧ Aside0 (Below w.heap.size w w'))
        case atStart => exact ⟨(0), (0), (by first | rfl | (simp; done) | (simp [*]; done)), (by first | rfl | (simp; done) | (simp [*]; done)), H', ⟨Nat.le_refl _⟩, ⟨by (with_reducible repeat (first | apply Kd.R_alloc | apply Kd.R_drewN | apply Kd.R_drew)); exact HO154.out⟩, ⟨by repeat (first | (with_reducible first | exact HB.out | apply below_alloc | apply pw_below_drewN | apply below_drew1) | exact HB.out)⟩⟩
        case round =>
          clear H'
          try clear c1
          try clear p2
          try clear c3
          try clear c3b0
          try clear c3b1
          try clear c4
          try clear c6
          try clear c10
          try clear p2
          obtain ⟨x4_2, x5_2, rfl, rfl, HA, HK2, HO_3, HB⟩ := hrel
          cases gk with
          | zero => exact absurd HA.out (by simp [entrepotlaw03_WordsCover.l0])
          | succ k2 =>
            have H := HA.out
            clear HA
            simp only [entrepotlaw03_WordsCover.l0] at H
            by_cases c11 : x5_2 ≤ (t152.length : Int)
            · rw [if_pos c11] at H
              have c11b0 : decide (x5_2 ≤ (t152.length : Int)) = true := decide_eq_true c11
              clear c11
              have HC12 := Aside0.mk H
              clear H
              obtain ⟨Ao13, co13, eo13⟩ := Kd.R_slice HO_3.out
              subst eo13
              go_upto_if 35 with (fail)
              go_cut [6, 7] (fun v6 v7 wc => ∃ (kq : Nat) (x6_11 : Int) (x7_11 : Int), v6 = .int .i64 x6_11 ∧ v7 = .int .i64 x7_11 ∧ Aside0 (entrepotlaw03_WordsCover.j2 kq a0 t152 x4_2 x5_2 x6_11 x7_11 = some r) ∧ Aside0 (kq ≤ k2) ∧ Aside0 (Kd.R k24 24 wc w.heap.size (fun _ => True) (.slice Ao13 t152.length co13) t152) ∧ Aside0 (Below w.heap.size w wc))
              case first =>
                have H := HC12.out
                clear HC12
                by_cases c14 : x5_2 < (t152.length : Int)
                · rw [if_pos c14] at H
                  have c14b0 : decide (x5_2 < (t152.length : Int)) = true := decide_eq_true c14
                  clear c14
                  (first | rw [c14b0] | (simp only [i64_w, i32_w]; rw [c14b0]) | skip)
                  by_cases c15 : 0 ≤ x5_2
                  · rw [if_pos c15] at H
                    have c15b0 : decide (0 ≤ x5_2) = true := decide_eq_true c15
                    clear c15
                    by_cases c16 : ((rd_T24 t152 x5_2).f0) ≥ ((rd_T24 t152 x5_2).f1)
                    · rw [if_pos c16] at H
                      have c16b0 : decide (((rd_T24 t152 x5_2).f1) ≤ ((rd_T24 t152 x5_2).f0)) = true := decide_eq_true c16
                      clear c16
                      obtain rfl := Option.some.inj H
                      have p155 : 0 ≤ (x5_2 : Int) := of_decide_eq_true (by first | (with_reducible assumption) | assumption)
                      have q155 : x5_2 < (t152.length : Int) := of_decide_eq_true (by first | (with_reducible assumption) | assumption)
                      obtain ⟨ad155, e155, hx155_0, hx155_1⟩ := at_T24 (Kd.R_reads' HO_3.out).2.2 x5_2 p155 q155
                      cases e155
                      replace p155 := eq_true p155
                      replace q155 := eq_true q155
                      have p156 : 0 ≤ (x5_2 : Int) := of_decide_eq_true (by first | (with_reducible assumption) | assumption)
                      have q156 : x5_2 < (t152.length : Int) := of_decide_eq_true (by first | (with_reducible assumption) | assumption)
                      obtain ⟨ad156, e156, hx156_0, hx156_1⟩ := at_T24 (Kd.R_reads' HO_3.out).2.2 x5_2 p156 q156
                      obtain rfl : ad155 = ad156 := (by injection e156)
                      replace p156 := eq_true p156
                      replace q156 := eq_true q156
                      go_wp2
                      go_ret
                      exact ⟨by first | rfl | (simp [errW_none, errW_some] <;> rfl) | (simp [*, errW_none, errW_some] <;> rfl), by repeat (first | (with_reducible first | exact HB.out | apply below_alloc | apply pw_below_drewN | apply below_drew1) | exact HB.out)⟩
                    · rw [if_neg c16] at H
                      have c16b0 : decide (((rd_T24 t152 x5_2).f1) ≤ ((rd_T24 t152 x5_2).f0)) = false := decide_eq_false c16
                      clear c16
                      by_cases c17 : x5_2 > 0
                      · rw [if_pos c17] at H
                        have c17b0 : decide (0 < x5_2) = true := decide_eq_true c17
                        clear c17
                        by_cases c18 : ((rd_T24 t152 x5_2).f0) ≤ x4_2
                        · rw [if_pos c18] at H
                          have c18b0 : decide (((rd_T24 t152 x5_2).f0) ≤ x4_2) = true := decide_eq_true c18
                          clear c18
                          obtain rfl := Option.some.inj H
                          have p155 : 0 ≤ (x5_2 : Int) := of_decide_eq_true (by first | (with_reducible assumption) | assumption)
                          have q155 : x5_2 < (t152.length : Int) := of_decide_eq_true (by first | (with_reducible assumption) | assumption)
                          obtain ⟨ad155, e155, hx155_0, hx155_1⟩ := at_T24 (Kd.R_reads' HO_3.out).2.2 x5_2 p155 q155
                          cases e155
                          replace p155 := eq_true p155
                          replace q155 := eq_true q155
                          have p156 : 0 ≤ (x5_2 : Int) := of_decide_eq_true (by first | (with_reducible assumption) | assumption)
                          have q156 : x5_2 < (t152.length : Int) := of_decide_eq_true (by first | (with_reducible assumption) | assumption)
                          obtain ⟨ad156, e156, hx156_0, hx156_1⟩ := at_T24 (Kd.R_reads' HO_3.out).2.2 x5_2 p156 q156
                          obtain rfl : ad155 = ad156 := (by injection e156)
                          replace p156 := eq_true p156
                          replace q156 := eq_true q156
                          go_wp2
                          go_ret
                          exact ⟨by first | rfl | (simp [errW_none, errW_some] <;> rfl) | (simp [*, errW_none, errW_some] <;> rfl), by repeat (first | (with_reducible first | exact HB.out | apply below_alloc | apply pw_below_drewN | apply below_drew1) | exact HB.out)⟩
                        · rw [if_neg c18] at H
                          have c18b0 : decide (((rd_T24 t152 x5_2).f0) ≤ x4_2) = false := decide_eq_false c18
                          clear c18
                          have H' := Aside0.mk H
                          clear H
                          have p155 : 0 ≤ (x5_2 : Int) := of_decide_eq_true (by first | (with_reducible assumption) | assumption)
                          have q155 : x5_2 < (t152.length : Int) := of_decide_eq_true (by first | (with_reducible assumption) | assumption)
                          obtain ⟨ad155, e155, hx155_0, hx155_1⟩ := at_T24 (Kd.R_reads' HO_3.out).2.2 x5_2 p155 q155
                          cases e155
                          replace p155 := eq_true p155
                          replace q155 := eq_true q155
                          have p156 : 0 ≤ (x5_2 : Int) := of_decide_eq_true (by first | (with_reducible assumption) | assumption)
                          have q156 : x5_2 < (t152.length : Int) := of_decide_eq_true (by first | (with_reducible assumption) | assumption)
                          obtain ⟨ad156, e156, hx156_0, hx156_1⟩ := at_T24 (Kd.R_reads' HO_3.out).2.2 x5_2 p156 q156
                          obtain rfl : ad155 = ad156 := (by injection e156)
                          replace p156 := eq_true p156
                          replace q156 := eq_true q156
                          go_wp2
                          go_meet
                          case rel => exact ⟨_, ((rd_T24 t152 x5_2).f0), ((rd_T24 t152 x5_2).f1), (by first | rfl | (simp; done) | (simp [*]; done)), (by first | rfl | (simp; done) | (simp [*]; done)), H', ⟨by have := HJ1.out; have := HK2.out; first | omega | exact Nat.le_refl _⟩, ⟨by (with_reducible repeat (first | apply Kd.R_alloc | apply Kd.R_drewN | apply Kd.R_drew)); exact HO_3.out⟩, ⟨by repeat (first | (with_reducible first | exact HB.out | apply below_alloc | apply pw_below_drewN | apply below_drew1) | exact HB.out)⟩⟩
                      · rw [if_neg c17] at H
                        have c17b0 : decide (0 < x5_2) = false := decide_eq_false c17
                        clear c17
                        have H' := Aside0.mk H
                        clear H
                        have p155 : 0 ≤ (x5_2 : Int) := of_decide_eq_true (by first | (with_reducible assumption) | assumption)
                        have q155 : x5_2 < (t152.length : Int) := of_decide_eq_true (by first | (with_reducible assumption) | assumption)
                        obtain ⟨ad155, e155, hx155_0, hx155_1⟩ := at_T24 (Kd.R_reads' HO_3.out).2.2 x5_2 p155 q155
                        cases e155
                        replace p155 := eq_true p155
                        replace q155 := eq_true q155
                        have p156 : 0 ≤ (x5_2 : Int) := of_decide_eq_true (by first | (with_reducible assumption) | assumption)
                        have q156 : x5_2 < (t152.length : Int) := of_decide_eq_true (by first | (with_reducible assumption) | assumption)
                        obtain ⟨ad156, e156, hx156_0, hx156_1⟩ := at_T24 (Kd.R_reads' HO_3.out).2.2 x5_2 p156 q156
                        obtain rfl : ad155 = ad156 := (by injection e156)
                        replace p156 := eq_true p156
                        replace q156 := eq_true q156
                        go_wp2
                        go_meet
                        case rel => exact ⟨_, ((rd_T24 t152 x5_2).f0), ((rd_T24 t152 x5_2).f1), (by first | rfl | (simp; done) | (simp [*]; done)), (by first | rfl | (simp; done) | (simp [*]; done)), H', ⟨by have := HJ1.out; have := HK2.out; first | omega | exact Nat.le_refl _⟩, ⟨by (with_reducible repeat (first | apply Kd.R_alloc | apply Kd.R_drewN | apply Kd.R_drew)); exact HO_3.out⟩, ⟨by repeat (first | (with_reducible first | exact HB.out | apply below_alloc | apply pw_below_drewN | apply below_drew1) | exact HB.out)⟩⟩
                  · rw [if_neg c15] at H
                    exact absurd H (by simp)
                · rw [if_neg c14] at H
                  have c14b0 : decide (x5_2 < (t152.length : Int)) = false := decide_eq_false c14
                  clear c14
                  (first | rw [c14b0] | (simp only [i64_w, i32_w]; rw [c14b0]) | skip)
                  have H' := Aside0.mk H
                  clear H
                  go_wp2
                  go_meet
                  case rel => exact ⟨_, ((a0.size : Int)), ((a0.size : Int)), (by first | rfl | (simp; done) | (simp [*]; done)), (by first | rfl | (simp; done) | (simp [*]; done)), H', ⟨by have := HJ1.out; have := HK2.out; first | omega | exact Nat.le_refl _⟩, ⟨by (with_reducible repeat (first | apply Kd.R_alloc | apply Kd.R_drewN | apply Kd.R_drew)); exact HO_3.out⟩, ⟨by repeat (first | (with_reducible first | exact HB.out | apply below_alloc | apply pw_below_drewN | apply below_drew1) | exact HB.out)⟩⟩
              case rest =>
                clear HC12
                try clear c1
                try clear p1
                try clear q1
                try clear hx1
                try clear p2
                try clear c3
                try clear c3b0
                try clear c3b1
                try clear c4
                try clear c6
                try clear c10
                try clear c11
                try clear c11b0
                try clear c13
                try clear c14
                try clear c14b0
                try clear c15
                try clear c15b0
                try clear p15
                try clear q15
                try clear hx15
                try clear c16
                try clear c16b0
                try clear c17
                try clear c17b0
                try clear c18
                try clear c18b0
                try clear hx155_0
                try clear hx155_1
                try clear hx156_0
                try clear hx156_1
                try clear p155
                try clear p156
                try clear p2
                try clear q155
                try clear q156
                obtain ⟨kq, x6_11, x7_11, rfl, rfl, HA, HJ11, HO_3, HB⟩ := hcut
                cases kq with
                | zero => exact absurd HA.out (by simp [entrepotlaw03_WordsCover.j2])
                | succ kj11 =>
                  have H := HA.out
                  clear HA
                  simp only [entrepotlaw03_WordsCover.j2] at H
                  have HC19 := Aside0.mk H
                  clear H
                  go_upto_region 15 with (fail)
                  go_cut [66] (fun v66 wc => ∃ (kq : Nat) (x66_18 : Bool), v66 = .bool x66_18 ∧ Aside0 (entrepotlaw03_WordsCover.j3 kq a0 t152 x4_2 x5_2 x6_11 x7_11 x66_18 = some r) ∧ Aside0 (kq ≤ kj11) ∧ Aside0 (Kd.R k24 24 wc w.heap.size (fun _ => True) (.slice Ao13 t152.length co13) t152) ∧ Aside0 (Below w.heap.size w wc))
                  case first =>
                    have H := HC19.out
                    clear HC19
                    by_cases c20 : x6_11 < x4_2
                    · rw [if_pos c20] at H
                      have c20b0 : decide (x6_11 < x4_2) = true := decide_eq_true c20
                      clear c20
                      (first | rw [c20b0] | (simp only [i64_w, i32_w]; rw [c20b0]) | skip)
                      have H' := Aside0.mk H
                      clear H
                      go_wp2
                      go_meet
                      case rel => exact ⟨_, (true), (by first | rfl | (simp; done) | (simp [*]; done)), H', ⟨by have := HJ1.out; have := HK2.out; have := HJ11.out; first | omega | exact Nat.le_refl _⟩, ⟨by (with_reducible repeat (first | apply Kd.R_alloc | apply Kd.R_drewN | apply Kd.R_drew)); exact HO_3.out⟩, ⟨by repeat (first | (with_reducible first | exact HB.out | apply below_alloc | apply pw_below_drewN | apply below_drew1) | exact HB.out)⟩⟩
                    · rw [if_neg c20] at H
                      have c20b0 : decide (x6_11 < x4_2) = false := decide_eq_false c20
                      clear c20
                      (first | rw [c20b0] | (simp only [i64_w, i32_w]; rw [c20b0]) | skip)
                      have H' := Aside0.mk H
                      clear H
                      go_wp2
                      go_meet
                      case rel => exact ⟨_, (decide (x7_11 > (a0.size : Int))), (by first | rfl | (simp; done) | (simp [*]; done)), H', ⟨by have := HJ1.out; have := HK2.out; have := HJ11.out; first | omega | exact Nat.le_refl _⟩, ⟨by (with_reducible repeat (first | apply Kd.R_alloc | apply Kd.R_drewN | apply Kd.R_drew)); exact HO_3.out⟩, ⟨by repeat (first | (with_reducible first | exact HB.out | apply below_alloc | apply pw_below_drewN | apply below_drew1) | exact HB.out)⟩⟩
                  case rest =>
                    clear HC19
                    try clear c1
                    try clear p1
                    try clear q1
                    try clear hx1
                    try clear c2
                    try clear p2
                    try clear c3
                    try clear c3b0
                    try clear c3b1
                    try clear c4
                    try clear c6
                    try clear c10
                    try clear c11
                    try clear c11b0
                    try clear c13
                    try clear c14
                    try clear c14b0
                    try clear c15
                    try clear c15b0
                    try clear p15
                    try clear q15
                    try clear hx15
                    try clear c16
                    try clear c16b0
                    try clear c17
                    try clear c17b0
                    try clear c18
                    try clear c18b0
                    try clear c20
                    try clear c20b0
                    try clear hx155_0
                    try clear hx155_1
                    try clear hx156_0
                    try clear hx156_1
                    try clear p1
                    try clear p15
                    try clear p155
                    try clear p156
                    try clear p2
                    try clear q1
                    try clear q15
                    try clear q155
                    try clear q156
                    obtain ⟨kq, x66_18, rfl, HA, HJ18, HO_3, HB⟩ := hcut
                    cases kq with
                    | zero => exact absurd HA.out (by simp [entrepotlaw03_WordsCover.j3])
                    | succ kj18 =>
                      have H := HA.out
                      clear HA
                      simp only [entrepotlaw03_WordsCover.j3] at H
                      by_cases c21 : x66_18 = true
                      · subst c21
                        have H1 : (some false) = some r := by rw [if_pos rfl] at H; exact H
                        clear H
                        have H := H1
                        clear H1
                        obtain rfl := Option.some.inj H
                        go_wp2
                        go_ret
                        exact ⟨by first | rfl | (simp [errW_none, errW_some] <;> rfl) | (simp [*, errW_none, errW_some] <;> rfl), by repeat (first | (with_reducible first | exact HB.out | apply below_alloc | apply pw_below_drewN | apply below_drew1) | exact HB.out)⟩
                      · replace c21 := Bool.eq_false_iff.mpr c21
                        subst c21
                        have H1 : (entrepotlaw03_WordsCover.l1 kj18 a0 t152 x5_2 x6_11 x7_11 x4_2) = some r := by rw [if_neg (show ¬ (false = true) by decide)] at H; exact H
                        clear H
                        have H := H1
                        clear H1
                        have H' := Aside0.mk H
                        clear H
                        go_wp2
                        go_loopg [8] kj18 (fun kq v8 w' => ∃ (x8_5 : Int), v8 = .int .i64 x8_5 ∧ Aside0 (entrepotlaw03_WordsCover.l1 kq a0 t152 x5_2 x6_11 x7_11 x8_5 = some r) ∧ Aside0 (kq ≤ kj18) ∧ Aside0 (Kd.R k24 24 w' w.heap.size (fun _ => True) (.slice Ao13 t152.length co13) t152) ∧ Aside0 (Below w.heap.size w w'))
                        case atStart => exact ⟨(x4_2), (by first | rfl | (simp; done) | (simp [*]; done)), H', ⟨Nat.le_refl _⟩, ⟨by (with_reducible repeat (first | apply Kd.R_alloc | apply Kd.R_drewN | apply Kd.R_drew)); exact HO_3.out⟩, ⟨by repeat (first | (with_reducible first | exact HB.out | apply below_alloc | apply pw_below_drewN | apply below_drew1) | exact HB.out)⟩⟩
                        case round =>
                          clear H'
                          try clear c1
                          try clear p1
                          try clear q1
                          try clear hx1
                          try clear c2
                          try clear p2
                          try clear c3
                          try clear c3b0
                          try clear c3b1
                          try clear c4
                          try clear c6
                          try clear c10
                          try clear c11
                          try clear c11b0
                          try clear c13
                          try clear c14
                          try clear c14b0
                          try clear c15
                          try clear c15b0
                          try clear p15
                          try clear q15
                          try clear hx15
                          try clear c16
                          try clear c16b0
                          try clear c17
                          try clear c17b0
                          try clear c18
                          try clear c18b0
                          try clear c20
                          try clear c20b0
                          try clear c21
                          try clear hx155_0
                          try clear hx155_1
                          try clear hx156_0
                          try clear hx156_1
                          try clear p1
                          try clear p15
                          try clear p155
                          try clear p156
                          try clear p2
                          try clear q1
                          try clear q15
                          try clear q155
                          try clear q156
                          obtain ⟨x8_5, rfl, HA, HK5, HO_3, HB⟩ := hrel
                          cases gk with
                          | zero => exact absurd HA.out (by simp [entrepotlaw03_WordsCover.l1])
                          | succ k5 =>
                            have H := HA.out
                            clear HA
                            simp only [entrepotlaw03_WordsCover.l1] at H
                            by_cases c22 : x8_5 < x6_11
                            · rw [if_pos c22] at H
                              have c22b0 : decide (x8_5 < x6_11) = true := decide_eq_true c22
                              clear c22
                              by_cases c23 : 0 ≤ x8_5
                              · rw [if_pos c23] at H
                                have c23b0 : decide (0 ≤ x8_5) = true := decide_eq_true c23
                                clear c23
                                by_cases c24 : x8_5 < (a0.size : Int)
                                · rw [if_pos c24] at H
                                  have c24b0 : decide (x8_5 < (a0.size : Int)) = true := decide_eq_true c24
                                  clear c24
                                  by_cases c26 : (bt a0 x8_5) = 32
                                  · rw [if_pos c26] at H
                                    have c26b0 : ((bt a0 x8_5) == 32) = true := beq_iff_eq.mpr c26
                                    have c26b1 : ((bt a0 x8_5) != 32) = false := bne_eq_false_iff_eq.mpr c26
                                    clear c26
                                    have H' := Aside0.mk H
                                    clear H
                                    have p25 : 0 ≤ (x8_5 : Int) := of_decide_eq_true (by first | (with_reducible assumption) | assumption)
                                    have q25 : x8_5 < (a0.size : Int) := of_decide_eq_true (by first | (with_reducible assumption) | assumption)
                                    have hx25 := bt_at a0 x8_5
                                    replace p25 := eq_true p25
                                    replace q25 := eq_true q25
                                    go_wp2
                                    go_roundg k5
                                    case measure => have := HJ1.out; have := HK2.out; have := HJ11.out; have := HJ18.out; have := HK5.out; omega
                                    case rel => exact ⟨(wrap64 (x8_5 + 1)), (by first | rfl | (simp; done) | (simp [*]; done)), H', ⟨by have := HJ1.out; have := HK2.out; have := HJ11.out; have := HJ18.out; have := HK5.out; omega⟩, ⟨by (with_reducible repeat (first | apply Kd.R_alloc | apply Kd.R_drewN | apply Kd.R_drew)); exact HO_3.out⟩, ⟨by repeat (first | (with_reducible first | exact HB.out | apply below_alloc | apply pw_below_drewN | apply below_drew1) | exact HB.out)⟩⟩
                                  · rw [if_neg c26] at H
                                    have c26b0 : ((bt a0 x8_5) == 32) = false := beq_eq_false_iff_ne.mpr c26
                                    have c26b1 : ((bt a0 x8_5) != 32) = true := bne_iff_ne.mpr c26
                                    by_cases c28 : (bt a0 x8_5) = 9
                                    · rw [if_pos c28] at H
                                      have c28b0 : ((bt a0 x8_5) == 9) = true := beq_iff_eq.mpr c28
                                      have c28b1 : ((bt a0 x8_5) != 9) = false := bne_eq_false_iff_eq.mpr c28
                                      clear c28
                                      have H' := Aside0.mk H
                                      clear H
                                      have p25 : 0 ≤ (x8_5 : Int) := of_decide_eq_true (by first | (with_reducible assumption) | assumption)
                                      have q25 : x8_5 < (a0.size : Int) := of_decide_eq_true (by first | (with_reducible assumption) | assumption)
                                      have hx25 := bt_at a0 x8_5
                                      replace p25 := eq_true p25
                                      replace q25 := eq_true q25
                                      have p27 : 0 ≤ (x8_5 : Int) := of_decide_eq_true (by first | (with_reducible assumption) | assumption)
                                      have q27 : x8_5 < (a0.size : Int) := of_decide_eq_true (by first | (with_reducible assumption) | assumption)
                                      have hx27 := bt_at a0 x8_5
                                      replace p27 := eq_true p27
                                      replace q27 := eq_true q27
                                      go_wp2
                                      go_roundg k5
                                      case measure => have := HJ1.out; have := HK2.out; have := HJ11.out; have := HJ18.out; have := HK5.out; omega
                                      case rel => exact ⟨(wrap64 (x8_5 + 1)), (by first | rfl | (simp; done) | (simp [*]; done)), H', ⟨by have := HJ1.out; have := HK2.out; have := HJ11.out; have := HJ18.out; have := HK5.out; omega⟩, ⟨by (with_reducible repeat (first | apply Kd.R_alloc | apply Kd.R_drewN | apply Kd.R_drew)); exact HO_3.out⟩, ⟨by repeat (first | (with_reducible first | exact HB.out | apply below_alloc | apply pw_below_drewN | apply below_drew1) | exact HB.out)⟩⟩
                                    · rw [if_neg c28] at H
                                      have c28b0 : ((bt a0 x8_5) == 9) = false := beq_eq_false_iff_ne.mpr c28
                                      have c28b1 : ((bt a0 x8_5) != 9) = true := bne_iff_ne.mpr c28
                                      obtain rfl := Option.some.inj H
                                      have p25 : 0 ≤ (x8_5 : Int) := of_decide_eq_true (by first | (with_reducible assumption) | assumption)
                                      have q25 : x8_5 < (a0.size : Int) := of_decide_eq_true (by first | (with_reducible assumption) | assumption)
                                      have hx25 := bt_at a0 x8_5
                                      replace p25 := eq_true p25
                                      replace q25 := eq_true q25
                                      have p27 : 0 ≤ (x8_5 : Int) := of_decide_eq_true (by first | (with_reducible assumption) | assumption)
                                      have q27 : x8_5 < (a0.size : Int) := of_decide_eq_true (by first | (with_reducible assumption) | assumption)
                                      have hx27 := bt_at a0 x8_5
                                      replace p27 := eq_true p27
                                      replace q27 := eq_true q27
                                      go_wp2
                                      go_ret
                                      exact ⟨by first | rfl | (simp [errW_none, errW_some] <;> rfl) | (simp [*, errW_none, errW_some] <;> rfl), by repeat (first | (with_reducible first | exact HB.out | apply below_alloc | apply pw_below_drewN | apply below_drew1) | exact HB.out)⟩
                                · rw [if_neg c24] at H
                                  exact absurd H (by simp)
                              · rw [if_neg c23] at H
                                exact absurd H (by simp)
                            · rw [if_neg c22] at H
                              have c22b0 : decide (x8_5 < x6_11) = false := decide_eq_false c22
                              clear c22
                              have H' := Aside0.mk H
                              clear H
                              go_wp2
                              go_loopg [9] k5 (fun kq v9 w' => ∃ (x9_6 : Int), v9 = .int .i64 x9_6 ∧ Aside0 (entrepotlaw03_WordsCover.l2 kq a0 t152 x5_2 x7_11 x9_6 = some r) ∧ Aside0 (kq ≤ k5) ∧ Aside0 (Kd.R k24 24 w' w.heap.size (fun _ => True) (.slice Ao13 t152.length co13) t152) ∧ Aside0 (Below w.heap.size w w'))
                              case atStart => exact ⟨(x6_11), (by first | rfl | (simp; done) | (simp [*]; done)), H', ⟨Nat.le_refl _⟩, ⟨by (with_reducible repeat (first | apply Kd.R_alloc | apply Kd.R_drewN | apply Kd.R_drew)); exact HO_3.out⟩, ⟨by repeat (first | (with_reducible first | exact HB.out | apply below_alloc | apply pw_below_drewN | apply below_drew1) | exact HB.out)⟩⟩
                              case round =>
                                clear H'
                                try clear c1
                                try clear p1
                                try clear q1
                                try clear hx1
                                try clear c2
                                try clear p2
                                try clear q2
                                try clear hx2
                                try clear c3
                                try clear c3b0
                                try clear c3b1
                                try clear c4
                                try clear c6
                                try clear p6
                                try clear c10
                                try clear c11
                                try clear c11b0
                                try clear c13
                                try clear c14
                                try clear c14b0
                                try clear c15
                                try clear c15b0
                                try clear p15
                                try clear q15
                                try clear hx15
                                try clear c16
                                try clear c16b0
                                try clear c17
                                try clear c17b0
                                try clear c18
                                try clear c18b0
                                try clear c20
                                try clear c20b0
                                try clear c21
                                try clear c22
                                try clear c22b0
                                try clear c23
                                try clear c23b0
                                try clear c24
                                try clear c24b0
                                try clear p25
                                try clear q25
                                try clear hx25
                                try clear c26
                                try clear c26b0
                                try clear c26b1
                                try clear p27
                                try clear q27
                                try clear hx27
                                try clear c28
                                try clear c28b0
                                try clear c28b1
                                try clear hx155_0
                                try clear hx155_1
                                try clear hx156_0
                                try clear hx156_1
                                try clear p1
                                try clear p15
                                try clear p155
                                try clear p156
                                try clear p2
                                try clear p25
                                try clear p27
                                try clear q1
                                try clear q15
                                try clear q155
                                try clear q156
                                try clear q25
                                try clear q27
                                obtain ⟨x9_6, rfl, HA, HK6, HO_3, HB⟩ := hrel
                                cases gk with
                                | zero => exact absurd HA.out (by simp [entrepotlaw03_WordsCover.l2])
                                | succ k6 =>
                                  have H := HA.out
                                  clear HA
                                  simp only [entrepotlaw03_WordsCover.l2] at H
                                  by_cases c29 : x9_6 < x7_11
                                  · rw [if_pos c29] at H
                                    have c29b0 : decide (x9_6 < x7_11) = true := decide_eq_true c29
                                    clear c29
                                    by_cases c30 : 0 ≤ x9_6
                                    · rw [if_pos c30] at H
                                      have c30b0 : decide (0 ≤ x9_6) = true := decide_eq_true c30
                                      clear c30
                                      by_cases c31 : x9_6 < (a0.size : Int)
                                      · rw [if_pos c31] at H
                                        have c31b0 : decide (x9_6 < (a0.size : Int)) = true := decide_eq_true c31
                                        clear c31
                                        by_cases c33 : (bt a0 x9_6) = 32
                                        · rw [if_pos c33] at H
                                          have c33b0 : ((bt a0 x9_6) == 32) = true := beq_iff_eq.mpr c33
                                          have c33b1 : ((bt a0 x9_6) != 32) = false := bne_eq_false_iff_eq.mpr c33
                                          clear c33
                                          obtain rfl := Option.some.inj H
                                          have p32 : 0 ≤ (x9_6 : Int) := of_decide_eq_true (by first | (with_reducible assumption) | assumption)
                                          have q32 : x9_6 < (a0.size : Int) := of_decide_eq_true (by first | (with_reducible assumption) | assumption)
                                          have hx32 := bt_at a0 x9_6
                                          replace p32 := eq_true p32
                                          replace q32 := eq_true q32
                                          go_wp2
                                          go_ret
                                          exact ⟨by first | rfl | (simp [errW_none, errW_some] <;> rfl) | (simp [*, errW_none, errW_some] <;> rfl), by repeat (first | (with_reducible first | exact HB.out | apply below_alloc | apply pw_below_drewN | apply below_drew1) | exact HB.out)⟩
                                        · rw [if_neg c33] at H
                                          have c33b0 : ((bt a0 x9_6) == 32) = false := beq_eq_false_iff_ne.mpr c33
                                          have c33b1 : ((bt a0 x9_6) != 32) = true := bne_iff_ne.mpr c33
                                          by_cases c35 : (bt a0 x9_6) = 9
                                          · rw [if_pos c35] at H
                                            have c35b0 : ((bt a0 x9_6) == 9) = true := beq_iff_eq.mpr c35
                                            have c35b1 : ((bt a0 x9_6) != 9) = false := bne_eq_false_iff_eq.mpr c35
                                            clear c35
                                            obtain rfl := Option.some.inj H
                                            have p32 : 0 ≤ (x9_6 : Int) := of_decide_eq_true (by first | (with_reducible assumption) | assumption)
                                            have q32 : x9_6 < (a0.size : Int) := of_decide_eq_true (by first | (with_reducible assumption) | assumption)
                                            have hx32 := bt_at a0 x9_6
                                            replace p32 := eq_true p32
                                            replace q32 := eq_true q32
                                            have p34 : 0 ≤ (x9_6 : Int) := of_decide_eq_true (by first | (with_reducible assumption) | assumption)
                                            have q34 : x9_6 < (a0.size : Int) := of_decide_eq_true (by first | (with_reducible assumption) | assumption)
                                            have hx34 := bt_at a0 x9_6
                                            replace p34 := eq_true p34
                                            replace q34 := eq_true q34
                                            go_wp2
                                            go_ret
                                            exact ⟨by first | rfl | (simp [errW_none, errW_some] <;> rfl) | (simp [*, errW_none, errW_some] <;> rfl), by repeat (first | (with_reducible first | exact HB.out | apply below_alloc | apply pw_below_drewN | apply below_drew1) | exact HB.out)⟩
                                          · rw [if_neg c35] at H
                                            have c35b0 : ((bt a0 x9_6) == 9) = false := beq_eq_false_iff_ne.mpr c35
                                            have c35b1 : ((bt a0 x9_6) != 9) = true := bne_iff_ne.mpr c35
                                            have H' := Aside0.mk H
                                            clear H
                                            have p32 : 0 ≤ (x9_6 : Int) := of_decide_eq_true (by first | (with_reducible assumption) | assumption)
                                            have q32 : x9_6 < (a0.size : Int) := of_decide_eq_true (by first | (with_reducible assumption) | assumption)
                                            have hx32 := bt_at a0 x9_6
                                            replace p32 := eq_true p32
                                            replace q32 := eq_true q32
                                            have p34 : 0 ≤ (x9_6 : Int) := of_decide_eq_true (by first | (with_reducible assumption) | assumption)
                                            have q34 : x9_6 < (a0.size : Int) := of_decide_eq_true (by first | (with_reducible assumption) | assumption)
                                            have hx34 := bt_at a0 x9_6
                                            replace p34 := eq_true p34
                                            replace q34 := eq_true q34
                                            go_wp2
                                            go_roundg k6
                                            case measure => have := HJ1.out; have := HK2.out; have := HJ11.out; have := HJ18.out; have := HK5.out; have := HK6.out; omega
                                            case rel => exact ⟨(wrap64 (x9_6 + 1)), (by first | rfl | (simp; done) | (simp [*]; done)), H', ⟨by have := HJ1.out; have := HK2.out; have := HJ11.out; have := HJ18.out; have := HK5.out; have := HK6.out; omega⟩, ⟨by (with_reducible repeat (first | apply Kd.R_alloc | apply Kd.R_drewN | apply Kd.R_drew)); exact HO_3.out⟩, ⟨by repeat (first | (with_reducible first | exact HB.out | apply below_alloc | apply pw_below_drewN | apply below_drew1) | exact HB.out)⟩⟩
                                      · rw [if_neg c31] at H
                                        exact absurd H (by simp)
                                    · rw [if_neg c30] at H
                                      exact absurd H (by simp)
                                  · rw [if_neg c29] at H
                                    have c29b0 : decide (x9_6 < x7_11) = false := decide_eq_false c29
                                    clear c29
                                    have H' := Aside0.mk H
                                    clear H
                                    go_wp2
                                    go_roundg k6
                                    case measure => have := HJ1.out; have := HK2.out; have := HJ11.out; have := HJ18.out; have := HK5.out; have := HK6.out; omega
                                    case rel => exact ⟨(x7_11), (wrap64 (x5_2 + 1)), (by first | rfl | (simp; done) | (simp [*]; done)), (by first | rfl | (simp; done) | (simp [*]; done)), H', ⟨by have := HJ1.out; have := HK2.out; have := HJ11.out; have := HJ18.out; have := HK5.out; have := HK6.out; omega⟩, ⟨by (with_reducible repeat (first | apply Kd.R_alloc | apply Kd.R_drewN | apply Kd.R_drew)); exact HO_3.out⟩, ⟨by repeat (first | (with_reducible first | exact HB.out | apply below_alloc | apply pw_below_drewN | apply below_drew1) | exact HB.out)⟩⟩
            · rw [if_neg c11] at H
              have c11b0 : decide (x5_2 ≤ (t152.length : Int)) = false := decide_eq_false c11
              clear c11
              obtain rfl := Option.some.inj H
              obtain ⟨Ao36, co36, eo36⟩ := Kd.R_slice HO_3.out
              subst eo36
              go_wp2
              go_ret
              exact ⟨by first | rfl | (simp [errW_none, errW_some] <;> rfl) | (simp [*, errW_none, errW_some] <;> rfl), by repeat (first | (with_reducible first | exact HB.out | apply below_alloc | apply pw_below_drewN | apply below_drew1) | exact HB.out)⟩

/-- THE ONE PURE STATEMENT of entrepotlaw03_WordsCover: yours. -/
def entrepotlaw03_WordsCover.Pure : Prop := ∀ (a0 : ByteArray), a0.size ≤ 140737488351232 → ∃ k, entrepotlaw03_WordsCover.f k a0 = some true
theorem entrepotlaw03_WordsCover.walk (P : entrepotlaw03_WordsCover.Pure) (a0 : ByteArray) (w : World) (w0 : a0.size ≤ 140737488351232) :
    Calls Tryd.prog 4 #[.string a0] w fun e w' => e = .returned (.bool true) ∧ Below w.heap.size w w' := by
  obtain ⟨k, h⟩ := P a0 w0
  refine (entrepotlaw03_WordsCover.calls k a0 true w h).mono ?_
  rintro e w' ⟨rfl, hd⟩
  exact ⟨rfl, hd⟩

end Go.Proofs.YtbbkchifbinioaaDoor.PAll
