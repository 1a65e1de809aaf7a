-- Written by a program out of the translation, for several roots at once (set All). Not trusted: Lean checks it.
import Derived.Test.YtbcahalbjegjgaaDoorPAllx0
import Derived.Test.YtbcahalbjegjgaaDoorPAllx1
import Derived.Test.YtbcahalbjegjgaaDoorGiven
namespace Go.Proofs.YtbcahalbjegjgaaDoor.PAll
open Go.RowKit Go.Proofs.YtbcahalbjegjgaaDoorW.PrintWords Go.Proofs.YtbcahalbjegjgaaDoorW.PrintLast Go.Proofs.YtbcahalbjegjgaaDoorW.PrintMore
attribute [local go_sem] max2_int min2_int max_two min_two max_three min_three max_four min_four   -- for this text's walks alone
set_option linter.unusedVariables false
set_option linter.unusedSimpArgs false

/-! ### entrepotref21_GetUint: function 13 -/
mutual
def entrepotref21_GetUint.j0 : Nat → ByteArray → Int → Bool → Option (Int × Int × Int)
  | 0, _, _, _ => none
  | k + 1, x0, x1, x18 => if x18 = true then (some (0, 0, 211)) else (entrepotref21_GetUint.l0 k x0 x1 0 1 0)
def entrepotref21_GetUint.l0 : Nat → ByteArray → Int → Int → Int → Int → Option (Int × Int × Int)
  | 0, _, _, _, _, _ => none
  | k + 1, x0, x1, x7, x8, x9 => if x9 < 9 then (if (wrap64 (x1 + x9)) = (x0.size : Int) then (some (0, 0, 211)) else (if 0 ≤ (wrap64 (x1 + x9)) then (if (wrap64 (x1 + x9)) < (x0.size : Int) then (if (wrap64 (bt x0 (wrap64 (x1 + x9)))) ≥ 128 then (entrepotref21_GetUint.l0 k x0 x1 (wrap64 (x7 + (wrap64 ((wrap64 ((wrap64 (bt x0 (wrap64 (x1 + x9)))) - 128)) * x8)))) (wrap64 (x8 * 128)) (wrap64 (x9 + 1))) else (if (wrap64 (bt x0 (wrap64 (x1 + x9)))) = 0 then (if x9 > 0 then (some (0, 0, 212)) else (some (wrap64 (x7 + (wrap64 ((wrap64 (bt x0 (wrap64 (x1 + x9)))) * x8))), wrap64 ((wrap64 (x1 + x9)) + 1), 0))) else (some (wrap64 (x7 + (wrap64 ((wrap64 (bt x0 (wrap64 (x1 + x9)))) * x8))), wrap64 ((wrap64 (x1 + x9)) + 1), 0)))) else (none)) else (none))) else (some (0, 0, 212))
end
def entrepotref21_GetUint.f (k : Nat) (a0 : ByteArray) (a1 : Int) : Option (Int × Int × Int) := if a1 < 0 then (entrepotref21_GetUint.j0 k a0 a1 true) else (entrepotref21_GetUint.j0 k a0 a1 (decide (a1 > (a0.size : Int))))
theorem entrepotref21_GetUint.mono_l : ∀ k, (∀ y0 y1 y2, LeO (entrepotref21_GetUint.j0 k y0 y1 y2) (entrepotref21_GetUint.j0 (k + 1) y0 y1 y2)) ∧ (∀ y0 y1 y2 y3 y4, LeO (entrepotref21_GetUint.l0 k y0 y1 y2 y3 y4) (entrepotref21_GetUint.l0 (k + 1) y0 y1 y2 y3 y4))
  | 0 => ⟨fun _ _ _ r h => by simp [entrepotref21_GetUint.j0] at h, fun _ _ _ _ _ r h => by simp [entrepotref21_GetUint.l0] at h⟩
  | k + 1 => by
    obtain ⟨ih0, ih1⟩ := entrepotref21_GetUint.mono_l k
    refine ⟨?_, ?_⟩
    · intro y0 y1 y2
      unfold entrepotref21_GetUint.j0
      repeat' first
      | (with_reducible exact ih0 _ _ _)
      | (with_reducible exact ih1 _ _ _ _ _)
      | (with_reducible exact LeO.refl _)
      | (with_reducible exact LeO.none _)
      | (with_reducible refine LeO.ite ?_ ?_)
      | (with_reducible refine LeO.bind ?_ (fun _ => ?_))
      | exact ih0 _ _ _
      | exact ih1 _ _ _ _ _
      | exact LeO.none _
      | refine LeO.ite ?_ ?_
      | refine LeO.bind ?_ (fun _ => ?_)
    · intro y0 y1 y2 y3 y4
      unfold entrepotref21_GetUint.l0
      repeat' first
      | (with_reducible exact ih0 _ _ _)
      | (with_reducible exact ih1 _ _ _ _ _)
      | (with_reducible exact LeO.refl _)
      | (with_reducible exact LeO.none _)
      | (with_reducible refine LeO.ite ?_ ?_)
      | (with_reducible refine LeO.bind ?_ (fun _ => ?_))
      | exact ih0 _ _ _
      | exact ih1 _ _ _ _ _
      | exact LeO.none _
      | refine LeO.ite ?_ ?_
      | refine LeO.bind ?_ (fun _ => ?_)
theorem entrepotref21_GetUint.mono : ∀ a0 a1 k, LeO (entrepotref21_GetUint.f k a0 a1) (entrepotref21_GetUint.f (k + 1) a0 a1) := by
  intro a0 a1 k
  obtain ⟨ih0, ih1⟩ := entrepotref21_GetUint.mono_l k
  unfold entrepotref21_GetUint.f
  repeat' first
      | (with_reducible exact ih0 _ _ _)
      | (with_reducible exact ih1 _ _ _ _ _)
      | (with_reducible exact LeO.refl _)
      | (with_reducible exact LeO.none _)
      | (with_reducible refine LeO.ite ?_ ?_)
      | (with_reducible refine LeO.bind ?_ (fun _ => ?_))
      | exact ih0 _ _ _
      | exact ih1 _ _ _ _ _
      | exact LeO.none _
      | refine LeO.ite ?_ ?_
      | refine LeO.bind ?_ (fun _ => ?_)
set_option maxHeartbeats 8000000 in
set_option maxRecDepth 100000 in
theorem entrepotref21_GetUint.calls (k : Nat) (a0 : ByteArray) (a1 : Int) (r1 : Int) (r2 : Int) (r3 : Int) (w : World) (h : entrepotref21_GetUint.f k a0 a1 = some (r1, r2, r3)) :
    Calls Tryd.prog 13 #[.string a0, .int .i64 a1] w fun e w' => e = .returned (.tuple #[.int .i64 r1, .int .i64 r2, .int .i64 r3]) ∧ Drawn0 w w' := by
  have H : (if a1 < 0 then (entrepotref21_GetUint.j0 k a0 a1 true) else (entrepotref21_GetUint.j0 k a0 a1 (decide (a1 > (a0.size : Int))))) = some (r1, r2, r3) := h
  clear h
  have HC3 := Aside0.mk H
  clear H
  go_enter Tryd.func13, Tryd.ntmps13
  go_upto_region 1 with (fail)
  go_cut [18] (fun v18 wc => ∃ (kq : Nat) (x18_2 : Bool), v18 = .bool x18_2 ∧ Aside0 (entrepotref21_GetUint.j0 kq a0 a1 x18_2 = some (r1, r2, r3)) ∧ Aside0 (kq ≤ k) ∧ Drawn0 w wc)
  case first =>
    have H := HC3.out
    clear HC3
    by_cases c4 : a1 < 0
    · rw [if_pos c4] at H
      have c4b0 : decide (a1 < 0) = true := decide_eq_true c4
      clear c4
      (first | rw [c4b0] | (simp only [i64_w, i32_w]; rw [c4b0]) | skip)
      have H' := Aside0.mk H
      clear H
      go_wp2
      go_meet
      case rel => exact ⟨_, (true), (by first | rfl | (simp; done) | (simp [*]; done)), H', ⟨by first | omega | exact Nat.le_refl _⟩, by repeat (first | exact Drawn0.refl _ | apply Drawn0.step)⟩
    · rw [if_neg c4] at H
      have c4b0 : decide (a1 < 0) = false := decide_eq_false c4
      clear c4
      (first | rw [c4b0] | (simp only [i64_w, i32_w]; rw [c4b0]) | skip)
      have H' := Aside0.mk H
      clear H
      go_wp2
      go_meet
      case rel => exact ⟨_, (decide (a1 > (a0.size : Int))), (by first | rfl | (simp; done) | (simp [*]; done)), H', ⟨by first | omega | exact Nat.le_refl _⟩, by repeat (first | exact Drawn0.refl _ | apply Drawn0.step)⟩
  case rest =>
    clear HC3
    try clear c1
    try clear p2
    try clear c4
    try clear c4b0
    obtain ⟨kq, x18_2, rfl, HA, HJ2, ⟨mc2, rfl⟩⟩ := hcut
    cases kq with
    | zero => exact absurd HA.out (by simp [entrepotref21_GetUint.j0])
    | succ kj2 =>
      have H := HA.out
      clear HA
      simp only [entrepotref21_GetUint.j0] at H
      by_cases c5 : x18_2 = true
      · subst c5
        have H1 : (some (0, 0, 211)) = some (r1, r2, r3) := by rw [if_pos rfl] at H; exact H
        clear H
        have H := H1
        clear H1
        simp only [Option.some.injEq, Prod.mk.injEq] at H
        obtain ⟨rfl, rfl, rfl⟩ := H
        go_wp2
        go_ret3
        exact ⟨by first | rfl | (simp; done) | (simp [*]; done), by repeat (first | exact Drawn0.refl _ | apply Drawn0.step)⟩
      · replace c5 := Bool.eq_false_iff.mpr c5
        subst c5
        have H1 : (entrepotref21_GetUint.l0 kj2 a0 a1 0 1 0) = some (r1, r2, r3) := by rw [if_neg (show ¬ (false = true) by decide)] at H; exact H
        clear H
        have H := H1
        clear H1
        have H' := Aside0.mk H
        clear H
        go_wp2
        go_loopg [7, 8, 9] kj2 (fun kq v7 v8 v9 w' => ∃ (x7_2 : Int) (x8_2 : Int) (x9_2 : Int), v7 = .int .i64 x7_2 ∧ v8 = .int .i64 x8_2 ∧ v9 = .int .i64 x9_2 ∧ Aside0 (entrepotref21_GetUint.l0 kq a0 a1 x7_2 x8_2 x9_2 = some (r1, r2, r3)) ∧ Aside0 (kq ≤ kj2) ∧ Drawn0 w w')
        case atStart => exact ⟨(0), (1), (0), (by first | rfl | (simp; done) | (simp [*]; done)), (by first | rfl | (simp; done) | (simp [*]; done)), (by first | rfl | (simp; done) | (simp [*]; done)), H', ⟨Nat.le_refl _⟩, by repeat (first | exact Drawn0.refl _ | apply Drawn0.step)⟩
        case round =>
          clear H'
          try clear c1
          try clear c2
          try clear p2
          try clear c4
          try clear c4b0
          try clear c5
          try clear p2
          obtain ⟨x7_2, x8_2, x9_2, rfl, rfl, rfl, HA, HK2, ⟨m2, rfl⟩⟩ := hrel
          cases gk with
          | zero => exact absurd HA.out (by simp [entrepotref21_GetUint.l0])
          | succ k2 =>
            have H := HA.out
            clear HA
            simp only [entrepotref21_GetUint.l0] at H
            by_cases c6 : x9_2 < 9
            · rw [if_pos c6] at H
              have c6b0 : decide (x9_2 < 9) = true := decide_eq_true c6
              clear c6
              by_cases c7 : (wrap64 (a1 + x9_2)) = (a0.size : Int)
              · rw [if_pos c7] at H
                have c7b0 : ((wrap64 (a1 + x9_2)) == (a0.size : Int)) = true := beq_iff_eq.mpr c7
                have c7b1 : ((wrap64 (a1 + x9_2)) != (a0.size : Int)) = false := bne_eq_false_iff_eq.mpr c7
                clear c7
                simp only [Option.some.injEq, Prod.mk.injEq] at H
                obtain ⟨rfl, rfl, rfl⟩ := H
                go_wp2
                go_ret3
                exact ⟨by first | rfl | (simp; done) | (simp [*]; done), by repeat (first | exact Drawn0.refl _ | apply Drawn0.step)⟩
              · rw [if_neg c7] at H
                have c7b0 : ((wrap64 (a1 + x9_2)) == (a0.size : Int)) = false := beq_eq_false_iff_ne.mpr c7
                have c7b1 : ((wrap64 (a1 + x9_2)) != (a0.size : Int)) = true := bne_iff_ne.mpr c7
                obtain ⟨ji8, hji8⟩ : ∃ j_ : Int, (wrap64 (a1 + x9_2)) = j_ := ⟨_, rfl⟩
                replace H : (if 0 ≤ (ji8) then (if (ji8) < (a0.size : Int) then (if (wrap64 (bt a0 (ji8))) ≥ 128 then (entrepotref21_GetUint.l0 k2 a0 a1 (wrap64 (x7_2 + (wrap64 ((wrap64 ((wrap64 (bt a0 (ji8))) - 128)) * x8_2)))) (wrap64 (x8_2 * 128)) (wrap64 (x9_2 + 1))) else (if (wrap64 (bt a0 (ji8))) = 0 then (if x9_2 > 0 then (some (0, 0, 212)) else (some (wrap64 (x7_2 + (wrap64 ((wrap64 (bt a0 (ji8))) * x8_2))), wrap64 ((ji8) + 1), 0))) else (some (wrap64 (x7_2 + (wrap64 ((wrap64 (bt a0 (ji8))) * x8_2))), wrap64 ((ji8) + 1), 0)))) else (none)) else (none)) = some (r1, r2, r3) := by first | (rw [hji8] at H; exact H) | (simp only [hji8] at H ⊢; exact H)
                (try rw [hji8] at c7b0)
                (try rw [hji8] at c7b1)
                have hji8w : (IntKind.i64.wrap (a1 + x9_2)) = ji8 := (i64_w _).trans hji8
                by_cases c9 : 0 ≤ (ji8)
                · rw [if_pos c9] at H
                  have c9b0 : decide (0 ≤ (ji8)) = true := decide_eq_true c9
                  clear c9
                  by_cases c10 : (ji8) < (a0.size : Int)
                  · rw [if_pos c10] at H
                    have c10b0 : decide ((ji8) < (a0.size : Int)) = true := decide_eq_true c10
                    clear c10
                    by_cases c12 : (wrap64 (bt a0 (ji8))) ≥ 128
                    · rw [if_pos c12] at H
                      have c12b0 : decide (128 ≤ (wrap64 (bt a0 (ji8)))) = true := decide_eq_true c12
                      clear c12
                      have H' := Aside0.mk H
                      clear H
                      have p11 : 0 ≤ ((ji8) : Int) := of_decide_eq_true (by first | (with_reducible assumption) | assumption)
                      have q11 : (ji8) < (a0.size : Int) := of_decide_eq_true (by first | (with_reducible assumption) | assumption)
                      have hx11 := bt_at a0 (ji8)
                      replace p11 := eq_true p11
                      replace q11 := eq_true q11
                      go_wp2
                      go_roundg k2
                      case measure => have := HJ2.out; have := HK2.out; omega
                      case rel => exact ⟨(wrap64 (x7_2 + (wrap64 ((wrap64 ((wrap64 (bt a0 (ji8))) - 128)) * x8_2)))), (wrap64 (x8_2 * 128)), (wrap64 (x9_2 + 1)), (by first | rfl | (simp; done) | (simp only [← hji8] <;> (first | rfl | simp)) | (simp [*]; done)), (by first | rfl | (simp; done) | (simp [*]; done)), (by first | rfl | (simp; done) | (simp [*]; done)), H', ⟨by have := HJ2.out; have := HK2.out; omega⟩, by repeat (first | exact Drawn0.refl _ | apply Drawn0.step)⟩
                    · rw [if_neg c12] at H
                      have c12b0 : decide (128 ≤ (wrap64 (bt a0 (ji8)))) = false := decide_eq_false c12
                      clear c12
                      by_cases c13 : (wrap64 (bt a0 (ji8))) = 0
                      · rw [if_pos c13] at H
                        have c13b0 : ((wrap64 (bt a0 (ji8))) == 0) = true := beq_iff_eq.mpr c13
                        have c13b1 : ((wrap64 (bt a0 (ji8))) != 0) = false := bne_eq_false_iff_eq.mpr c13
                        clear c13
                        by_cases c14 : x9_2 > 0
                        · rw [if_pos c14] at H
                          have c14b0 : decide (0 < x9_2) = true := decide_eq_true c14
                          clear c14
                          simp only [Option.some.injEq, Prod.mk.injEq] at H
                          obtain ⟨rfl, rfl, rfl⟩ := H
                          have p11 : 0 ≤ ((ji8) : Int) := of_decide_eq_true (by first | (with_reducible assumption) | assumption)
                          have q11 : (ji8) < (a0.size : Int) := of_decide_eq_true (by first | (with_reducible assumption) | assumption)
                          have hx11 := bt_at a0 (ji8)
                          replace p11 := eq_true p11
                          replace q11 := eq_true q11
                          go_wp2
                          go_ret3
                          exact ⟨by first | rfl | (simp; done) | (simp only [← hji8] <;> (first | rfl | simp)) | (simp [*]; done), by repeat (first | exact Drawn0.refl _ | apply Drawn0.step)⟩
                        · rw [if_neg c14] at H
                          have c14b0 : decide (0 < x9_2) = false := decide_eq_false c14
                          clear c14
                          simp only [Option.some.injEq, Prod.mk.injEq] at H
                          obtain ⟨rfl, rfl, rfl⟩ := H
                          have p11 : 0 ≤ ((ji8) : Int) := of_decide_eq_true (by first | (with_reducible assumption) | assumption)
                          have q11 : (ji8) < (a0.size : Int) := of_decide_eq_true (by first | (with_reducible assumption) | assumption)
                          have hx11 := bt_at a0 (ji8)
                          replace p11 := eq_true p11
                          replace q11 := eq_true q11
                          go_wp2
                          go_ret3
                          exact ⟨by first | rfl | (simp; done) | (simp only [← hji8] <;> (first | rfl | simp)) | (simp [*]; done), by repeat (first | exact Drawn0.refl _ | apply Drawn0.step)⟩
                      · rw [if_neg c13] at H
                        have c13b0 : ((wrap64 (bt a0 (ji8))) == 0) = false := beq_eq_false_iff_ne.mpr c13
                        have c13b1 : ((wrap64 (bt a0 (ji8))) != 0) = true := bne_iff_ne.mpr c13
                        simp only [Option.some.injEq, Prod.mk.injEq] at H
                        obtain ⟨rfl, rfl, rfl⟩ := H
                        have p11 : 0 ≤ ((ji8) : Int) := of_decide_eq_true (by first | (with_reducible assumption) | assumption)
                        have q11 : (ji8) < (a0.size : Int) := of_decide_eq_true (by first | (with_reducible assumption) | assumption)
                        have hx11 := bt_at a0 (ji8)
                        replace p11 := eq_true p11
                        replace q11 := eq_true q11
                        go_wp2
                        go_ret3
                        exact ⟨by first | rfl | (simp; done) | (simp only [← hji8] <;> (first | rfl | simp)) | (simp [*]; done), by repeat (first | exact Drawn0.refl _ | apply Drawn0.step)⟩
                  · rw [if_neg c10] at H
                    exact absurd H (by simp)
                · rw [if_neg c9] at H
                  exact absurd H (by simp)
            · rw [if_neg c6] at H
              have c6b0 : decide (x9_2 < 9) = false := decide_eq_false c6
              clear c6
              simp only [Option.some.injEq, Prod.mk.injEq] at H
              obtain ⟨rfl, rfl, rfl⟩ := H
              go_wp2
              go_ret3
              exact ⟨by first | rfl | (simp; done) | (simp [*]; done), by repeat (first | exact Drawn0.refl _ | apply Drawn0.step)⟩

/-! ### pack_GetInt: function 14 -/
def pack_GetInt.f (a0 : ByteArray) (a1 : Int) : Option (Int × Int × Int) := (pack_GetUint.f a0 a1).bind fun bt132 => (some (Go.bits .xor .i64 (bt132.1 / 2) (wrap64 (-(Go.bits .and .i64 bt132.1 1))), bt132.2.1, bt132.2.2))
set_option maxHeartbeats 8000000 in
set_option maxRecDepth 100000 in
theorem pack_GetInt.calls (a0 : ByteArray) (a1 : Int) (r1 : Int) (r2 : Int) (r3 : Int) (w : World) (h : pack_GetInt.f a0 a1 = some (r1, r2, r3)) :
    Calls Tryd.prog 14 #[.string a0, .int .i64 a1] w fun e w' => e = .returned (.tuple #[.int .i64 r1, .int .i64 r2, .int .i64 r3]) ∧ Below w.heap.size w w' := by
  have HB := Aside0.mk (Below.refl w.heap.size w)
  have H : ((pack_GetUint.f a0 a1).bind fun bt132 => (some (Go.bits .xor .i64 (bt132.1 / 2) (wrap64 (-(Go.bits .and .i64 bt132.1 1))), bt132.2.1, bt132.2.2))) = some (r1, r2, r3) := h
  clear h
  replace H := Option.bind_eq_some_iff.mp H
  obtain ⟨⟨t132, t133, t134⟩, A30, H⟩ := H
  replace H : (some (Go.bits .xor .i64 (t132 / 2) (wrap64 (-(Go.bits .and .i64 t132 1))), t133, t134)) = some (r1, r2, r3) := H
  have A3 := Aside0.mk A30
  clear A30
  simp only [Option.some.injEq, Prod.mk.injEq] at H
  obtain ⟨rfl, rfl, rfl⟩ := H
  go_enter Tryd.func14, Tryd.ntmps14
  go_wp2_with (first | ((with_reducible refine gate_callee (f := 11) rfl ?_); refine goesL_ (some 13) rfl rfl Tryd.func11 (by kernel_rfl) rfl #[.string a0, .int .i64 a1] rfl (by (try simp only [List.map_toArray, List.map_cons, List.map_nil]); first | done | rfl | (simp only [List.length_drop, List.length_take]; rfl)) ?_; (with_reducible refine (pack_GetUint.calls a0 a1 t132 t133 t134 _ A3.out).mono ?_); rintro e w4 ⟨rfl, hb⟩; refine ⟨_, rfl, ?_⟩; have n0_ := Aside0.mk (below_step (by repeat (first | (with_reducible first | exact HB.out | apply below_alloc | apply pw_below_drewN | apply below_drew1) | exact HB.out)) hb); clear HB; have HB := n0_; clear n0_; (try clear hb); (try clear hb2); (try clear hk); (try clear hi)))
  go_ret3
  exact ⟨by first | rfl | (simp [errW_none, errW_some] <;> rfl) | (simp [*, errW_none, errW_some] <;> rfl), by repeat (first | (with_reducible first | exact HB.out | apply below_alloc | apply pw_below_drewN | apply below_drew1) | exact HB.out)⟩

/-! ### entrepotref21_GetInt: function 15 -/
def entrepotref21_GetInt.f (k : Nat) (a0 : ByteArray) (a1 : Int) : Option (Int × Int × Int) := (entrepotref21_GetUint.f k a0 a1).bind fun bt135 => (if bt135.2.2 = 0 then (if (Int.tmod bt135.1 2) = 1 then (some (wrap64 ((-1) - (wrap64 (Int.tdiv bt135.1 2))), bt135.2.1, 0)) else (some (wrap64 (Int.tdiv bt135.1 2), bt135.2.1, 0))) else (some (0, 0, bt135.2.2)))
theorem entrepotref21_GetInt.mono : ∀ a0 a1 k, LeO (entrepotref21_GetInt.f k a0 a1) (entrepotref21_GetInt.f (k + 1) a0 a1) := by
  intro a0 a1 k
  unfold entrepotref21_GetInt.f
  repeat' first
      | (with_reducible exact entrepotref21_GetUint.mono _ _ _)
      | (with_reducible exact LeO.refl _)
      | (with_reducible exact LeO.none _)
      | (with_reducible refine LeO.ite ?_ ?_)
      | (with_reducible refine LeO.bind ?_ (fun _ => ?_))
      | exact entrepotref21_GetUint.mono _ _ _
      | exact LeO.none _
      | refine LeO.ite ?_ ?_
      | refine LeO.bind ?_ (fun _ => ?_)
set_option maxHeartbeats 8000000 in
set_option maxRecDepth 100000 in
theorem entrepotref21_GetInt.calls (k : Nat) (a0 : ByteArray) (a1 : Int) (r1 : Int) (r2 : Int) (r3 : Int) (w : World) (h : entrepotref21_GetInt.f k a0 a1 = some (r1, r2, r3)) :
    Calls Tryd.prog 15 #[.string a0, .int .i64 a1] w fun e w' => e = .returned (.tuple #[.int .i64 r1, .int .i64 r2, .int .i64 r3]) ∧ Drawn0 w w' := by
  have H : ((entrepotref21_GetUint.f k a0 a1).bind fun bt135 => (if bt135.2.2 = 0 then (if (Int.tmod bt135.1 2) = 1 then (some (wrap64 ((-1) - (wrap64 (Int.tdiv bt135.1 2))), bt135.2.1, 0)) else (some (wrap64 (Int.tdiv bt135.1 2), bt135.2.1, 0))) else (some (0, 0, bt135.2.2)))) = some (r1, r2, r3) := h
  clear h
  replace H := Option.bind_eq_some_iff.mp H
  obtain ⟨⟨t135, t136, t137⟩, A30, H⟩ := H
  replace H : (if t137 = 0 then (if (Int.tmod t135 2) = 1 then (some (wrap64 ((-1) - (wrap64 (Int.tdiv t135 2))), t136, 0)) else (some (wrap64 (Int.tdiv t135 2), t136, 0))) else (some (0, 0, t137))) = some (r1, r2, r3) := H
  have A3 := Aside0.mk A30
  clear A30
  by_cases c4 : t137 = 0
  · rw [if_pos c4] at H
    have c4b0 : (t137 == 0) = true := beq_iff_eq.mpr c4
    have c4b1 : (t137 != 0) = false := bne_eq_false_iff_eq.mpr c4
    clear c4
    by_cases c5 : (Int.tmod t135 2) = 1
    · rw [if_pos c5] at H
      have c5b0 : ((Int.tmod t135 2) == 1) = true := beq_iff_eq.mpr c5
      have c5b1 : ((Int.tmod t135 2) != 1) = false := bne_eq_false_iff_eq.mpr c5
      clear c5
      simp only [Option.some.injEq, Prod.mk.injEq] at H
      obtain ⟨rfl, rfl, rfl⟩ := H
      go_enter Tryd.func15, Tryd.ntmps15
      go_wp2_with (first | ((with_reducible refine gate_callee (f := 13) rfl ?_); refine goesL_ (some 13) rfl rfl Tryd.func13 (by kernel_rfl) rfl #[.string a0, .int .i64 a1] rfl (by (try simp only [List.map_toArray, List.map_cons, List.map_nil]); first | done | rfl | (simp only [List.length_drop, List.length_take]; rfl)) ?_; (with_reducible refine (entrepotref21_GetUint.calls k a0 a1 t135 t136 t137 _ A3.out).mono ?_); rintro e w' ⟨rfl, ⟨nd, rfl⟩⟩; refine ⟨_, rfl, ?_⟩))
      go_ret3
      exact ⟨by first | rfl | (simp; done) | (simp [*]; done), by repeat (first | exact Drawn0.refl _ | apply Drawn0.step)⟩
    · rw [if_neg c5] at H
      have c5b0 : ((Int.tmod t135 2) == 1) = false := beq_eq_false_iff_ne.mpr c5
      have c5b1 : ((Int.tmod t135 2) != 1) = true := bne_iff_ne.mpr c5
      simp only [Option.some.injEq, Prod.mk.injEq] at H
      obtain ⟨rfl, rfl, rfl⟩ := H
      go_enter Tryd.func15, Tryd.ntmps15
      go_wp2_with (first | ((with_reducible refine gate_callee (f := 13) rfl ?_); refine goesL_ (some 13) rfl rfl Tryd.func13 (by kernel_rfl) rfl #[.string a0, .int .i64 a1] rfl (by (try simp only [List.map_toArray, List.map_cons, List.map_nil]); first | done | rfl | (simp only [List.length_drop, List.length_take]; rfl)) ?_; (with_reducible refine (entrepotref21_GetUint.calls k a0 a1 t135 t136 t137 _ A3.out).mono ?_); rintro e w' ⟨rfl, ⟨nd, rfl⟩⟩; refine ⟨_, rfl, ?_⟩))
      go_ret3
      exact ⟨by first | rfl | (simp; done) | (simp [*]; done), by repeat (first | exact Drawn0.refl _ | apply Drawn0.step)⟩
  · rw [if_neg c4] at H
    have c4b0 : (t137 == 0) = false := beq_eq_false_iff_ne.mpr c4
    have c4b1 : (t137 != 0) = true := bne_iff_ne.mpr c4
    simp only [Option.some.injEq, Prod.mk.injEq] at H
    obtain ⟨rfl, rfl, rfl⟩ := H
    go_enter Tryd.func15, Tryd.ntmps15
    go_wp2_with (first | ((with_reducible refine gate_callee (f := 13) rfl ?_); refine goesL_ (some 13) rfl rfl Tryd.func13 (by kernel_rfl) rfl #[.string a0, .int .i64 a1] rfl (by (try simp only [List.map_toArray, List.map_cons, List.map_nil]); first | done | rfl | (simp only [List.length_drop, List.length_take]; rfl)) ?_; (with_reducible refine (entrepotref21_GetUint.calls k a0 a1 t135 t136 t137 _ A3.out).mono ?_); rintro e w' ⟨rfl, ⟨nd, rfl⟩⟩; refine ⟨_, rfl, ?_⟩))
    go_ret3
    exact ⟨by first | rfl | (simp; done) | (simp [*]; done), by repeat (first | exact Drawn0.refl _ | apply Drawn0.step)⟩

/-! ### entrepotref21_PutUint: function 16 -/
def entrepotref21_PutUint.l0 : Nat → Int → List Int → Option (ByteArray)
  | 0, _, _ => none
  | k + 1, x0, x3 => if x0 ≥ 128 then (if x3.length < 140737488355328 then (entrepotref21_PutUint.l0 k (wrap64 (Int.tdiv x0 128)) (x3 ++ [(wrap64 ((Int.tmod x0 128) + 128)) % 256])) else (none)) else (if x3.length < 140737488355328 then (some (strOfNums (x3 ++ [(x0) % 256]))) else (none))
def entrepotref21_PutUint.f (k : Nat) (a0 : Int) : Option (ByteArray) := if a0 < 0 then (some (⟨#[]⟩ : ByteArray)) else (entrepotref21_PutUint.l0 k a0 (([] : List Int)))
theorem entrepotref21_PutUint.mono_l : ∀ k, (∀ y0 y1, LeO (entrepotref21_PutUint.l0 k y0 y1) (entrepotref21_PutUint.l0 (k + 1) y0 y1))
  | 0 => fun _ _ r h => by simp [entrepotref21_PutUint.l0] at h
  | k + 1 => by
    have ih0 := entrepotref21_PutUint.mono_l k
    · intro y0 y1
      unfold entrepotref21_PutUint.l0
      repeat' first
      | (with_reducible exact ih0 _ _)
      | (with_reducible exact LeO.refl _)
      | (with_reducible exact LeO.none _)
      | (with_reducible refine LeO.ite ?_ ?_)
      | (with_reducible refine LeO.bind ?_ (fun _ => ?_))
      | exact ih0 _ _
      | exact LeO.none _
      | refine LeO.ite ?_ ?_
      | refine LeO.bind ?_ (fun _ => ?_)
theorem entrepotref21_PutUint.mono : ∀ a0 k, LeO (entrepotref21_PutUint.f k a0) (entrepotref21_PutUint.f (k + 1) a0) := by
  intro a0 k
  have ih0 := entrepotref21_PutUint.mono_l k
  unfold entrepotref21_PutUint.f
  repeat' first
      | (with_reducible exact ih0 _ _)
      | (with_reducible exact LeO.refl _)
      | (with_reducible exact LeO.none _)
      | (with_reducible refine LeO.ite ?_ ?_)
      | (with_reducible refine LeO.bind ?_ (fun _ => ?_))
      | exact ih0 _ _
      | exact LeO.none _
      | refine LeO.ite ?_ ?_
      | refine LeO.bind ?_ (fun _ => ?_)
set_option maxHeartbeats 8000000 in
set_option maxRecDepth 100000 in
theorem entrepotref21_PutUint.calls (k : Nat) (a0 : Int) (r : ByteArray) (w : World) (h : entrepotref21_PutUint.f k a0 = some r) :
    Calls Tryd.prog 16 #[.int .i64 a0] w fun e w' => e = .returned (.string r) ∧ Below w.heap.size w w' := by
  have HB := Aside0.mk (Below.refl w.heap.size w)
  have H : (if a0 < 0 then (some (⟨#[]⟩ : ByteArray)) else (entrepotref21_PutUint.l0 k a0 (([] : List Int)))) = some r := h
  clear h
  by_cases c2 : a0 < 0
  · rw [if_pos c2] at H
    have c2b0 : decide (a0 < 0) = true := decide_eq_true c2
    clear c2
    obtain rfl := Option.some.inj H
    go_enter Tryd.func16, Tryd.ntmps16
    go_wp2
    go_ret
    exact ⟨by first | rfl | (simp [errW_none, errW_some] <;> rfl) | (simp [*, errW_none, errW_some] <;> rfl), by repeat (first | (with_reducible first | exact HB.out | apply below_alloc | apply pw_below_drewN | apply below_drew1) | exact HB.out)⟩
  · rw [if_neg c2] at H
    have c2b0 : decide (a0 < 0) = false := decide_eq_false c2
    clear c2
    obtain ⟨y138, hy138⟩ : ∃ y_ : List Int, y_ = (([] : List Int)) := ⟨_, rfl⟩
    replace H : (entrepotref21_PutUint.l0 k a0 y138) = some r := by first | (rw [hy138]; with_reducible exact H) | (have H2_ := (Option.bind_some _ _).symm.trans H; rw [hy138]; with_reducible exact H2_) | (have H2_ := (Option.bind_some _ _).symm.trans H; with_reducible exact H2_) | with_reducible exact H | (rw [hy138]; exact H) | exact H
    have Ny138 := Aside0.mk hy138
    clear hy138
    have H' := Aside0.mk H
    clear H
    go_enter Tryd.func16, Tryd.ntmps16
    go_wp2_with (first | ((with_reducible refine gate_dst (N := 6) rfl ?_); refine Kd.R_lit (Kd.int .u8) _ 5 ?hg (N := 6) ?hd (xs := ([] : List Int)) (inner := []) (ok := fun _ => True) (okp := fun _ => True) ?hr ?hp (fun _ hk => hk) trivial (Below.refl _ _) (Nat.le_refl _) (by simp) ?_; (case hd => rfl); (case hg => rfl); (case hr => first | (go_simp; done) | (go_simp; rfl)); (case hp => exact (Reps.none _ _)); intro v139 w3 ho4 hb hg_ hnew_; clear hg_ hnew_; (first | rw [← Ny138.out] at ho4 | (simp only [Int.reduceToNat] at ho4; rw [← Ny138.out] at ho4)); have n0_ := Aside0.mk (Kd.R_lower ho4 (below_size (by repeat (first | (with_reducible first | exact HB.out | apply below_alloc | apply pw_below_drewN | apply below_drew1) | exact HB.out)))); have n1_ := Aside0.mk (below_step (by repeat (first | (with_reducible first | exact HB.out | apply below_alloc | apply pw_below_drewN | apply below_drew1) | exact HB.out)) hb); clear HB; have HO140 := n0_; have HB := n1_; clear n0_ n1_; clear hb ho4))
    go_loopg [0, 3] k (fun kq v0 v3 w' => ∃ (x0_1 : Int) (x3_1 : List Int), v0 = .int .i64 x0_1 ∧ Aside0 (entrepotref21_PutUint.l0 kq x0_1 x3_1 = some r) ∧ Aside0 (kq ≤ k) ∧ Aside0 (Kd.R (Kd.int .u8) 5 w' w.heap.size (fun _ => True) v3 x3_1) ∧ Aside0 (Below w.heap.size w w'))
    case atStart => exact ⟨(a0), (y138), (by first | rfl | (simp; done) | (simp [*]; done)), H', ⟨Nat.le_refl _⟩, ⟨by (with_reducible repeat (first | apply Kd.R_alloc | apply Kd.R_drewN | apply Kd.R_drew)); exact HO140.out⟩, ⟨by repeat (first | (with_reducible first | exact HB.out | apply below_alloc | apply pw_below_drewN | apply below_drew1) | exact HB.out)⟩⟩
    case round =>
      clear H'
      try clear c1
      try clear c2
      try clear c2b0
      try clear p2
      obtain ⟨x0_1, x3_1, rfl, HA, HK1, HO_3, HB⟩ := hrel
      cases gk with
      | zero => exact absurd HA.out (by simp [entrepotref21_PutUint.l0])
      | succ k1 =>
        have H := HA.out
        clear HA
        simp only [entrepotref21_PutUint.l0] at H
        by_cases c5 : x0_1 ≥ 128
        · rw [if_pos c5] at H
          have c5b0 : decide (128 ≤ x0_1) = true := decide_eq_true c5
          clear c5
          by_cases c6 : x3_1.length < 140737488355328
          · rw [if_pos c6] at H
            have LMc6 := Aside0.mk c6
            clear c6
            obtain ⟨y141, hy141⟩ : ∃ y_ : List Int, y_ = (x3_1 ++ [(wrap64 ((Int.tmod x0_1 128) + 128)) % 256]) := ⟨_, rfl⟩
            replace H : (entrepotref21_PutUint.l0 k1 (wrap64 (Int.tdiv x0_1 128)) y141) = some r := by first | (rw [hy141]; with_reducible exact H) | (have H2_ := (Option.bind_some _ _).symm.trans H; rw [hy141]; with_reducible exact H2_) | (have H2_ := (Option.bind_some _ _).symm.trans H; with_reducible exact H2_) | with_reducible exact H | (rw [hy141]; exact H) | exact H
            have Ny141 := Aside0.mk hy141
            clear hy141
            have H' := Aside0.mk H
            clear H
            go_wp2_with (first | ((with_reducible refine gate_builtin (b := .append) (xs := #[.tmp 9, .tmp 14]) rfl ?_); at_builtin; refine Kd.R_append (Kd.int .u8) (w0 := w) w.heap.size rfl (.tmp 9) (.tmp 14) 33 5 (.int .u8 0) 1 rfl Tryd.underlying33 info5 rfl (by decide) (by omega) u3 x3_1 ((wrap64 ((Int.tmod x0_1 128) + 128)) % 256) [.int .u8 ((wrap64 ((Int.tmod x0_1 128) + 128)) % 256)] (fun _ => True) (fun _ => False) rfl rfl ?aP (fun _ hk => hk.elim) ?aF ?aO ?aB ?aS ?aL ?_; (case aP => exact rfl); (case aB => exact (by repeat (first | (with_reducible first | exact HB.out | apply below_alloc | apply pw_below_drewN | apply below_drew1) | exact HB.out))); (case aF => exact (fun _ _ => trivial)); (case aO => exact (by (with_reducible repeat (first | apply Kd.R_alloc | apply Kd.R_drewN | apply Kd.R_drew)); exact HO_3.out)); (case aS => exact (below_size (by repeat (first | (with_reducible first | exact HB.out | apply below_alloc | apply pw_below_drewN | apply below_drew1) | exact HB.out)))); (case aL => have := LMc6.out; omega); intro v142 w7 ho hb hg hat; rw [← Ny141.out] at ho; have n0_ := Aside0.mk (hb); have n1_ := Aside0.mk (ho); clear HB; clear HO_3; have HB := n0_; have HO143 := n1_; clear n0_ n1_; clear ho hb hg hat))
            go_roundg k1
            case measure => have := HK1.out; omega
            case rel => exact ⟨(wrap64 (Int.tdiv x0_1 128)), (y141), (by first | rfl | (simp; done) | (simp [*]; done)), H', ⟨by have := HK1.out; omega⟩, ⟨by (with_reducible repeat (first | apply Kd.R_alloc | apply Kd.R_drewN | apply Kd.R_drew)); exact HO143.out⟩, ⟨by repeat (first | (with_reducible first | exact HB.out | apply below_alloc | apply pw_below_drewN | apply below_drew1) | exact HB.out)⟩⟩
          · rw [if_neg c6] at H
            exact absurd H (by simp)
        · rw [if_neg c5] at H
          have c5b0 : decide (128 ≤ x0_1) = false := decide_eq_false c5
          clear c5
          by_cases c8 : x3_1.length < 140737488355328
          · rw [if_pos c8] at H
            have LMc8 := Aside0.mk c8
            clear c8
            obtain ⟨y144, hy144⟩ : ∃ y_ : List Int, y_ = (x3_1 ++ [(x0_1) % 256]) := ⟨_, rfl⟩
            replace H : (some (strOfNums y144)) = some r := by first | (rw [hy144]; with_reducible exact H) | (have H2_ := (Option.bind_some _ _).symm.trans H; rw [hy144]; with_reducible exact H2_) | (have H2_ := (Option.bind_some _ _).symm.trans H; with_reducible exact H2_) | with_reducible exact H | (rw [hy144]; exact H) | exact H
            have Ny144 := Aside0.mk hy144
            clear hy144
            obtain rfl := Option.some.inj H
            go_wp2_with (first | ((with_reducible refine gate_builtin (b := .append) (xs := #[.tmp 18, .tmp 21]) rfl ?_); at_builtin; refine Kd.R_append (Kd.int .u8) (w0 := w) w.heap.size rfl (.tmp 18) (.tmp 21) 33 5 (.int .u8 0) 1 rfl Tryd.underlying33 info5 rfl (by decide) (by omega) u3 x3_1 ((x0_1) % 256) [.int .u8 ((x0_1) % 256)] (fun _ => True) (fun _ => False) rfl rfl ?aP (fun _ hk => hk.elim) ?aF ?aO ?aB ?aS ?aL ?_; (case aP => exact rfl); (case aB => exact (by repeat (first | (with_reducible first | exact HB.out | apply below_alloc | apply pw_below_drewN | apply below_drew1) | exact HB.out))); (case aF => exact (fun _ _ => trivial)); (case aO => exact (by (with_reducible repeat (first | apply Kd.R_alloc | apply Kd.R_drewN | apply Kd.R_drew)); exact HO_3.out)); (case aS => exact (below_size (by repeat (first | (with_reducible first | exact HB.out | apply below_alloc | apply pw_below_drewN | apply below_drew1) | exact HB.out)))); (case aL => have := LMc8.out; omega); intro v145 w9 ho hb hg hat; rw [← Ny144.out] at ho; have n0_ := Aside0.mk (hb); have n1_ := Aside0.mk (ho); clear HB; clear HO_3; have HB := n0_; have HO146 := n1_; clear n0_ n1_; clear ho hb hg hat; have hcv10 := own_string (P := Tryd.prog) Tryd.underlying33 Tryd.underlying5 Tryd.underlying9 (Kd.own_of_R HO146.out)))
            go_ret
            exact ⟨by first | rfl | (simp [errW_none, errW_some] <;> rfl) | (simp [*, errW_none, errW_some] <;> rfl), by repeat (first | (with_reducible first | exact HB.out | apply below_alloc | apply pw_below_drewN | apply below_drew1) | exact HB.out)⟩
          · rw [if_neg c8] at H
            exact absurd H (by simp)

/-! ### entrepotref21_PutInt: function 18 -/
def entrepotref21_PutInt.j0 : Nat → Int → Bool → Option (ByteArray)
  | 0, _, _ => none
  | k + 1, x0, x8 => if x8 = true then (some (⟨#[]⟩ : ByteArray)) else (if x0 < 0 then ((entrepotref21_PutUint.f k (wrap64 ((-1) - (wrap64 (2 * x0))))).bind fun t147 => (some t147)) else ((entrepotref21_PutUint.f k (wrap64 (2 * x0))).bind fun t148 => (some t148)))
def entrepotref21_PutInt.f (k : Nat) (a0 : Int) : Option (ByteArray) := if a0 < (-2305843009213693952) then (entrepotref21_PutInt.j0 k a0 true) else (entrepotref21_PutInt.j0 k a0 (decide (a0 > 2305843009213693951)))
theorem entrepotref21_PutInt.mono_l : ∀ k, (∀ y0 y1, LeO (entrepotref21_PutInt.j0 k y0 y1) (entrepotref21_PutInt.j0 (k + 1) y0 y1))
  | 0 => fun _ _ r h => by simp [entrepotref21_PutInt.j0] at h
  | k + 1 => by
    have ih0 := entrepotref21_PutInt.mono_l k
    · intro y0 y1
      unfold entrepotref21_PutInt.j0
      repeat' first
      | (with_reducible exact ih0 _ _)
      | (with_reducible exact entrepotref21_PutUint.mono _ _)
      | (with_reducible exact LeO.refl _)
      | (with_reducible exact LeO.none _)
      | (with_reducible refine LeO.ite ?_ ?_)
      | (with_reducible refine LeO.bind ?_ (fun _ => ?_))
      | exact ih0 _ _
      | exact entrepotref21_PutUint.mono _ _
      | exact LeO.none _
      | refine LeO.ite ?_ ?_
      | refine LeO.bind ?_ (fun _ => ?_)
theorem entrepotref21_PutInt.mono : ∀ a0 k, LeO (entrepotref21_PutInt.f k a0) (entrepotref21_PutInt.f (k + 1) a0) := by
  intro a0 k
  have ih0 := entrepotref21_PutInt.mono_l k
  unfold entrepotref21_PutInt.f
  repeat' first
      | (with_reducible exact ih0 _ _)
      | (with_reducible exact entrepotref21_PutUint.mono _ _)
      | (with_reducible exact LeO.refl _)
      | (with_reducible exact LeO.none _)
      | (with_reducible refine LeO.ite ?_ ?_)
      | (with_reducible refine LeO.bind ?_ (fun _ => ?_))
      | exact ih0 _ _
      | exact entrepotref21_PutUint.mono _ _
      | exact LeO.none _
      | refine LeO.ite ?_ ?_
      | refine LeO.bind ?_ (fun _ => ?_)
set_option maxHeartbeats 8000000 in
set_option maxRecDepth 100000 in
theorem entrepotref21_PutInt.calls (k : Nat) (a0 : Int) (r : ByteArray) (w : World) (h : entrepotref21_PutInt.f k a0 = some r) :
    Calls Tryd.prog 18 #[.int .i64 a0] w fun e w' => e = .returned (.string r) ∧ Below w.heap.size w w' := by
  have HB := Aside0.mk (Below.refl w.heap.size w)
  have H : (if a0 < (-2305843009213693952) then (entrepotref21_PutInt.j0 k a0 true) else (entrepotref21_PutInt.j0 k a0 (decide (a0 > 2305843009213693951)))) = some r := h
  clear h
  have HC2 := Aside0.mk H
  clear H
  go_enter Tryd.func18, Tryd.ntmps18
  go_upto_region 1 with (fail)
  go_cut [8] (fun v8 wc => ∃ (kq : Nat) (x8_1 : Bool), v8 = .bool x8_1 ∧ Aside0 (entrepotref21_PutInt.j0 kq a0 x8_1 = some r) ∧ Aside0 (kq ≤ k) ∧ Aside0 (Below w.heap.size w wc))
  case first =>
    have H := HC2.out
    clear HC2
    by_cases c3 : a0 < (-2305843009213693952)
    · rw [if_pos c3] at H
      have c3b0 : decide (a0 < (-2305843009213693952)) = true := decide_eq_true c3
      clear c3
      (first | rw [c3b0] | (simp only [i64_w, i32_w]; rw [c3b0]) | skip)
      have H' := Aside0.mk H
      clear H
      go_wp2
      go_meet
      case rel => exact ⟨_, (true), (by first | rfl | (simp; done) | (simp [*]; done)), H', ⟨by first | omega | exact Nat.le_refl _⟩, ⟨by repeat (first | (with_reducible first | exact HB.out | apply below_alloc | apply pw_below_drewN | apply below_drew1) | exact HB.out)⟩⟩
    · rw [if_neg c3] at H
      have c3b0 : decide (a0 < (-2305843009213693952)) = false := decide_eq_false c3
      clear c3
      (first | rw [c3b0] | (simp only [i64_w, i32_w]; rw [c3b0]) | skip)
      have H' := Aside0.mk H
      clear H
      go_wp2
      go_meet
      case rel => exact ⟨_, (decide (a0 > 2305843009213693951)), (by first | rfl | (simp; done) | (simp [*]; done)), H', ⟨by first | omega | exact Nat.le_refl _⟩, ⟨by repeat (first | (with_reducible first | exact HB.out | apply below_alloc | apply pw_below_drewN | apply below_drew1) | exact HB.out)⟩⟩
  case rest =>
    clear HC2
    try clear c1
    try clear p2
    try clear c3
    try clear c3b0
    obtain ⟨kq, x8_1, rfl, HA, HJ1, HB⟩ := hcut
    cases kq with
    | zero => exact absurd HA.out (by simp [entrepotref21_PutInt.j0])
    | succ kj1 =>
      have H := HA.out
      clear HA
      simp only [entrepotref21_PutInt.j0] at H
      by_cases c4 : x8_1 = true
      · subst c4
        have H1 : (some (⟨#[]⟩ : ByteArray)) = some r := by rw [if_pos rfl] at H; exact H
        clear H
        have H := H1
        clear H1
        obtain rfl := Option.some.inj H
        go_wp2
        go_ret
        exact ⟨by first | rfl | (simp [errW_none, errW_some] <;> rfl) | (simp [*, errW_none, errW_some] <;> rfl), by repeat (first | (with_reducible first | exact HB.out | apply below_alloc | apply pw_below_drewN | apply below_drew1) | exact HB.out)⟩
      · replace c4 := Bool.eq_false_iff.mpr c4
        subst c4
        have H1 : (if a0 < 0 then ((entrepotref21_PutUint.f kj1 (wrap64 ((-1) - (wrap64 (2 * a0))))).bind fun t147 => (some t147)) else ((entrepotref21_PutUint.f kj1 (wrap64 (2 * a0))).bind fun t148 => (some t148))) = some r := by rw [if_neg (show ¬ (false = true) by decide)] at H; exact H
        clear H
        have H := H1
        clear H1
        by_cases c5 : a0 < 0
        · rw [if_pos c5] at H
          have c5b0 : decide (a0 < 0) = true := decide_eq_true c5
          clear c5
          replace H := Option.bind_eq_some_iff.mp H
          obtain ⟨t147, A60, H⟩ := H
          replace H : (some t147) = some r := H
          have A6 := Aside0.mk A60
          clear A60
          obtain rfl := Option.some.inj H
          go_wp2_with (first | ((with_reducible refine gate_callee (f := 16) rfl ?_); refine goesL_ (some 14) rfl rfl Tryd.func16 (by kernel_rfl) rfl #[.int .i64 (wrap64 ((-1) - (wrap64 (2 * a0))))] rfl (by (try simp only [List.map_toArray, List.map_cons, List.map_nil]); first | done | rfl | (simp only [List.length_drop, List.length_take]; rfl)) ?_; (with_reducible refine (entrepotref21_PutUint.calls kj1 (wrap64 ((-1) - (wrap64 (2 * a0)))) t147 _ A6.out).mono ?_); rintro e w7 ⟨rfl, hb⟩; refine ⟨_, rfl, ?_⟩; have n0_ := Aside0.mk (below_step (by repeat (first | (with_reducible first | exact HB.out | apply below_alloc | apply pw_below_drewN | apply below_drew1) | exact HB.out)) hb); clear HB; have HB := n0_; clear n0_; (try clear hb); (try clear hb2); (try clear hk); (try clear hi)))
          go_ret
          exact ⟨by first | rfl | (simp [errW_none, errW_some] <;> rfl) | (simp [*, errW_none, errW_some] <;> rfl), by repeat (first | (with_reducible first | exact HB.out | apply below_alloc | apply pw_below_drewN | apply below_drew1) | exact HB.out)⟩
        · rw [if_neg c5] at H
          have c5b0 : decide (a0 < 0) = false := decide_eq_false c5
          clear c5
          replace H := Option.bind_eq_some_iff.mp H
          obtain ⟨t148, A80, H⟩ := H
          replace H : (some t148) = some r := H
          have A8 := Aside0.mk A80
          clear A80
          obtain rfl := Option.some.inj H
          go_wp2_with (first | ((with_reducible refine gate_callee (f := 16) rfl ?_); refine goesL_ (some 17) rfl rfl Tryd.func16 (by kernel_rfl) rfl #[.int .i64 (wrap64 (2 * a0))] rfl (by (try simp only [List.map_toArray, List.map_cons, List.map_nil]); first | done | rfl | (simp only [List.length_drop, List.length_take]; rfl)) ?_; (with_reducible refine (entrepotref21_PutUint.calls kj1 (wrap64 (2 * a0)) t148 _ A8.out).mono ?_); rintro e w9 ⟨rfl, hb⟩; refine ⟨_, rfl, ?_⟩; have n0_ := Aside0.mk (below_step (by repeat (first | (with_reducible first | exact HB.out | apply below_alloc | apply pw_below_drewN | apply below_drew1) | exact HB.out)) hb); clear HB; have HB := n0_; clear n0_; (try clear hb); (try clear hb2); (try clear hk); (try clear hi)))
          go_ret
          exact ⟨by first | rfl | (simp [errW_none, errW_some] <;> rfl) | (simp [*, errW_none, errW_some] <;> rfl), by repeat (first | (with_reducible first | exact HB.out | apply below_alloc | apply pw_below_drewN | apply below_drew1) | exact HB.out)⟩

/-! ### entrepotlaw21_PackNumbers: function 4 -/
def entrepotlaw21_PackNumbers.j0 : Nat → Int → ByteArray → Int → Bool → Option (Bool)
  | 0, _, _, _, _ => none
  | k + 1, x0, x1, x2, x25 => if x25 = true then ((entrepotlaw21_shown.f k).bind fun t150 => (some t150)) else ((pack_GetUint.f x1 x2).bind fun bt151 => ((entrepotref21_GetUint.f k x1 x2).bind fun bt154 => ((pack_GetInt.f x1 x2).bind fun bt157 => ((entrepotref21_GetInt.f k x1 x2).bind fun bt160 => ((pack_PutUint.f k x0).bind fun t163 => ((entrepotref21_PutUint.f k x0).bind fun t164 => (if t163.toList = t164.toList then ((pack_PutInt.f k x0).bind fun t165 => ((entrepotref21_PutInt.f k x0).bind fun t166 => (if t165.toList = t166.toList then (if bt151.1 = bt154.1 then (if bt151.2.1 = bt154.2.1 then (if bt151.2.2 = bt154.2.2 then (if bt157.1 = bt160.1 then (if bt157.2.1 = bt160.2.1 then (some (bt157.2.2 == bt160.2.2)) else (some false)) else (some false)) else (some false)) else (some false)) else (some false)) else (some false)))) else (some false))))))))
def entrepotlaw21_PackNumbers.f (k : Nat) (a0 : Int) (a1 : ByteArray) (a2 : Int) : Option (Bool) := if (a1.size : Int) > 200 then (entrepotlaw21_PackNumbers.j0 k a0 a1 a2 true) else ((entrepotlaw21_shown.f k).bind fun t149 => (entrepotlaw21_PackNumbers.j0 k a0 a1 a2 (!t149)))
theorem entrepotlaw21_PackNumbers.mono_l : ∀ k, (∀ y0 y1 y2 y3, LeO (entrepotlaw21_PackNumbers.j0 k y0 y1 y2 y3) (entrepotlaw21_PackNumbers.j0 (k + 1) y0 y1 y2 y3))
  | 0 => fun _ _ _ _ r h => by simp [entrepotlaw21_PackNumbers.j0] at h
  | k + 1 => by
    have ih0 := entrepotlaw21_PackNumbers.mono_l k
    · intro y0 y1 y2 y3
      unfold entrepotlaw21_PackNumbers.j0
      repeat' first
      | (with_reducible exact ih0 _ _ _ _)
      | (with_reducible exact entrepotlaw21_shown.mono _)
      | (with_reducible exact entrepotref21_GetInt.mono _ _ _)
      | (with_reducible exact entrepotref21_GetUint.mono _ _ _)
      | (with_reducible exact entrepotref21_PutInt.mono _ _)
      | (with_reducible exact entrepotref21_PutUint.mono _ _)
      | (with_reducible exact pack_PutInt.mono _ _)
      | (with_reducible exact pack_PutUint.mono _ _)
      | (with_reducible exact LeO.refl _)
      | (with_reducible exact LeO.none _)
      | (with_reducible refine LeO.ite ?_ ?_)
      | (with_reducible refine LeO.bind ?_ (fun _ => ?_))
      | exact ih0 _ _ _ _
      | exact entrepotlaw21_shown.mono _
      | exact entrepotref21_GetInt.mono _ _ _
      | exact entrepotref21_GetUint.mono _ _ _
      | exact entrepotref21_PutInt.mono _ _
      | exact entrepotref21_PutUint.mono _ _
      | exact pack_PutInt.mono _ _
      | exact pack_PutUint.mono _ _
      | exact LeO.none _
      | refine LeO.ite ?_ ?_
      | refine LeO.bind ?_ (fun _ => ?_)
theorem entrepotlaw21_PackNumbers.mono : ∀ a0 a1 a2 k, LeO (entrepotlaw21_PackNumbers.f k a0 a1 a2) (entrepotlaw21_PackNumbers.f (k + 1) a0 a1 a2) := by
  intro a0 a1 a2 k
  have ih0 := entrepotlaw21_PackNumbers.mono_l k
  unfold entrepotlaw21_PackNumbers.f
  repeat' first
      | (with_reducible exact ih0 _ _ _ _)
      | (with_reducible exact entrepotlaw21_shown.mono _)
      | (with_reducible exact entrepotref21_GetInt.mono _ _ _)
      | (with_reducible exact entrepotref21_GetUint.mono _ _ _)
      | (with_reducible exact entrepotref21_PutInt.mono _ _)
      | (with_reducible exact entrepotref21_PutUint.mono _ _)
      | (with_reducible exact pack_PutInt.mono _ _)
      | (with_reducible exact pack_PutUint.mono _ _)
      | (with_reducible exact LeO.refl _)
      | (with_reducible exact LeO.none _)
      | (with_reducible refine LeO.ite ?_ ?_)
      | (with_reducible refine LeO.bind ?_ (fun _ => ?_))
      | exact ih0 _ _ _ _
      | exact entrepotlaw21_shown.mono _
      | exact entrepotref21_GetInt.mono _ _ _
      | exact entrepotref21_GetUint.mono _ _ _
      | exact entrepotref21_PutInt.mono _ _
      | exact entrepotref21_PutUint.mono _ _
      | exact pack_PutInt.mono _ _
      | exact pack_PutUint.mono _ _
      | exact LeO.none _
      | refine LeO.ite ?_ ?_
      | refine LeO.bind ?_ (fun _ => ?_)
set_option maxHeartbeats 8000000 in
set_option maxRecDepth 100000 in
theorem entrepotlaw21_PackNumbers.calls (k : Nat) (a0 : Int) (a1 : ByteArray) (a2 : Int) (r : Bool) (w : World) (HT : Tab w) (h : entrepotlaw21_PackNumbers.f k a0 a1 a2 = some r) :
    Calls Tryd.prog 4 #[.int .i64 a0, .string a1, .int .i64 a2] w fun e w' => e = .returned (.bool r) ∧ Below w.heap.size w w' := by
  have HB := Aside0.mk (Below.refl w.heap.size w)
  have H : (if (a1.size : Int) > 200 then (entrepotlaw21_PackNumbers.j0 k a0 a1 a2 true) else ((entrepotlaw21_shown.f k).bind fun t149 => (entrepotlaw21_PackNumbers.j0 k a0 a1 a2 (!t149)))) = some r := h
  clear h
  have HC4 := Aside0.mk H
  clear H
  go_enter Tryd.func4, Tryd.ntmps4
  go_upto_region 1 with (fail)
  go_cut [25] (fun v25 wc => ∃ (kq : Nat) (x25_3 : Bool), v25 = .bool x25_3 ∧ Aside0 (entrepotlaw21_PackNumbers.j0 kq a0 a1 a2 x25_3 = some r) ∧ Aside0 (kq ≤ k) ∧ Aside0 (Below w.heap.size w wc))
  case first =>
    have H := HC4.out
    clear HC4
    by_cases c5 : (a1.size : Int) > 200
    · rw [if_pos c5] at H
      have c5b0 : decide (200 < (a1.size : Int)) = true := decide_eq_true c5
      have c5b1 : decide (200 < a1.size) = true := decide_eq_true (by omega)
      clear c5
      (first | rw [c5b0] | (simp only [i64_w, i32_w]; rw [c5b0]) | skip)
      have H' := Aside0.mk H
      clear H
      go_wp2
      go_meet
      case rel => exact ⟨_, (true), (by first | rfl | (simp; done) | (simp [*]; done)), H', ⟨by first | omega | exact Nat.le_refl _⟩, ⟨by repeat (first | (with_reducible first | exact HB.out | apply below_alloc | apply pw_below_drewN | apply below_drew1) | exact HB.out)⟩⟩
    · rw [if_neg c5] at H
      have c5b0 : decide (200 < (a1.size : Int)) = false := decide_eq_false c5
      have c5b1 : decide (200 < a1.size) = false := decide_eq_false (by omega)
      clear c5
      (first | rw [c5b0] | (simp only [i64_w, i32_w]; rw [c5b0]) | skip)
      replace H := Option.bind_eq_some_iff.mp H
      obtain ⟨t149, A60, H⟩ := H
      replace H : (entrepotlaw21_PackNumbers.j0 k a0 a1 a2 (!t149)) = some r := H
      have A6 := Aside0.mk A60
      clear A60
      have H' := Aside0.mk H
      clear H
      go_wp2_with (first | (go_at_call 8; (with_reducible refine (entrepotlaw21_shown.calls k  t149 _ (Tab.below HT (by repeat (first | (with_reducible first | exact HB.out | apply below_alloc | apply pw_below_drewN | apply below_drew1) | exact HB.out))) A6.out).mono ?_); rintro e w7 ⟨rfl, hb⟩; have n0_ := Aside0.mk (below_step (by repeat (first | (with_reducible first | exact HB.out | apply below_alloc | apply pw_below_drewN | apply below_drew1) | exact HB.out)) hb); clear HB; have HB := n0_; clear n0_; (try clear hb); (try clear hb2); (try clear hk); (try clear hi)))
      go_meet
      case rel => exact ⟨_, (!t149), (by first | rfl | (simp; done) | (simp [*]; done)), H', ⟨by first | omega | exact Nat.le_refl _⟩, ⟨by repeat (first | (with_reducible first | exact HB.out | apply below_alloc | apply pw_below_drewN | apply below_drew1) | exact HB.out)⟩⟩
  case rest =>
    clear HC4
    try clear p2
    try clear c4
    try clear c5
    try clear c5b0
    try clear c5b1
    obtain ⟨kq, x25_3, rfl, HA, HJ3, HB⟩ := hcut
    cases kq with
    | zero => exact absurd HA.out (by simp [entrepotlaw21_PackNumbers.j0])
    | succ kj3 =>
      have H := HA.out
      clear HA
      simp only [entrepotlaw21_PackNumbers.j0] at H
      by_cases c8 : x25_3 = true
      · subst c8
        have H1 : ((entrepotlaw21_shown.f kj3).bind fun t150 => (some t150)) = some r := by rw [if_pos rfl] at H; exact H
        clear H
        have H := H1
        clear H1
        replace H := Option.bind_eq_some_iff.mp H
        obtain ⟨t150, A90, H⟩ := H
        replace H : (some t150) = some r := H
        have A9 := Aside0.mk A90
        clear A90
        obtain rfl := Option.some.inj H
        go_wp2_with (first | ((with_reducible refine gate_callee (f := 8) rfl ?_); refine goesL_ (some 26) rfl rfl Tryd.func8 (by kernel_rfl) rfl #[] rfl (by (try simp only [List.map_toArray, List.map_cons, List.map_nil]); first | done | rfl | (simp only [List.length_drop, List.length_take]; rfl)) ?_; (with_reducible refine (entrepotlaw21_shown.calls kj3  t150 _ (Tab.below HT (by repeat (first | (with_reducible first | exact HB.out | apply below_alloc | apply pw_below_drewN | apply below_drew1) | exact HB.out))) A9.out).mono ?_); rintro e w10 ⟨rfl, hb⟩; refine ⟨_, rfl, ?_⟩; have n0_ := Aside0.mk (below_step (by repeat (first | (with_reducible first | exact HB.out | apply below_alloc | apply pw_below_drewN | apply below_drew1) | exact HB.out)) hb); clear HB; have HB := n0_; clear n0_; (try clear hb); (try clear hb2); (try clear hk); (try clear hi)))
        go_ret
        exact ⟨by first | rfl | (simp [errW_none, errW_some] <;> rfl) | (simp [*, errW_none, errW_some] <;> rfl), by repeat (first | (with_reducible first | exact HB.out | apply below_alloc | apply pw_below_drewN | apply below_drew1) | exact HB.out)⟩
      · replace c8 := Bool.eq_false_iff.mpr c8
        subst c8
        have H1 : ((pack_GetUint.f a1 a2).bind fun bt151 => ((entrepotref21_GetUint.f kj3 a1 a2).bind fun bt154 => ((pack_GetInt.f a1 a2).bind fun bt157 => ((entrepotref21_GetInt.f kj3 a1 a2).bind fun bt160 => ((pack_PutUint.f kj3 a0).bind fun t163 => ((entrepotref21_PutUint.f kj3 a0).bind fun t164 => (if t163.toList = t164.toList then ((pack_PutInt.f kj3 a0).bind fun t165 => ((entrepotref21_PutInt.f kj3 a0).bind fun t166 => (if t165.toList = t166.toList then (if bt151.1 = bt154.1 then (if bt151.2.1 = bt154.2.1 then (if bt151.2.2 = bt154.2.2 then (if bt157.1 = bt160.1 then (if bt157.2.1 = bt160.2.1 then (some (bt157.2.2 == bt160.2.2)) else (some false)) else (some false)) else (some false)) else (some false)) else (some false)) else (some false)))) else (some false)))))))) = some r := by rw [if_neg (show ¬ (false = true) by decide)] at H; exact H
        clear H
        have H := H1
        clear H1
        replace H := Option.bind_eq_some_iff.mp H
        obtain ⟨⟨t151, t152, t153⟩, A110, H⟩ := H
        replace H : ((entrepotref21_GetUint.f kj3 a1 a2).bind fun bt154 => ((pack_GetInt.f a1 a2).bind fun bt157 => ((entrepotref21_GetInt.f kj3 a1 a2).bind fun bt160 => ((pack_PutUint.f kj3 a0).bind fun t163 => ((entrepotref21_PutUint.f kj3 a0).bind fun t164 => (if t163.toList = t164.toList then ((pack_PutInt.f kj3 a0).bind fun t165 => ((entrepotref21_PutInt.f kj3 a0).bind fun t166 => (if t165.toList = t166.toList then (if t151 = bt154.1 then (if t152 = bt154.2.1 then (if t153 = bt154.2.2 then (if bt157.1 = bt160.1 then (if bt157.2.1 = bt160.2.1 then (some (bt157.2.2 == bt160.2.2)) else (some false)) else (some false)) else (some false)) else (some false)) else (some false)) else (some false)))) else (some false))))))) = some r := H
        have A11 := Aside0.mk A110
        clear A110
        replace H := Option.bind_eq_some_iff.mp H
        obtain ⟨⟨t154, t155, t156⟩, A120, H⟩ := H
        replace H : ((pack_GetInt.f a1 a2).bind fun bt157 => ((entrepotref21_GetInt.f kj3 a1 a2).bind fun bt160 => ((pack_PutUint.f kj3 a0).bind fun t163 => ((entrepotref21_PutUint.f kj3 a0).bind fun t164 => (if t163.toList = t164.toList then ((pack_PutInt.f kj3 a0).bind fun t165 => ((entrepotref21_PutInt.f kj3 a0).bind fun t166 => (if t165.toList = t166.toList then (if t151 = t154 then (if t152 = t155 then (if t153 = t156 then (if bt157.1 = bt160.1 then (if bt157.2.1 = bt160.2.1 then (some (bt157.2.2 == bt160.2.2)) else (some false)) else (some false)) else (some false)) else (some false)) else (some false)) else (some false)))) else (some false)))))) = some r := H
        have A12 := Aside0.mk A120
        clear A120
        replace H := Option.bind_eq_some_iff.mp H
        obtain ⟨⟨t157, t158, t159⟩, A130, H⟩ := H
        replace H : ((entrepotref21_GetInt.f kj3 a1 a2).bind fun bt160 => ((pack_PutUint.f kj3 a0).bind fun t163 => ((entrepotref21_PutUint.f kj3 a0).bind fun t164 => (if t163.toList = t164.toList then ((pack_PutInt.f kj3 a0).bind fun t165 => ((entrepotref21_PutInt.f kj3 a0).bind fun t166 => (if t165.toList = t166.toList then (if t151 = t154 then (if t152 = t155 then (if t153 = t156 then (if t157 = bt160.1 then (if t158 = bt160.2.1 then (some (t159 == bt160.2.2)) else (some false)) else (some false)) else (some false)) else (some false)) else (some false)) else (some false)))) else (some false))))) = some r := H
        have A13 := Aside0.mk A130
        clear A130
        replace H := Option.bind_eq_some_iff.mp H
        obtain ⟨⟨t160, t161, t162⟩, A140, H⟩ := H
        replace H : ((pack_PutUint.f kj3 a0).bind fun t163 => ((entrepotref21_PutUint.f kj3 a0).bind fun t164 => (if t163.toList = t164.toList then ((pack_PutInt.f kj3 a0).bind fun t165 => ((entrepotref21_PutInt.f kj3 a0).bind fun t166 => (if t165.toList = t166.toList then (if t151 = t154 then (if t152 = t155 then (if t153 = t156 then (if t157 = t160 then (if t158 = t161 then (some (t159 == t162)) else (some false)) else (some false)) else (some false)) else (some false)) else (some false)) else (some false)))) else (some false)))) = some r := H
        have A14 := Aside0.mk A140
        clear A140
        replace H := Option.bind_eq_some_iff.mp H
        obtain ⟨t163, A150, H⟩ := H
        replace H : ((entrepotref21_PutUint.f kj3 a0).bind fun t164 => (if t163.toList = t164.toList then ((pack_PutInt.f kj3 a0).bind fun t165 => ((entrepotref21_PutInt.f kj3 a0).bind fun t166 => (if t165.toList = t166.toList then (if t151 = t154 then (if t152 = t155 then (if t153 = t156 then (if t157 = t160 then (if t158 = t161 then (some (t159 == t162)) else (some false)) else (some false)) else (some false)) else (some false)) else (some false)) else (some false)))) else (some false))) = some r := H
        have A15 := Aside0.mk A150
        clear A150
        replace H := Option.bind_eq_some_iff.mp H
        obtain ⟨t164, A160, H⟩ := H
        replace H : (if t163.toList = t164.toList then ((pack_PutInt.f kj3 a0).bind fun t165 => ((entrepotref21_PutInt.f kj3 a0).bind fun t166 => (if t165.toList = t166.toList then (if t151 = t154 then (if t152 = t155 then (if t153 = t156 then (if t157 = t160 then (if t158 = t161 then (some (t159 == t162)) else (some false)) else (some false)) else (some false)) else (some false)) else (some false)) else (some false)))) else (some false)) = some r := H
        have A16 := Aside0.mk A160
        clear A160
        by_cases c17 : t163.toList = t164.toList
        · rw [if_pos c17] at H
          have c17b0 : (t163.toList == t164.toList) = true := beq_iff_eq.mpr c17
          have c17b1 : (t163.toList != t164.toList) = false := bne_eq_false_iff_eq.mpr c17
          clear c17
          replace H := Option.bind_eq_some_iff.mp H
          obtain ⟨t165, A180, H⟩ := H
          replace H : ((entrepotref21_PutInt.f kj3 a0).bind fun t166 => (if t165.toList = t166.toList then (if t151 = t154 then (if t152 = t155 then (if t153 = t156 then (if t157 = t160 then (if t158 = t161 then (some (t159 == t162)) else (some false)) else (some false)) else (some false)) else (some false)) else (some false)) else (some false))) = some r := H
          have A18 := Aside0.mk A180
          clear A180
          replace H := Option.bind_eq_some_iff.mp H
          obtain ⟨t166, A190, H⟩ := H
          replace H : (if t165.toList = t166.toList then (if t151 = t154 then (if t152 = t155 then (if t153 = t156 then (if t157 = t160 then (if t158 = t161 then (some (t159 == t162)) else (some false)) else (some false)) else (some false)) else (some false)) else (some false)) else (some false)) = some r := H
          have A19 := Aside0.mk A190
          clear A190
          by_cases c20 : t165.toList = t166.toList
          · rw [if_pos c20] at H
            have c20b0 : (t165.toList == t166.toList) = true := beq_iff_eq.mpr c20
            have c20b1 : (t165.toList != t166.toList) = false := bne_eq_false_iff_eq.mpr c20
            clear c20
            by_cases c21 : t151 = t154
            · rw [if_pos c21] at H
              have c21b0 : (t151 == t154) = true := beq_iff_eq.mpr c21
              have c21b1 : (t151 != t154) = false := bne_eq_false_iff_eq.mpr c21
              clear c21
              by_cases c22 : t152 = t155
              · rw [if_pos c22] at H
                have c22b0 : (t152 == t155) = true := beq_iff_eq.mpr c22
                have c22b1 : (t152 != t155) = false := bne_eq_false_iff_eq.mpr c22
                clear c22
                by_cases c23 : t153 = t156
                · rw [if_pos c23] at H
                  have c23b0 : (t153 == t156) = true := beq_iff_eq.mpr c23
                  have c23b1 : (t153 != t156) = false := bne_eq_false_iff_eq.mpr c23
                  clear c23
                  by_cases c24 : t157 = t160
                  · rw [if_pos c24] at H
                    have c24b0 : (t157 == t160) = true := beq_iff_eq.mpr c24
                    have c24b1 : (t157 != t160) = false := bne_eq_false_iff_eq.mpr c24
                    clear c24
                    by_cases c25 : t158 = t161
                    · rw [if_pos c25] at H
                      have c25b0 : (t158 == t161) = true := beq_iff_eq.mpr c25
                      have c25b1 : (t158 != t161) = false := bne_eq_false_iff_eq.mpr c25
                      clear c25
                      obtain rfl := Option.some.inj H
                      go_wp2_with (first | ((with_reducible refine gate_callee (f := 11) rfl ?_); refine goesL_ (some 30) rfl rfl Tryd.func11 (by kernel_rfl) rfl #[.string a1, .int .i64 a2] rfl (by (try simp only [List.map_toArray, List.map_cons, List.map_nil]); first | done | rfl | (simp only [List.length_drop, List.length_take]; rfl)) ?_; (with_reducible refine (pack_GetUint.calls a1 a2 t151 t152 t153 _ A11.out).mono ?_); rintro e w26 ⟨rfl, hb⟩; refine ⟨_, rfl, ?_⟩; have n0_ := Aside0.mk (below_step (by repeat (first | (with_reducible first | exact HB.out | apply below_alloc | apply pw_below_drewN | apply below_drew1) | exact HB.out)) hb); clear HB; have HB := n0_; clear n0_; (try clear hb); (try clear hb2); (try clear hk); (try clear hi)) | ((with_reducible refine gate_callee (f := 13) rfl ?_); refine goesL_ (some 37) rfl rfl Tryd.func13 (by kernel_rfl) rfl #[.string a1, .int .i64 a2] rfl (by (try simp only [List.map_toArray, List.map_cons, List.map_nil]); first | done | rfl | (simp only [List.length_drop, List.length_take]; rfl)) ?_; (with_reducible refine (entrepotref21_GetUint.calls kj3 a1 a2 t154 t155 t156 _ A12.out).mono ?_); rintro e w' ⟨rfl, ⟨nd, rfl⟩⟩; refine ⟨_, rfl, ?_⟩) | ((with_reducible refine gate_callee (f := 14) rfl ?_); refine goesL_ (some 44) rfl rfl Tryd.func14 (by kernel_rfl) rfl #[.string a1, .int .i64 a2] rfl (by (try simp only [List.map_toArray, List.map_cons, List.map_nil]); first | done | rfl | (simp only [List.length_drop, List.length_take]; rfl)) ?_; (with_reducible refine (pack_GetInt.calls a1 a2 t157 t158 t159 _ A13.out).mono ?_); rintro e w27 ⟨rfl, hb⟩; refine ⟨_, rfl, ?_⟩; have n0_ := Aside0.mk (below_step (by repeat (first | (with_reducible first | exact HB.out | apply below_alloc | apply pw_below_drewN | apply below_drew1) | exact HB.out)) hb); clear HB; have HB := n0_; clear n0_; (try clear hb); (try clear hb2); (try clear hk); (try clear hi)) | ((with_reducible refine gate_callee (f := 15) rfl ?_); refine goesL_ (some 51) rfl rfl Tryd.func15 (by kernel_rfl) rfl #[.string a1, .int .i64 a2] rfl (by (try simp only [List.map_toArray, List.map_cons, List.map_nil]); first | done | rfl | (simp only [List.length_drop, List.length_take]; rfl)) ?_; (with_reducible refine (entrepotref21_GetInt.calls kj3 a1 a2 t160 t161 t162 _ A14.out).mono ?_); rintro e w' ⟨rfl, ⟨nd, rfl⟩⟩; refine ⟨_, rfl, ?_⟩) | ((with_reducible refine gate_callee (f := 9) rfl ?_); refine goesL_ (some 56) rfl rfl Tryd.func9 (by kernel_rfl) rfl #[.int .i64 a0] rfl (by (try simp only [List.map_toArray, List.map_cons, List.map_nil]); first | done | rfl | (simp only [List.length_drop, List.length_take]; rfl)) ?_; (with_reducible refine (pack_PutUint.calls kj3 a0 t163 _ A15.out).mono ?_); rintro e w28 ⟨rfl, hb⟩; refine ⟨_, rfl, ?_⟩; have n0_ := Aside0.mk (below_step (by repeat (first | (with_reducible first | exact HB.out | apply below_alloc | apply pw_below_drewN | apply below_drew1) | exact HB.out)) hb); clear HB; have HB := n0_; clear n0_; (try clear hb); (try clear hb2); (try clear hk); (try clear hi)) | ((with_reducible refine gate_callee (f := 16) rfl ?_); refine goesL_ (some 58) rfl rfl Tryd.func16 (by kernel_rfl) rfl #[.int .i64 a0] rfl (by (try simp only [List.map_toArray, List.map_cons, List.map_nil]); first | done | rfl | (simp only [List.length_drop, List.length_take]; rfl)) ?_; (with_reducible refine (entrepotref21_PutUint.calls kj3 a0 t164 _ A16.out).mono ?_); rintro e w29 ⟨rfl, hb⟩; refine ⟨_, rfl, ?_⟩; have n0_ := Aside0.mk (below_step (by repeat (first | (with_reducible first | exact HB.out | apply below_alloc | apply pw_below_drewN | apply below_drew1) | exact HB.out)) hb); clear HB; have HB := n0_; clear n0_; (try clear hb); (try clear hb2); (try clear hk); (try clear hi)) | (go_at_call 17; (with_reducible refine (pack_PutInt.calls kj3 a0 t165 _ A18.out).mono ?_); rintro e w30 ⟨rfl, hb⟩; have n0_ := Aside0.mk (below_step (by repeat (first | (with_reducible first | exact HB.out | apply below_alloc | apply pw_below_drewN | apply below_drew1) | exact HB.out)) hb); clear HB; have HB := n0_; clear n0_; (try clear hb); (try clear hb2); (try clear hk); (try clear hi)) | (go_at_call 18; (with_reducible refine (entrepotref21_PutInt.calls kj3 a0 t166 _ A19.out).mono ?_); rintro e w31 ⟨rfl, hb⟩; have n0_ := Aside0.mk (below_step (by repeat (first | (with_reducible first | exact HB.out | apply below_alloc | apply pw_below_drewN | apply below_drew1) | exact HB.out)) hb); clear HB; have HB := n0_; clear n0_; (try clear hb); (try clear hb2); (try clear hk); (try clear hi)))
                      go_ret
                      exact ⟨by first | rfl | (simp [errW_none, errW_some] <;> rfl) | (simp [*, errW_none, errW_some] <;> rfl), by repeat (first | (with_reducible first | exact HB.out | apply below_alloc | apply pw_below_drewN | apply below_drew1) | exact HB.out)⟩
                    · rw [if_neg c25] at H
                      have c25b0 : (t158 == t161) = false := beq_eq_false_iff_ne.mpr c25
                      have c25b1 : (t158 != t161) = true := bne_iff_ne.mpr c25
                      obtain rfl := Option.some.inj H
                      go_wp2_with (first | ((with_reducible refine gate_callee (f := 11) rfl ?_); refine goesL_ (some 30) rfl rfl Tryd.func11 (by kernel_rfl) rfl #[.string a1, .int .i64 a2] rfl (by (try simp only [List.map_toArray, List.map_cons, List.map_nil]); first | done | rfl | (simp only [List.length_drop, List.length_take]; rfl)) ?_; (with_reducible refine (pack_GetUint.calls a1 a2 t151 t152 t153 _ A11.out).mono ?_); rintro e w32 ⟨rfl, hb⟩; refine ⟨_, rfl, ?_⟩; have n0_ := Aside0.mk (below_step (by repeat (first | (with_reducible first | exact HB.out | apply below_alloc | apply pw_below_drewN | apply below_drew1) | exact HB.out)) hb); clear HB; have HB := n0_; clear n0_; (try clear hb); (try clear hb2); (try clear hk); (try clear hi)) | ((with_reducible refine gate_callee (f := 13) rfl ?_); refine goesL_ (some 37) rfl rfl Tryd.func13 (by kernel_rfl) rfl #[.string a1, .int .i64 a2] rfl (by (try simp only [List.map_toArray, List.map_cons, List.map_nil]); first | done | rfl | (simp only [List.length_drop, List.length_take]; rfl)) ?_; (with_reducible refine (entrepotref21_GetUint.calls kj3 a1 a2 t154 t155 t156 _ A12.out).mono ?_); rintro e w' ⟨rfl, ⟨nd, rfl⟩⟩; refine ⟨_, rfl, ?_⟩) | ((with_reducible refine gate_callee (f := 14) rfl ?_); refine goesL_ (some 44) rfl rfl Tryd.func14 (by kernel_rfl) rfl #[.string a1, .int .i64 a2] rfl (by (try simp only [List.map_toArray, List.map_cons, List.map_nil]); first | done | rfl | (simp only [List.length_drop, List.length_take]; rfl)) ?_; (with_reducible refine (pack_GetInt.calls a1 a2 t157 t158 t159 _ A13.out).mono ?_); rintro e w33 ⟨rfl, hb⟩; refine ⟨_, rfl, ?_⟩; have n0_ := Aside0.mk (below_step (by repeat (first | (with_reducible first | exact HB.out | apply below_alloc | apply pw_below_drewN | apply below_drew1) | exact HB.out)) hb); clear HB; have HB := n0_; clear n0_; (try clear hb); (try clear hb2); (try clear hk); (try clear hi)) | ((with_reducible refine gate_callee (f := 15) rfl ?_); refine goesL_ (some 51) rfl rfl Tryd.func15 (by kernel_rfl) rfl #[.string a1, .int .i64 a2] rfl (by (try simp only [List.map_toArray, List.map_cons, List.map_nil]); first | done | rfl | (simp only [List.length_drop, List.length_take]; rfl)) ?_; (with_reducible refine (entrepotref21_GetInt.calls kj3 a1 a2 t160 t161 t162 _ A14.out).mono ?_); rintro e w' ⟨rfl, ⟨nd, rfl⟩⟩; refine ⟨_, rfl, ?_⟩) | ((with_reducible refine gate_callee (f := 9) rfl ?_); refine goesL_ (some 56) rfl rfl Tryd.func9 (by kernel_rfl) rfl #[.int .i64 a0] rfl (by (try simp only [List.map_toArray, List.map_cons, List.map_nil]); first | done | rfl | (simp only [List.length_drop, List.length_take]; rfl)) ?_; (with_reducible refine (pack_PutUint.calls kj3 a0 t163 _ A15.out).mono ?_); rintro e w34 ⟨rfl, hb⟩; refine ⟨_, rfl, ?_⟩; have n0_ := Aside0.mk (below_step (by repeat (first | (with_reducible first | exact HB.out | apply below_alloc | apply pw_below_drewN | apply below_drew1) | exact HB.out)) hb); clear HB; have HB := n0_; clear n0_; (try clear hb); (try clear hb2); (try clear hk); (try clear hi)) | ((with_reducible refine gate_callee (f := 16) rfl ?_); refine goesL_ (some 58) rfl rfl Tryd.func16 (by kernel_rfl) rfl #[.int .i64 a0] rfl (by (try simp only [List.map_toArray, List.map_cons, List.map_nil]); first | done | rfl | (simp only [List.length_drop, List.length_take]; rfl)) ?_; (with_reducible refine (entrepotref21_PutUint.calls kj3 a0 t164 _ A16.out).mono ?_); rintro e w35 ⟨rfl, hb⟩; refine ⟨_, rfl, ?_⟩; have n0_ := Aside0.mk (below_step (by repeat (first | (with_reducible first | exact HB.out | apply below_alloc | apply pw_below_drewN | apply below_drew1) | exact HB.out)) hb); clear HB; have HB := n0_; clear n0_; (try clear hb); (try clear hb2); (try clear hk); (try clear hi)) | (go_at_call 17; (with_reducible refine (pack_PutInt.calls kj3 a0 t165 _ A18.out).mono ?_); rintro e w36 ⟨rfl, hb⟩; have n0_ := Aside0.mk (below_step (by repeat (first | (with_reducible first | exact HB.out | apply below_alloc | apply pw_below_drewN | apply below_drew1) | exact HB.out)) hb); clear HB; have HB := n0_; clear n0_; (try clear hb); (try clear hb2); (try clear hk); (try clear hi)) | (go_at_call 18; (with_reducible refine (entrepotref21_PutInt.calls kj3 a0 t166 _ A19.out).mono ?_); rintro e w37 ⟨rfl, hb⟩; have n0_ := Aside0.mk (below_step (by repeat (first | (with_reducible first | exact HB.out | apply below_alloc | apply pw_below_drewN | apply below_drew1) | exact HB.out)) hb); clear HB; have HB := n0_; clear n0_; (try clear hb); (try clear hb2); (try clear hk); (try clear hi)))
                      go_ret
                      exact ⟨by first | rfl | (simp [errW_none, errW_some] <;> rfl) | (simp [*, errW_none, errW_some] <;> rfl), by repeat (first | (with_reducible first | exact HB.out | apply below_alloc | apply pw_below_drewN | apply below_drew1) | exact HB.out)⟩
                  · rw [if_neg c24] at H
                    have c24b0 : (t157 == t160) = false := beq_eq_false_iff_ne.mpr c24
                    have c24b1 : (t157 != t160) = true := bne_iff_ne.mpr c24
                    obtain rfl := Option.some.inj H
                    go_wp2_with (first | ((with_reducible refine gate_callee (f := 11) rfl ?_); refine goesL_ (some 30) rfl rfl Tryd.func11 (by kernel_rfl) rfl #[.string a1, .int .i64 a2] rfl (by (try simp only [List.map_toArray, List.map_cons, List.map_nil]); first | done | rfl | (simp only [List.length_drop, List.length_take]; rfl)) ?_; (with_reducible refine (pack_GetUint.calls a1 a2 t151 t152 t153 _ A11.out).mono ?_); rintro e w38 ⟨rfl, hb⟩; refine ⟨_, rfl, ?_⟩; have n0_ := Aside0.mk (below_step (by repeat (first | (with_reducible first | exact HB.out | apply below_alloc | apply pw_below_drewN | apply below_drew1) | exact HB.out)) hb); clear HB; have HB := n0_; clear n0_; (try clear hb); (try clear hb2); (try clear hk); (try clear hi)) | ((with_reducible refine gate_callee (f := 13) rfl ?_); refine goesL_ (some 37) rfl rfl Tryd.func13 (by kernel_rfl) rfl #[.string a1, .int .i64 a2] rfl (by (try simp only [List.map_toArray, List.map_cons, List.map_nil]); first | done | rfl | (simp only [List.length_drop, List.length_take]; rfl)) ?_; (with_reducible refine (entrepotref21_GetUint.calls kj3 a1 a2 t154 t155 t156 _ A12.out).mono ?_); rintro e w' ⟨rfl, ⟨nd, rfl⟩⟩; refine ⟨_, rfl, ?_⟩) | ((with_reducible refine gate_callee (f := 14) rfl ?_); refine goesL_ (some 44) rfl rfl Tryd.func14 (by kernel_rfl) rfl #[.string a1, .int .i64 a2] rfl (by (try simp only [List.map_toArray, List.map_cons, List.map_nil]); first | done | rfl | (simp only [List.length_drop, List.length_take]; rfl)) ?_; (with_reducible refine (pack_GetInt.calls a1 a2 t157 t158 t159 _ A13.out).mono ?_); rintro e w39 ⟨rfl, hb⟩; refine ⟨_, rfl, ?_⟩; have n0_ := Aside0.mk (below_step (by repeat (first | (with_reducible first | exact HB.out | apply below_alloc | apply pw_below_drewN | apply below_drew1) | exact HB.out)) hb); clear HB; have HB := n0_; clear n0_; (try clear hb); (try clear hb2); (try clear hk); (try clear hi)) | ((with_reducible refine gate_callee (f := 15) rfl ?_); refine goesL_ (some 51) rfl rfl Tryd.func15 (by kernel_rfl) rfl #[.string a1, .int .i64 a2] rfl (by (try simp only [List.map_toArray, List.map_cons, List.map_nil]); first | done | rfl | (simp only [List.length_drop, List.length_take]; rfl)) ?_; (with_reducible refine (entrepotref21_GetInt.calls kj3 a1 a2 t160 t161 t162 _ A14.out).mono ?_); rintro e w' ⟨rfl, ⟨nd, rfl⟩⟩; refine ⟨_, rfl, ?_⟩) | ((with_reducible refine gate_callee (f := 9) rfl ?_); refine goesL_ (some 56) rfl rfl Tryd.func9 (by kernel_rfl) rfl #[.int .i64 a0] rfl (by (try simp only [List.map_toArray, List.map_cons, List.map_nil]); first | done | rfl | (simp only [List.length_drop, List.length_take]; rfl)) ?_; (with_reducible refine (pack_PutUint.calls kj3 a0 t163 _ A15.out).mono ?_); rintro e w40 ⟨rfl, hb⟩; refine ⟨_, rfl, ?_⟩; have n0_ := Aside0.mk (below_step (by repeat (first | (with_reducible first | exact HB.out | apply below_alloc | apply pw_below_drewN | apply below_drew1) | exact HB.out)) hb); clear HB; have HB := n0_; clear n0_; (try clear hb); (try clear hb2); (try clear hk); (try clear hi)) | ((with_reducible refine gate_callee (f := 16) rfl ?_); refine goesL_ (some 58) rfl rfl Tryd.func16 (by kernel_rfl) rfl #[.int .i64 a0] rfl (by (try simp only [List.map_toArray, List.map_cons, List.map_nil]); first | done | rfl | (simp only [List.length_drop, List.length_take]; rfl)) ?_; (with_reducible refine (entrepotref21_PutUint.calls kj3 a0 t164 _ A16.out).mono ?_); rintro e w41 ⟨rfl, hb⟩; refine ⟨_, rfl, ?_⟩; have n0_ := Aside0.mk (below_step (by repeat (first | (with_reducible first | exact HB.out | apply below_alloc | apply pw_below_drewN | apply below_drew1) | exact HB.out)) hb); clear HB; have HB := n0_; clear n0_; (try clear hb); (try clear hb2); (try clear hk); (try clear hi)) | (go_at_call 17; (with_reducible refine (pack_PutInt.calls kj3 a0 t165 _ A18.out).mono ?_); rintro e w42 ⟨rfl, hb⟩; have n0_ := Aside0.mk (below_step (by repeat (first | (with_reducible first | exact HB.out | apply below_alloc | apply pw_below_drewN | apply below_drew1) | exact HB.out)) hb); clear HB; have HB := n0_; clear n0_; (try clear hb); (try clear hb2); (try clear hk); (try clear hi)) | (go_at_call 18; (with_reducible refine (entrepotref21_PutInt.calls kj3 a0 t166 _ A19.out).mono ?_); rintro e w43 ⟨rfl, hb⟩; have n0_ := Aside0.mk (below_step (by repeat (first | (with_reducible first | exact HB.out | apply below_alloc | apply pw_below_drewN | apply below_drew1) | exact HB.out)) hb); clear HB; have HB := n0_; clear n0_; (try clear hb); (try clear hb2); (try clear hk); (try clear hi)))
                    go_ret
                    exact ⟨by first | rfl | (simp [errW_none, errW_some] <;> rfl) | (simp [*, errW_none, errW_some] <;> rfl), by repeat (first | (with_reducible first | exact HB.out | apply below_alloc | apply pw_below_drewN | apply below_drew1) | exact HB.out)⟩
                · rw [if_neg c23] at H
                  have c23b0 : (t153 == t156) = false := beq_eq_false_iff_ne.mpr c23
                  have c23b1 : (t153 != t156) = true := bne_iff_ne.mpr c23
                  obtain rfl := Option.some.inj H
                  go_wp2_with (first | ((with_reducible refine gate_callee (f := 11) rfl ?_); refine goesL_ (some 30) rfl rfl Tryd.func11 (by kernel_rfl) rfl #[.string a1, .int .i64 a2] rfl (by (try simp only [List.map_toArray, List.map_cons, List.map_nil]); first | done | rfl | (simp only [List.length_drop, List.length_take]; rfl)) ?_; (with_reducible refine (pack_GetUint.calls a1 a2 t151 t152 t153 _ A11.out).mono ?_); rintro e w44 ⟨rfl, hb⟩; refine ⟨_, rfl, ?_⟩; have n0_ := Aside0.mk (below_step (by repeat (first | (with_reducible first | exact HB.out | apply below_alloc | apply pw_below_drewN | apply below_drew1) | exact HB.out)) hb); clear HB; have HB := n0_; clear n0_; (try clear hb); (try clear hb2); (try clear hk); (try clear hi)) | ((with_reducible refine gate_callee (f := 13) rfl ?_); refine goesL_ (some 37) rfl rfl Tryd.func13 (by kernel_rfl) rfl #[.string a1, .int .i64 a2] rfl (by (try simp only [List.map_toArray, List.map_cons, List.map_nil]); first | done | rfl | (simp only [List.length_drop, List.length_take]; rfl)) ?_; (with_reducible refine (entrepotref21_GetUint.calls kj3 a1 a2 t154 t155 t156 _ A12.out).mono ?_); rintro e w' ⟨rfl, ⟨nd, rfl⟩⟩; refine ⟨_, rfl, ?_⟩) | ((with_reducible refine gate_callee (f := 14) rfl ?_); refine goesL_ (some 44) rfl rfl Tryd.func14 (by kernel_rfl) rfl #[.string a1, .int .i64 a2] rfl (by (try simp only [List.map_toArray, List.map_cons, List.map_nil]); first | done | rfl | (simp only [List.length_drop, List.length_take]; rfl)) ?_; (with_reducible refine (pack_GetInt.calls a1 a2 t157 t158 t159 _ A13.out).mono ?_); rintro e w45 ⟨rfl, hb⟩; refine ⟨_, rfl, ?_⟩; have n0_ := Aside0.mk (below_step (by repeat (first | (with_reducible first | exact HB.out | apply below_alloc | apply pw_below_drewN | apply below_drew1) | exact HB.out)) hb); clear HB; have HB := n0_; clear n0_; (try clear hb); (try clear hb2); (try clear hk); (try clear hi)) | ((with_reducible refine gate_callee (f := 15) rfl ?_); refine goesL_ (some 51) rfl rfl Tryd.func15 (by kernel_rfl) rfl #[.string a1, .int .i64 a2] rfl (by (try simp only [List.map_toArray, List.map_cons, List.map_nil]); first | done | rfl | (simp only [List.length_drop, List.length_take]; rfl)) ?_; (with_reducible refine (entrepotref21_GetInt.calls kj3 a1 a2 t160 t161 t162 _ A14.out).mono ?_); rintro e w' ⟨rfl, ⟨nd, rfl⟩⟩; refine ⟨_, rfl, ?_⟩) | ((with_reducible refine gate_callee (f := 9) rfl ?_); refine goesL_ (some 56) rfl rfl Tryd.func9 (by kernel_rfl) rfl #[.int .i64 a0] rfl (by (try simp only [List.map_toArray, List.map_cons, List.map_nil]); first | done | rfl | (simp only [List.length_drop, List.length_take]; rfl)) ?_; (with_reducible refine (pack_PutUint.calls kj3 a0 t163 _ A15.out).mono ?_); rintro e w46 ⟨rfl, hb⟩; refine ⟨_, rfl, ?_⟩; have n0_ := Aside0.mk (below_step (by repeat (first | (with_reducible first | exact HB.out | apply below_alloc | apply pw_below_drewN | apply below_drew1) | exact HB.out)) hb); clear HB; have HB := n0_; clear n0_; (try clear hb); (try clear hb2); (try clear hk); (try clear hi)) | ((with_reducible refine gate_callee (f := 16) rfl ?_); refine goesL_ (some 58) rfl rfl Tryd.func16 (by kernel_rfl) rfl #[.int .i64 a0] rfl (by (try simp only [List.map_toArray, List.map_cons, List.map_nil]); first | done | rfl | (simp only [List.length_drop, List.length_take]; rfl)) ?_; (with_reducible refine (entrepotref21_PutUint.calls kj3 a0 t164 _ A16.out).mono ?_); rintro e w47 ⟨rfl, hb⟩; refine ⟨_, rfl, ?_⟩; have n0_ := Aside0.mk (below_step (by repeat (first | (with_reducible first | exact HB.out | apply below_alloc | apply pw_below_drewN | apply below_drew1) | exact HB.out)) hb); clear HB; have HB := n0_; clear n0_; (try clear hb); (try clear hb2); (try clear hk); (try clear hi)) | (go_at_call 17; (with_reducible refine (pack_PutInt.calls kj3 a0 t165 _ A18.out).mono ?_); rintro e w48 ⟨rfl, hb⟩; have n0_ := Aside0.mk (below_step (by repeat (first | (with_reducible first | exact HB.out | apply below_alloc | apply pw_below_drewN | apply below_drew1) | exact HB.out)) hb); clear HB; have HB := n0_; clear n0_; (try clear hb); (try clear hb2); (try clear hk); (try clear hi)) | (go_at_call 18; (with_reducible refine (entrepotref21_PutInt.calls kj3 a0 t166 _ A19.out).mono ?_); rintro e w49 ⟨rfl, hb⟩; have n0_ := Aside0.mk (below_step (by repeat (first | (with_reducible first | exact HB.out | apply below_alloc | apply pw_below_drewN | apply below_drew1) | exact HB.out)) hb); clear HB; have HB := n0_; clear n0_; (try clear hb); (try clear hb2); (try clear hk); (try clear hi)))
                  go_ret
                  exact ⟨by first | rfl | (simp [errW_none, errW_some] <;> rfl) | (simp [*, errW_none, errW_some] <;> rfl), by repeat (first | (with_reducible first | exact HB.out | apply below_alloc | apply pw_below_drewN | apply below_drew1) | exact HB.out)⟩
              · rw [if_neg c22] at H
                have c22b0 : (t152 == t155) = false := beq_eq_false_iff_ne.mpr c22
                have c22b1 : (t152 != t155) = true := bne_iff_ne.mpr c22
                obtain rfl := Option.some.inj H
                go_wp2_with (first | ((with_reducible refine gate_callee (f := 11) rfl ?_); refine goesL_ (some 30) rfl rfl Tryd.func11 (by kernel_rfl) rfl #[.string a1, .int .i64 a2] rfl (by (try simp only [List.map_toArray, List.map_cons, List.map_nil]); first | done | rfl | (simp only [List.length_drop, List.length_take]; rfl)) ?_; (with_reducible refine (pack_GetUint.calls a1 a2 t151 t152 t153 _ A11.out).mono ?_); rintro e w50 ⟨rfl, hb⟩; refine ⟨_, rfl, ?_⟩; have n0_ := Aside0.mk (below_step (by repeat (first | (with_reducible first | exact HB.out | apply below_alloc | apply pw_below_drewN | apply below_drew1) | exact HB.out)) hb); clear HB; have HB := n0_; clear n0_; (try clear hb); (try clear hb2); (try clear hk); (try clear hi)) | ((with_reducible refine gate_callee (f := 13) rfl ?_); refine goesL_ (some 37) rfl rfl Tryd.func13 (by kernel_rfl) rfl #[.string a1, .int .i64 a2] rfl (by (try simp only [List.map_toArray, List.map_cons, List.map_nil]); first | done | rfl | (simp only [List.length_drop, List.length_take]; rfl)) ?_; (with_reducible refine (entrepotref21_GetUint.calls kj3 a1 a2 t154 t155 t156 _ A12.out).mono ?_); rintro e w' ⟨rfl, ⟨nd, rfl⟩⟩; refine ⟨_, rfl, ?_⟩) | ((with_reducible refine gate_callee (f := 14) rfl ?_); refine goesL_ (some 44) rfl rfl Tryd.func14 (by kernel_rfl) rfl #[.string a1, .int .i64 a2] rfl (by (try simp only [List.map_toArray, List.map_cons, List.map_nil]); first | done | rfl | (simp only [List.length_drop, List.length_take]; rfl)) ?_; (with_reducible refine (pack_GetInt.calls a1 a2 t157 t158 t159 _ A13.out).mono ?_); rintro e w51 ⟨rfl, hb⟩; refine ⟨_, rfl, ?_⟩; have n0_ := Aside0.mk (below_step (by repeat (first | (with_reducible first | exact HB.out | apply below_alloc | apply pw_below_drewN | apply below_drew1) | exact HB.out)) hb); clear HB; have HB := n0_; clear n0_; (try clear hb); (try clear hb2); (try clear hk); (try clear hi)) | ((with_reducible refine gate_callee (f := 15) rfl ?_); refine goesL_ (some 51) rfl rfl Tryd.func15 (by kernel_rfl) rfl #[.string a1, .int .i64 a2] rfl (by (try simp only [List.map_toArray, List.map_cons, List.map_nil]); first | done | rfl | (simp only [List.length_drop, List.length_take]; rfl)) ?_; (with_reducible refine (entrepotref21_GetInt.calls kj3 a1 a2 t160 t161 t162 _ A14.out).mono ?_); rintro e w' ⟨rfl, ⟨nd, rfl⟩⟩; refine ⟨_, rfl, ?_⟩) | ((with_reducible refine gate_callee (f := 9) rfl ?_); refine goesL_ (some 56) rfl rfl Tryd.func9 (by kernel_rfl) rfl #[.int .i64 a0] rfl (by (try simp only [List.map_toArray, List.map_cons, List.map_nil]); first | done | rfl | (simp only [List.length_drop, List.length_take]; rfl)) ?_; (with_reducible refine (pack_PutUint.calls kj3 a0 t163 _ A15.out).mono ?_); rintro e w52 ⟨rfl, hb⟩; refine ⟨_, rfl, ?_⟩; have n0_ := Aside0.mk (below_step (by repeat (first | (with_reducible first | exact HB.out | apply below_alloc | apply pw_below_drewN | apply below_drew1) | exact HB.out)) hb); clear HB; have HB := n0_; clear n0_; (try clear hb); (try clear hb2); (try clear hk); (try clear hi)) | ((with_reducible refine gate_callee (f := 16) rfl ?_); refine goesL_ (some 58) rfl rfl Tryd.func16 (by kernel_rfl) rfl #[.int .i64 a0] rfl (by (try simp only [List.map_toArray, List.map_cons, List.map_nil]); first | done | rfl | (simp only [List.length_drop, List.length_take]; rfl)) ?_; (with_reducible refine (entrepotref21_PutUint.calls kj3 a0 t164 _ A16.out).mono ?_); rintro e w53 ⟨rfl, hb⟩; refine ⟨_, rfl, ?_⟩; have n0_ := Aside0.mk (below_step (by repeat (first | (with_reducible first | exact HB.out | apply below_alloc | apply pw_below_drewN | apply below_drew1) | exact HB.out)) hb); clear HB; have HB := n0_; clear n0_; (try clear hb); (try clear hb2); (try clear hk); (try clear hi)) | (go_at_call 17; (with_reducible refine (pack_PutInt.calls kj3 a0 t165 _ A18.out).mono ?_); rintro e w54 ⟨rfl, hb⟩; have n0_ := Aside0.mk (below_step (by repeat (first | (with_reducible first | exact HB.out | apply below_alloc | apply pw_below_drewN | apply below_drew1) | exact HB.out)) hb); clear HB; have HB := n0_; clear n0_; (try clear hb); (try clear hb2); (try clear hk); (try clear hi)) | (go_at_call 18; (with_reducible refine (entrepotref21_PutInt.calls kj3 a0 t166 _ A19.out).mono ?_); rintro e w55 ⟨rfl, hb⟩; have n0_ := Aside0.mk (below_step (by repeat (first | (with_reducible first | exact HB.out | apply below_alloc | apply pw_below_drewN | apply below_drew1) | exact HB.out)) hb); clear HB; have HB := n0_; clear n0_; (try clear hb); (try clear hb2); (try clear hk); (try clear hi)))
                go_ret
                exact ⟨by first | rfl | (simp [errW_none, errW_some] <;> rfl) | (simp [*, errW_none, errW_some] <;> rfl), by repeat (first | (with_reducible first | exact HB.out | apply below_alloc | apply pw_below_drewN | apply below_drew1) | exact HB.out)⟩
            · rw [if_neg c21] at H
              have c21b0 : (t151 == t154) = false := beq_eq_false_iff_ne.mpr c21
              have c21b1 : (t151 != t154) = true := bne_iff_ne.mpr c21
              obtain rfl := Option.some.inj H
              go_wp2_with (first | ((with_reducible refine gate_callee (f := 11) rfl ?_); refine goesL_ (some 30) rfl rfl Tryd.func11 (by kernel_rfl) rfl #[.string a1, .int .i64 a2] rfl (by (try simp only [List.map_toArray, List.map_cons, List.map_nil]); first | done | rfl | (simp only [List.length_drop, List.length_take]; rfl)) ?_; (with_reducible refine (pack_GetUint.calls a1 a2 t151 t152 t153 _ A11.out).mono ?_); rintro e w56 ⟨rfl, hb⟩; refine ⟨_, rfl, ?_⟩; have n0_ := Aside0.mk (below_step (by repeat (first | (with_reducible first | exact HB.out | apply below_alloc | apply pw_below_drewN | apply below_drew1) | exact HB.out)) hb); clear HB; have HB := n0_; clear n0_; (try clear hb); (try clear hb2); (try clear hk); (try clear hi)) | ((with_reducible refine gate_callee (f := 13) rfl ?_); refine goesL_ (some 37) rfl rfl Tryd.func13 (by kernel_rfl) rfl #[.string a1, .int .i64 a2] rfl (by (try simp only [List.map_toArray, List.map_cons, List.map_nil]); first | done | rfl | (simp only [List.length_drop, List.length_take]; rfl)) ?_; (with_reducible refine (entrepotref21_GetUint.calls kj3 a1 a2 t154 t155 t156 _ A12.out).mono ?_); rintro e w' ⟨rfl, ⟨nd, rfl⟩⟩; refine ⟨_, rfl, ?_⟩) | ((with_reducible refine gate_callee (f := 14) rfl ?_); refine goesL_ (some 44) rfl rfl Tryd.func14 (by kernel_rfl) rfl #[.string a1, .int .i64 a2] rfl (by (try simp only [List.map_toArray, List.map_cons, List.map_nil]); first | done | rfl | (simp only [List.length_drop, List.length_take]; rfl)) ?_; (with_reducible refine (pack_GetInt.calls a1 a2 t157 t158 t159 _ A13.out).mono ?_); rintro e w57 ⟨rfl, hb⟩; refine ⟨_, rfl, ?_⟩; have n0_ := Aside0.mk (below_step (by repeat (first | (with_reducible first | exact HB.out | apply below_alloc | apply pw_below_drewN | apply below_drew1) | exact HB.out)) hb); clear HB; have HB := n0_; clear n0_; (try clear hb); (try clear hb2); (try clear hk); (try clear hi)) | ((with_reducible refine gate_callee (f := 15) rfl ?_); refine goesL_ (some 51) rfl rfl Tryd.func15 (by kernel_rfl) rfl #[.string a1, .int .i64 a2] rfl (by (try simp only [List.map_toArray, List.map_cons, List.map_nil]); first | done | rfl | (simp only [List.length_drop, List.length_take]; rfl)) ?_; (with_reducible refine (entrepotref21_GetInt.calls kj3 a1 a2 t160 t161 t162 _ A14.out).mono ?_); rintro e w' ⟨rfl, ⟨nd, rfl⟩⟩; refine ⟨_, rfl, ?_⟩) | ((with_reducible refine gate_callee (f := 9) rfl ?_); refine goesL_ (some 56) rfl rfl Tryd.func9 (by kernel_rfl) rfl #[.int .i64 a0] rfl (by (try simp only [List.map_toArray, List.map_cons, List.map_nil]); first | done | rfl | (simp only [List.length_drop, List.length_take]; rfl)) ?_; (with_reducible refine (pack_PutUint.calls kj3 a0 t163 _ A15.out).mono ?_); rintro e w58 ⟨rfl, hb⟩; refine ⟨_, rfl, ?_⟩; have n0_ := Aside0.mk (below_step (by repeat (first | (with_reducible first | exact HB.out | apply below_alloc | apply pw_below_drewN | apply below_drew1) | exact HB.out)) hb); clear HB; have HB := n0_; clear n0_; (try clear hb); (try clear hb2); (try clear hk); (try clear hi)) | ((with_reducible refine gate_callee (f := 16) rfl ?_); refine goesL_ (some 58) rfl rfl Tryd.func16 (by kernel_rfl) rfl #[.int .i64 a0] rfl (by (try simp only [List.map_toArray, List.map_cons, List.map_nil]); first | done | rfl | (simp only [List.length_drop, List.length_take]; rfl)) ?_; (with_reducible refine (entrepotref21_PutUint.calls kj3 a0 t164 _ A16.out).mono ?_); rintro e w59 ⟨rfl, hb⟩; refine ⟨_, rfl, ?_⟩; have n0_ := Aside0.mk (below_step (by repeat (first | (with_reducible first | exact HB.out | apply below_alloc | apply pw_below_drewN | apply below_drew1) | exact HB.out)) hb); clear HB; have HB := n0_; clear n0_; (try clear hb); (try clear hb2); (try clear hk); (try clear hi)) | (go_at_call 17; (with_reducible refine (pack_PutInt.calls kj3 a0 t165 _ A18.out).mono ?_); rintro e w60 ⟨rfl, hb⟩; have n0_ := Aside0.mk (below_step (by repeat (first | (with_reducible first | exact HB.out | apply below_alloc | apply pw_below_drewN | apply below_drew1) | exact HB.out)) hb); clear HB; have HB := n0_; clear n0_; (try clear hb); (try clear hb2); (try clear hk); (try clear hi)) | (go_at_call 18; (with_reducible refine (entrepotref21_PutInt.calls kj3 a0 t166 _ A19.out).mono ?_); rintro e w61 ⟨rfl, hb⟩; have n0_ := Aside0.mk (below_step (by repeat (first | (with_reducible first | exact HB.out | apply below_alloc | apply pw_below_drewN | apply below_drew1) | exact HB.out)) hb); clear HB; have HB := n0_; clear n0_; (try clear hb); (try clear hb2); (try clear hk); (try clear hi)))
              go_ret
              exact ⟨by first | rfl | (simp [errW_none, errW_some] <;> rfl) | (simp [*, errW_none, errW_some] <;> rfl), by repeat (first | (with_reducible first | exact HB.out | apply below_alloc | apply pw_below_drewN | apply below_drew1) | exact HB.out)⟩
          · rw [if_neg c20] at H
            have c20b0 : (t165.toList == t166.toList) = false := beq_eq_false_iff_ne.mpr c20
            have c20b1 : (t165.toList != t166.toList) = true := bne_iff_ne.mpr c20
            obtain rfl := Option.some.inj H
            go_wp2_with (first | ((with_reducible refine gate_callee (f := 11) rfl ?_); refine goesL_ (some 30) rfl rfl Tryd.func11 (by kernel_rfl) rfl #[.string a1, .int .i64 a2] rfl (by (try simp only [List.map_toArray, List.map_cons, List.map_nil]); first | done | rfl | (simp only [List.length_drop, List.length_take]; rfl)) ?_; (with_reducible refine (pack_GetUint.calls a1 a2 t151 t152 t153 _ A11.out).mono ?_); rintro e w62 ⟨rfl, hb⟩; refine ⟨_, rfl, ?_⟩; have n0_ := Aside0.mk (below_step (by repeat (first | (with_reducible first | exact HB.out | apply below_alloc | apply pw_below_drewN | apply below_drew1) | exact HB.out)) hb); clear HB; have HB := n0_; clear n0_; (try clear hb); (try clear hb2); (try clear hk); (try clear hi)) | ((with_reducible refine gate_callee (f := 13) rfl ?_); refine goesL_ (some 37) rfl rfl Tryd.func13 (by kernel_rfl) rfl #[.string a1, .int .i64 a2] rfl (by (try simp only [List.map_toArray, List.map_cons, List.map_nil]); first | done | rfl | (simp only [List.length_drop, List.length_take]; rfl)) ?_; (with_reducible refine (entrepotref21_GetUint.calls kj3 a1 a2 t154 t155 t156 _ A12.out).mono ?_); rintro e w' ⟨rfl, ⟨nd, rfl⟩⟩; refine ⟨_, rfl, ?_⟩) | ((with_reducible refine gate_callee (f := 14) rfl ?_); refine goesL_ (some 44) rfl rfl Tryd.func14 (by kernel_rfl) rfl #[.string a1, .int .i64 a2] rfl (by (try simp only [List.map_toArray, List.map_cons, List.map_nil]); first | done | rfl | (simp only [List.length_drop, List.length_take]; rfl)) ?_; (with_reducible refine (pack_GetInt.calls a1 a2 t157 t158 t159 _ A13.out).mono ?_); rintro e w63 ⟨rfl, hb⟩; refine ⟨_, rfl, ?_⟩; have n0_ := Aside0.mk (below_step (by repeat (first | (with_reducible first | exact HB.out | apply below_alloc | apply pw_below_drewN | apply below_drew1) | exact HB.out)) hb); clear HB; have HB := n0_; clear n0_; (try clear hb); (try clear hb2); (try clear hk); (try clear hi)) | ((with_reducible refine gate_callee (f := 15) rfl ?_); refine goesL_ (some 51) rfl rfl Tryd.func15 (by kernel_rfl) rfl #[.string a1, .int .i64 a2] rfl (by (try simp only [List.map_toArray, List.map_cons, List.map_nil]); first | done | rfl | (simp only [List.length_drop, List.length_take]; rfl)) ?_; (with_reducible refine (entrepotref21_GetInt.calls kj3 a1 a2 t160 t161 t162 _ A14.out).mono ?_); rintro e w' ⟨rfl, ⟨nd, rfl⟩⟩; refine ⟨_, rfl, ?_⟩) | ((with_reducible refine gate_callee (f := 9) rfl ?_); refine goesL_ (some 56) rfl rfl Tryd.func9 (by kernel_rfl) rfl #[.int .i64 a0] rfl (by (try simp only [List.map_toArray, List.map_cons, List.map_nil]); first | done | rfl | (simp only [List.length_drop, List.length_take]; rfl)) ?_; (with_reducible refine (pack_PutUint.calls kj3 a0 t163 _ A15.out).mono ?_); rintro e w64 ⟨rfl, hb⟩; refine ⟨_, rfl, ?_⟩; have n0_ := Aside0.mk (below_step (by repeat (first | (with_reducible first | exact HB.out | apply below_alloc | apply pw_below_drewN | apply below_drew1) | exact HB.out)) hb); clear HB; have HB := n0_; clear n0_; (try clear hb); (try clear hb2); (try clear hk); (try clear hi)) | ((with_reducible refine gate_callee (f := 16) rfl ?_); refine goesL_ (some 58) rfl rfl Tryd.func16 (by kernel_rfl) rfl #[.int .i64 a0] rfl (by (try simp only [List.map_toArray, List.map_cons, List.map_nil]); first | done | rfl | (simp only [List.length_drop, List.length_take]; rfl)) ?_; (with_reducible refine (entrepotref21_PutUint.calls kj3 a0 t164 _ A16.out).mono ?_); rintro e w65 ⟨rfl, hb⟩; refine ⟨_, rfl, ?_⟩; have n0_ := Aside0.mk (below_step (by repeat (first | (with_reducible first | exact HB.out | apply below_alloc | apply pw_below_drewN | apply below_drew1) | exact HB.out)) hb); clear HB; have HB := n0_; clear n0_; (try clear hb); (try clear hb2); (try clear hk); (try clear hi)) | (go_at_call 17; (with_reducible refine (pack_PutInt.calls kj3 a0 t165 _ A18.out).mono ?_); rintro e w66 ⟨rfl, hb⟩; have n0_ := Aside0.mk (below_step (by repeat (first | (with_reducible first | exact HB.out | apply below_alloc | apply pw_below_drewN | apply below_drew1) | exact HB.out)) hb); clear HB; have HB := n0_; clear n0_; (try clear hb); (try clear hb2); (try clear hk); (try clear hi)) | (go_at_call 18; (with_reducible refine (entrepotref21_PutInt.calls kj3 a0 t166 _ A19.out).mono ?_); rintro e w67 ⟨rfl, hb⟩; have n0_ := Aside0.mk (below_step (by repeat (first | (with_reducible first | exact HB.out | apply below_alloc | apply pw_below_drewN | apply below_drew1) | exact HB.out)) hb); clear HB; have HB := n0_; clear n0_; (try clear hb); (try clear hb2); (try clear hk); (try clear hi)))
            go_ret
            exact ⟨by first | rfl | (simp [errW_none, errW_some] <;> rfl) | (simp [*, errW_none, errW_some] <;> rfl), by repeat (first | (with_reducible first | exact HB.out | apply below_alloc | apply pw_below_drewN | apply below_drew1) | exact HB.out)⟩
        · rw [if_neg c17] at H
          have c17b0 : (t163.toList == t164.toList) = false := beq_eq_false_iff_ne.mpr c17
          have c17b1 : (t163.toList != t164.toList) = true := bne_iff_ne.mpr c17
          obtain rfl := Option.some.inj H
          go_wp2_with (first | ((with_reducible refine gate_callee (f := 11) rfl ?_); refine goesL_ (some 30) rfl rfl Tryd.func11 (by kernel_rfl) rfl #[.string a1, .int .i64 a2] rfl (by (try simp only [List.map_toArray, List.map_cons, List.map_nil]); first | done | rfl | (simp only [List.length_drop, List.length_take]; rfl)) ?_; (with_reducible refine (pack_GetUint.calls a1 a2 t151 t152 t153 _ A11.out).mono ?_); rintro e w68 ⟨rfl, hb⟩; refine ⟨_, rfl, ?_⟩; have n0_ := Aside0.mk (below_step (by repeat (first | (with_reducible first | exact HB.out | apply below_alloc | apply pw_below_drewN | apply below_drew1) | exact HB.out)) hb); clear HB; have HB := n0_; clear n0_; (try clear hb); (try clear hb2); (try clear hk); (try clear hi)) | ((with_reducible refine gate_callee (f := 13) rfl ?_); refine goesL_ (some 37) rfl rfl Tryd.func13 (by kernel_rfl) rfl #[.string a1, .int .i64 a2] rfl (by (try simp only [List.map_toArray, List.map_cons, List.map_nil]); first | done | rfl | (simp only [List.length_drop, List.length_take]; rfl)) ?_; (with_reducible refine (entrepotref21_GetUint.calls kj3 a1 a2 t154 t155 t156 _ A12.out).mono ?_); rintro e w' ⟨rfl, ⟨nd, rfl⟩⟩; refine ⟨_, rfl, ?_⟩) | ((with_reducible refine gate_callee (f := 14) rfl ?_); refine goesL_ (some 44) rfl rfl Tryd.func14 (by kernel_rfl) rfl #[.string a1, .int .i64 a2] rfl (by (try simp only [List.map_toArray, List.map_cons, List.map_nil]); first | done | rfl | (simp only [List.length_drop, List.length_take]; rfl)) ?_; (with_reducible refine (pack_GetInt.calls a1 a2 t157 t158 t159 _ A13.out).mono ?_); rintro e w69 ⟨rfl, hb⟩; refine ⟨_, rfl, ?_⟩; have n0_ := Aside0.mk (below_step (by repeat (first | (with_reducible first | exact HB.out | apply below_alloc | apply pw_below_drewN | apply below_drew1) | exact HB.out)) hb); clear HB; have HB := n0_; clear n0_; (try clear hb); (try clear hb2); (try clear hk); (try clear hi)) | ((with_reducible refine gate_callee (f := 15) rfl ?_); refine goesL_ (some 51) rfl rfl Tryd.func15 (by kernel_rfl) rfl #[.string a1, .int .i64 a2] rfl (by (try simp only [List.map_toArray, List.map_cons, List.map_nil]); first | done | rfl | (simp only [List.length_drop, List.length_take]; rfl)) ?_; (with_reducible refine (entrepotref21_GetInt.calls kj3 a1 a2 t160 t161 t162 _ A14.out).mono ?_); rintro e w' ⟨rfl, ⟨nd, rfl⟩⟩; refine ⟨_, rfl, ?_⟩) | ((with_reducible refine gate_callee (f := 9) rfl ?_); refine goesL_ (some 56) rfl rfl Tryd.func9 (by kernel_rfl) rfl #[.int .i64 a0] rfl (by (try simp only [List.map_toArray, List.map_cons, List.map_nil]); first | done | rfl | (simp only [List.length_drop, List.length_take]; rfl)) ?_; (with_reducible refine (pack_PutUint.calls kj3 a0 t163 _ A15.out).mono ?_); rintro e w70 ⟨rfl, hb⟩; refine ⟨_, rfl, ?_⟩; have n0_ := Aside0.mk (below_step (by repeat (first | (with_reducible first | exact HB.out | apply below_alloc | apply pw_below_drewN | apply below_drew1) | exact HB.out)) hb); clear HB; have HB := n0_; clear n0_; (try clear hb); (try clear hb2); (try clear hk); (try clear hi)) | ((with_reducible refine gate_callee (f := 16) rfl ?_); refine goesL_ (some 58) rfl rfl Tryd.func16 (by kernel_rfl) rfl #[.int .i64 a0] rfl (by (try simp only [List.map_toArray, List.map_cons, List.map_nil]); first | done | rfl | (simp only [List.length_drop, List.length_take]; rfl)) ?_; (with_reducible refine (entrepotref21_PutUint.calls kj3 a0 t164 _ A16.out).mono ?_); rintro e w71 ⟨rfl, hb⟩; refine ⟨_, rfl, ?_⟩; have n0_ := Aside0.mk (below_step (by repeat (first | (with_reducible first | exact HB.out | apply below_alloc | apply pw_below_drewN | apply below_drew1) | exact HB.out)) hb); clear HB; have HB := n0_; clear n0_; (try clear hb); (try clear hb2); (try clear hk); (try clear hi)))
          go_ret
          exact ⟨by first | rfl | (simp [errW_none, errW_some] <;> rfl) | (simp [*, errW_none, errW_some] <;> rfl), by repeat (first | (with_reducible first | exact HB.out | apply below_alloc | apply pw_below_drewN | apply below_drew1) | exact HB.out)⟩

/-- THE ONE PURE STATEMENT of entrepotlaw21_PackNumbers: yours. -/
def entrepotlaw21_PackNumbers.Pure : Prop := ∀ (a0 : Int) (a1 : ByteArray) (a2 : Int), (Lit.int .i64 a0).wf = true → a1.size ≤ 140737488351232 → (Lit.int .i64 a2).wf = true → ∃ k, entrepotlaw21_PackNumbers.f k a0 a1 a2 = some true
theorem entrepotlaw21_PackNumbers.walk (P : entrepotlaw21_PackNumbers.Pure) (a0 : Int) (a1 : ByteArray) (a2 : Int) (w : World) (HT : Tab w) (w0 : (Lit.int .i64 a0).wf = true) (w1 : a1.size ≤ 140737488351232) (w2 : (Lit.int .i64 a2).wf = true) :
    Calls Tryd.prog 4 #[.int .i64 a0, .string a1, .int .i64 a2] w fun e w' => e = .returned (.bool true) ∧ Below w.heap.size w w' := by
  obtain ⟨k, h⟩ := P a0 a1 a2 w0 w1 w2
  refine (entrepotlaw21_PackNumbers.calls k a0 a1 a2 true w HT h).mono ?_
  rintro e w' ⟨rfl, hd⟩
  exact ⟨rfl, hd⟩

/-! ### pack_Seal: function 19 -/
def pack_Seal.f (a0 : ByteArray) : Option (ByteArray) := (pack_Sum.f a0).bind fun t167 => ((some (([(t167) % 256, (t167 / 256) % 256, (t167 / 65536) % 256, (t167 / 16777216) % 256] : List Int) : List Int)).bind fun y168 => (if a0.size + (strOfNums y168).size ≤ 9223372036854775807 then (some (a0 ++ (strOfNums y168))) else (none)))
set_option maxHeartbeats 8000000 in
set_option maxRecDepth 100000 in
theorem pack_Seal.calls (a0 : ByteArray) (r : ByteArray) (w : World) (HT : Tab w) (h : pack_Seal.f a0 = some r) :
    Calls Tryd.prog 19 #[.string a0] w fun e w' => e = .returned (.string r) ∧ Below w.heap.size w w' := by
  have HB := Aside0.mk (Below.refl w.heap.size w)
  have H : ((pack_Sum.f a0).bind fun t167 => ((some (([(t167) % 256, (t167 / 256) % 256, (t167 / 65536) % 256, (t167 / 16777216) % 256] : List Int) : List Int)).bind fun y168 => (if a0.size + (strOfNums y168).size ≤ 9223372036854775807 then (some (a0 ++ (strOfNums y168))) else (none)))) = some r := h
  clear h
  replace H := Option.bind_eq_some_iff.mp H
  obtain ⟨t167, A20, H⟩ := H
  replace H : ((some (([(t167) % 256, (t167 / 256) % 256, (t167 / 65536) % 256, (t167 / 16777216) % 256] : List Int) : List Int)).bind fun y168 => (if a0.size + (strOfNums y168).size ≤ 9223372036854775807 then (some (a0 ++ (strOfNums y168))) else (none))) = some r := H
  have A2 := Aside0.mk A20
  clear A20
  obtain ⟨y168, hy168⟩ : ∃ y_ : List Int, y_ = (([(t167) % 256, (t167 / 256) % 256, (t167 / 65536) % 256, (t167 / 16777216) % 256] : List Int)) := ⟨_, rfl⟩
  replace H : (if a0.size + (strOfNums y168).size ≤ 9223372036854775807 then (some (a0 ++ (strOfNums y168))) else (none)) = some r := by first | (rw [hy168]; with_reducible exact H) | (have H2_ := (Option.bind_some _ _).symm.trans H; rw [hy168]; with_reducible exact H2_) | (have H2_ := (Option.bind_some _ _).symm.trans H; with_reducible exact H2_) | with_reducible exact H | (rw [hy168]; exact H) | exact H
  have Ny168 := Aside0.mk hy168
  clear hy168
  by_cases c3 : a0.size + (strOfNums y168).size ≤ 9223372036854775807
  · rw [if_pos c3] at H
    have c3b0 := eq_true c3
    have c3b1 : decide (a0.size + (strOfNums y168).size ≤ 9223372036854775807) = true := decide_eq_true c3
    try have c3b2 : (9223372036854775807 < a0.size + (strOfNums y168).size) = False := eq_false (Nat.not_lt.2 c3)
    obtain rfl := Option.some.inj H
    go_enter Tryd.func19, Tryd.ntmps19
    go_wp2_with (first | ((with_reducible refine gate_callee (f := 24) rfl ?_); refine goesL_ (some 5) rfl rfl Tryd.func24 (by kernel_rfl) rfl #[.string a0] rfl (by (try simp only [List.map_toArray, List.map_cons, List.map_nil]); first | done | rfl | (simp only [List.length_drop, List.length_take]; rfl)) ?_; (with_reducible refine (pack_Sum.calls a0 t167 _ (Tab.below HT (by repeat (first | (with_reducible first | exact HB.out | apply below_alloc | apply pw_below_drewN | apply below_drew1) | exact HB.out))) A2.out).mono ?_); rintro e w4 ⟨rfl, hb⟩; refine ⟨_, rfl, ?_⟩; have n0_ := Aside0.mk (below_step (by repeat (first | (with_reducible first | exact HB.out | apply below_alloc | apply pw_below_drewN | apply below_drew1) | exact HB.out)) hb); clear HB; have HB := n0_; clear n0_; (try clear hb); (try clear hb2); (try clear hk); (try clear hi)) | ((with_reducible refine gate_dst (N := 18) rfl ?_); refine Kd.R_lit (Kd.int .u8) _ 5 ?hg (N := 18) ?hd (xs := ([(t167) % 256, (t167 / 256) % 256, (t167 / 65536) % 256, (t167 / 16777216) % 256] : List Int)) (inner := [.int .u8 ((t167) % 256), .int .u8 ((t167 / 256) % 256), .int .u8 ((t167 / 65536) % 256), .int .u8 ((t167 / 16777216) % 256)]) (ok := fun _ => True) (okp := fun _ => True) ?hr ?hp (fun _ hk => hk) trivial (Below.refl _ _) (Nat.le_refl _) (by simp) ?_; (case hd => rfl); (case hg => rfl); (case hr => first | (go_simp; done) | (go_simp; rfl)); (case hp => exact (Reps.one (show Kd.M (Kd.int .u8) _ _ _ ((t167) % 256) [.int .u8 ((t167) % 256)] from rfl) (Reps.one (show Kd.M (Kd.int .u8) _ _ _ ((t167 / 256) % 256) [.int .u8 ((t167 / 256) % 256)] from rfl) (Reps.one (show Kd.M (Kd.int .u8) _ _ _ ((t167 / 65536) % 256) [.int .u8 ((t167 / 65536) % 256)] from rfl) (Reps.one (show Kd.M (Kd.int .u8) _ _ _ ((t167 / 16777216) % 256) [.int .u8 ((t167 / 16777216) % 256)] from rfl) (Reps.none _ _)))))); intro v169 w5 ho6 hb hg_ hnew_; clear hg_ hnew_; (first | rw [← Ny168.out] at ho6 | (simp only [Int.reduceToNat] at ho6; rw [← Ny168.out] at ho6)); have n0_ := Aside0.mk (Kd.R_lower ho6 (below_size (by repeat (first | (with_reducible first | exact HB.out | apply below_alloc | apply pw_below_drewN | apply below_drew1) | exact HB.out)))); have n1_ := Aside0.mk (below_step (by repeat (first | (with_reducible first | exact HB.out | apply below_alloc | apply pw_below_drewN | apply below_drew1) | exact HB.out)) hb); clear HB; have HO170 := n0_; have HB := n1_; clear n0_ n1_; clear hb ho6; have hcv7 := own_string (P := Tryd.prog) Tryd.underlying33 Tryd.underlying5 Tryd.underlying9 (Kd.own_of_R HO170.out)))
    go_ret
    exact ⟨by first | rfl | (simp [errW_none, errW_some] <;> rfl) | (simp [*, errW_none, errW_some] <;> rfl), by repeat (first | (with_reducible first | exact HB.out | apply below_alloc | apply pw_below_drewN | apply below_drew1) | exact HB.out)⟩
  · rw [if_neg c3] at H
    exact absurd H (by simp)

end Go.Proofs.YtbcahalbjegjgaaDoor.PAll
