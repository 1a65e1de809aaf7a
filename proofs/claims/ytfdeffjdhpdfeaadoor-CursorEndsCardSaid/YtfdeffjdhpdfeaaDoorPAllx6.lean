-- Written by a program out of the translation, for several roots at once (set All). Not trusted: Lean checks it.
import Derived.Test.YtfdeffjdhpdfeaaDoorPAllx0
import Derived.Test.YtfdeffjdhpdfeaaDoorPAllx3
import Derived.Test.YtfdeffjdhpdfeaaDoorGivenD
namespace Go.Proofs.YtfdeffjdhpdfeaaDoor.PAll
open Go.RowKit Go.Proofs.YtfdeffjdhpdfeaaDoorW.PrintWords Go.Proofs.YtfdeffjdhpdfeaaDoorW.PrintLast Go.Proofs.YtfdeffjdhpdfeaaDoorW.PrintMore
attribute [local go_sem] max2_int min2_int max_two min_two max_three min_three max_four min_four   -- for this text's walks alone
set_option linter.unusedVariables false
set_option linter.unusedSimpArgs false

/-! ### entrepotref01_Where: function 19 -/
mutual
def entrepotref01_Where.j0 : Nat → ByteArray → Int → Bool → Option (Int × Int × Int)
  | 0, _, _, _ => none
  | k + 1, x0, x1, x17 => if x17 = true then (some (0, 0, 10)) else (entrepotref01_Where.l0 k x0 x1 1 1 0)
def entrepotref01_Where.l0 : Nat → ByteArray → Int → Int → Int → Int → Option (Int × Int × Int)
  | 0, _, _, _, _, _ => none
  | k + 1, x0, x1, x7, x8, x9 => if x9 < x1 then (if 0 ≤ x9 then (if x9 < (x0.size : Int) then (if (bt x0 x9) = 10 then (entrepotref01_Where.l0 k x0 x1 (wrap64 (x7 + 1)) 1 (wrap64 (x9 + 1))) else (entrepotref01_Where.l0 k x0 x1 x7 (wrap64 (x8 + 1)) (wrap64 (x9 + 1)))) else (none)) else (none)) else (some (x7, x8, 0))
end
def entrepotref01_Where.f (k : Nat) (a0 : ByteArray) (a1 : Int) : Option (Int × Int × Int) := if a1 < 0 then (entrepotref01_Where.j0 k a0 a1 true) else (entrepotref01_Where.j0 k a0 a1 (decide (a1 > (a0.size : Int))))
theorem entrepotref01_Where.mono_l : ∀ k, (∀ y0 y1 y2, LeO (entrepotref01_Where.j0 k y0 y1 y2) (entrepotref01_Where.j0 (k + 1) y0 y1 y2)) ∧ (∀ y0 y1 y2 y3 y4, LeO (entrepotref01_Where.l0 k y0 y1 y2 y3 y4) (entrepotref01_Where.l0 (k + 1) y0 y1 y2 y3 y4))
  | 0 => ⟨fun _ _ _ r h => by simp [entrepotref01_Where.j0] at h, fun _ _ _ _ _ r h => by simp [entrepotref01_Where.l0] at h⟩
  | k + 1 => by
    obtain ⟨ih0, ih1⟩ := entrepotref01_Where.mono_l k
    refine ⟨?_, ?_⟩
    · intro y0 y1 y2
      unfold entrepotref01_Where.j0
      repeat' first
      | (with_reducible exact ih0 _ _ _)
      | (with_reducible exact ih1 _ _ _ _ _)
      | (with_reducible exact LeO.refl _)
      | (with_reducible exact LeO.none _)
      | (with_reducible refine LeO.ite ?_ ?_)
      | (with_reducible refine LeO.bind ?_ (fun _ => ?_))
      | exact ih0 _ _ _
      | exact ih1 _ _ _ _ _
      | exact LeO.none _
      | refine LeO.ite ?_ ?_
      | refine LeO.bind ?_ (fun _ => ?_)
    · intro y0 y1 y2 y3 y4
      unfold entrepotref01_Where.l0
      repeat' first
      | (with_reducible exact ih0 _ _ _)
      | (with_reducible exact ih1 _ _ _ _ _)
      | (with_reducible exact LeO.refl _)
      | (with_reducible exact LeO.none _)
      | (with_reducible refine LeO.ite ?_ ?_)
      | (with_reducible refine LeO.bind ?_ (fun _ => ?_))
      | exact ih0 _ _ _
      | exact ih1 _ _ _ _ _
      | exact LeO.none _
      | refine LeO.ite ?_ ?_
      | refine LeO.bind ?_ (fun _ => ?_)
theorem entrepotref01_Where.mono : ∀ a0 a1 k, LeO (entrepotref01_Where.f k a0 a1) (entrepotref01_Where.f (k + 1) a0 a1) := by
  intro a0 a1 k
  obtain ⟨ih0, ih1⟩ := entrepotref01_Where.mono_l k
  unfold entrepotref01_Where.f
  repeat' first
      | (with_reducible exact ih0 _ _ _)
      | (with_reducible exact ih1 _ _ _ _ _)
      | (with_reducible exact LeO.refl _)
      | (with_reducible exact LeO.none _)
      | (with_reducible refine LeO.ite ?_ ?_)
      | (with_reducible refine LeO.bind ?_ (fun _ => ?_))
      | exact ih0 _ _ _
      | exact ih1 _ _ _ _ _
      | exact LeO.none _
      | refine LeO.ite ?_ ?_
      | refine LeO.bind ?_ (fun _ => ?_)
set_option maxHeartbeats 8000000 in
set_option maxRecDepth 100000 in
theorem entrepotref01_Where.calls (k : Nat) (a0 : ByteArray) (a1 : Int) (r1 : Int) (r2 : Int) (r3 : Int) (w : World) (h : entrepotref01_Where.f k a0 a1 = some (r1, r2, r3)) :
    Calls Tryd.prog 19 #[.string a0, .int .i64 a1] w fun e w' => e = .returned (.tuple #[.int .i64 r1, .int .i64 r2, .int .i64 r3]) ∧ Drawn0 w w' := by
  have H : (if a1 < 0 then (entrepotref01_Where.j0 k a0 a1 true) else (entrepotref01_Where.j0 k a0 a1 (decide (a1 > (a0.size : Int))))) = some (r1, r2, r3) := h
  clear h
  have HC3 := Aside0.mk H
  clear H
  go_enter Tryd.func19, Tryd.ntmps19
  go_upto_region 1 with (fail)
  go_cut [17] (fun v17 wc => ∃ (kq : Nat) (x17_2 : Bool), v17 = .bool x17_2 ∧ Aside0 (entrepotref01_Where.j0 kq a0 a1 x17_2 = some (r1, r2, r3)) ∧ Aside0 (kq ≤ k) ∧ Drawn0 w wc)
  case first =>
    have H := HC3.out
    clear HC3
    by_cases c4 : a1 < 0
    · rw [if_pos c4] at H
      have c4b0 : decide (a1 < 0) = true := decide_eq_true c4
      clear c4
      (first | rw [c4b0] | (simp only [i64_w, i32_w]; rw [c4b0]) | skip)
      have H' := Aside0.mk H
      clear H
      go_wp2
      go_meet
      case rel => exact ⟨_, (true), (by first | rfl | (simp; done) | (simp [*]; done)), H', ⟨by first | omega | exact Nat.le_refl _⟩, by repeat (first | exact Drawn0.refl _ | apply Drawn0.step)⟩
    · rw [if_neg c4] at H
      have c4b0 : decide (a1 < 0) = false := decide_eq_false c4
      clear c4
      (first | rw [c4b0] | (simp only [i64_w, i32_w]; rw [c4b0]) | skip)
      have H' := Aside0.mk H
      clear H
      go_wp2
      go_meet
      case rel => exact ⟨_, (decide (a1 > (a0.size : Int))), (by first | rfl | (simp; done) | (simp [*]; done)), H', ⟨by first | omega | exact Nat.le_refl _⟩, by repeat (first | exact Drawn0.refl _ | apply Drawn0.step)⟩
  case rest =>
    clear HC3
    try clear c1
    try clear p2
    try clear c4
    try clear c4b0
    obtain ⟨kq, x17_2, rfl, HA, HJ2, ⟨mc2, rfl⟩⟩ := hcut
    cases kq with
    | zero => exact absurd HA.out (by simp [entrepotref01_Where.j0])
    | succ kj2 =>
      have H := HA.out
      clear HA
      simp only [entrepotref01_Where.j0] at H
      by_cases c5 : x17_2 = true
      · subst c5
        have H1 : (some (0, 0, 10)) = some (r1, r2, r3) := by rw [if_pos rfl] at H; exact H
        clear H
        have H := H1
        clear H1
        simp only [Option.some.injEq, Prod.mk.injEq] at H
        obtain ⟨rfl, rfl, rfl⟩ := H
        go_wp2
        go_ret3
        exact ⟨by first | rfl | (simp; done) | (simp [*]; done), by repeat (first | exact Drawn0.refl _ | apply Drawn0.step)⟩
      · replace c5 := Bool.eq_false_iff.mpr c5
        subst c5
        have H1 : (entrepotref01_Where.l0 kj2 a0 a1 1 1 0) = some (r1, r2, r3) := by rw [if_neg (show ¬ (false = true) by decide)] at H; exact H
        clear H
        have H := H1
        clear H1
        have H' := Aside0.mk H
        clear H
        go_wp2
        go_loopg [7, 8, 9] kj2 (fun kq v7 v8 v9 w' => ∃ (x7_2 : Int) (x8_2 : Int) (x9_2 : Int), v7 = .int .i64 x7_2 ∧ v8 = .int .i64 x8_2 ∧ v9 = .int .i64 x9_2 ∧ Aside0 (entrepotref01_Where.l0 kq a0 a1 x7_2 x8_2 x9_2 = some (r1, r2, r3)) ∧ Aside0 (kq ≤ kj2) ∧ Drawn0 w w')
        case atStart => exact ⟨(1), (1), (0), (by first | rfl | (simp; done) | (simp [*]; done)), (by first | rfl | (simp; done) | (simp [*]; done)), (by first | rfl | (simp; done) | (simp [*]; done)), H', ⟨Nat.le_refl _⟩, by repeat (first | exact Drawn0.refl _ | apply Drawn0.step)⟩
        case round =>
          clear H'
          try clear c1
          try clear c2
          try clear p2
          try clear c4
          try clear c4b0
          try clear c5
          try clear p2
          obtain ⟨x7_2, x8_2, x9_2, rfl, rfl, rfl, HA, HK2, ⟨m2, rfl⟩⟩ := hrel
          cases gk with
          | zero => exact absurd HA.out (by simp [entrepotref01_Where.l0])
          | succ k2 =>
            have H := HA.out
            clear HA
            simp only [entrepotref01_Where.l0] at H
            by_cases c6 : x9_2 < a1
            · rw [if_pos c6] at H
              have c6b0 : decide (x9_2 < a1) = true := decide_eq_true c6
              clear c6
              by_cases c7 : 0 ≤ x9_2
              · rw [if_pos c7] at H
                have c7b0 : decide (0 ≤ x9_2) = true := decide_eq_true c7
                clear c7
                by_cases c8 : x9_2 < (a0.size : Int)
                · rw [if_pos c8] at H
                  have c8b0 : decide (x9_2 < (a0.size : Int)) = true := decide_eq_true c8
                  clear c8
                  by_cases c10 : (bt a0 x9_2) = 10
                  · rw [if_pos c10] at H
                    have c10b0 : ((bt a0 x9_2) == 10) = true := beq_iff_eq.mpr c10
                    have c10b1 : ((bt a0 x9_2) != 10) = false := bne_eq_false_iff_eq.mpr c10
                    clear c10
                    have H' := Aside0.mk H
                    clear H
                    have p9 : 0 ≤ (x9_2 : Int) := of_decide_eq_true (by first | (with_reducible assumption) | assumption)
                    have q9 : x9_2 < (a0.size : Int) := of_decide_eq_true (by first | (with_reducible assumption) | assumption)
                    have hx9 := bt_at a0 x9_2
                    replace p9 := eq_true p9
                    replace q9 := eq_true q9
                    go_wp2
                    go_roundg k2
                    case measure => have := HJ2.out; have := HK2.out; omega
                    case rel => exact ⟨(wrap64 (x7_2 + 1)), (1), (wrap64 (x9_2 + 1)), (by first | rfl | (simp; done) | (simp [*]; done)), (by first | rfl | (simp; done) | (simp [*]; done)), (by first | rfl | (simp; done) | (simp [*]; done)), H', ⟨by have := HJ2.out; have := HK2.out; omega⟩, by repeat (first | exact Drawn0.refl _ | apply Drawn0.step)⟩
                  · rw [if_neg c10] at H
                    have c10b0 : ((bt a0 x9_2) == 10) = false := beq_eq_false_iff_ne.mpr c10
                    have c10b1 : ((bt a0 x9_2) != 10) = true := bne_iff_ne.mpr c10
                    have H' := Aside0.mk H
                    clear H
                    have p9 : 0 ≤ (x9_2 : Int) := of_decide_eq_true (by first | (with_reducible assumption) | assumption)
                    have q9 : x9_2 < (a0.size : Int) := of_decide_eq_true (by first | (with_reducible assumption) | assumption)
                    have hx9 := bt_at a0 x9_2
                    replace p9 := eq_true p9
                    replace q9 := eq_true q9
                    go_wp2
                    go_roundg k2
                    case measure => have := HJ2.out; have := HK2.out; omega
                    case rel => exact ⟨(x7_2), (wrap64 (x8_2 + 1)), (wrap64 (x9_2 + 1)), (by first | rfl | (simp; done) | (simp [*]; done)), (by first | rfl | (simp; done) | (simp [*]; done)), (by first | rfl | (simp; done) | (simp [*]; done)), H', ⟨by have := HJ2.out; have := HK2.out; omega⟩, by repeat (first | exact Drawn0.refl _ | apply Drawn0.step)⟩
                · rw [if_neg c8] at H
                  exact absurd H (by simp)
              · rw [if_neg c7] at H
                exact absurd H (by simp)
            · rw [if_neg c6] at H
              have c6b0 : decide (x9_2 < a1) = false := decide_eq_false c6
              clear c6
              simp only [Option.some.injEq, Prod.mk.injEq] at H
              obtain ⟨rfl, rfl, rfl⟩ := H
              go_wp2
              go_ret3
              exact ⟨by first | rfl | (simp; done) | (simp [*]; done), by repeat (first | exact Drawn0.refl _ | apply Drawn0.step)⟩

/-! ### entrepotref01_Place: function 21 -/
def entrepotref01_Place.l0 : Nat → ByteArray → Int → Int → Int → Option (Int × Int)
  | 0, _, _, _, _ => none
  | k + 1, x0, x1, x2, x8 => if x8 ≤ (x0.size : Int) then ((entrepotref01_Where.f k x0 x8).bind fun bt180 => (if bt180.1 = x1 then (if bt180.2.1 = x2 then (some (x8, 0)) else (entrepotref01_Place.l0 k x0 x1 x2 (wrap64 (x8 + 1)))) else (entrepotref01_Place.l0 k x0 x1 x2 (wrap64 (x8 + 1))))) else (some (0, 10))
def entrepotref01_Place.f (k : Nat) (a0 : ByteArray) (a1 : Int) (a2 : Int) : Option (Int × Int) := entrepotref01_Place.l0 k a0 a1 a2 0
theorem entrepotref01_Place.mono_l : ∀ k, (∀ y0 y1 y2 y3, LeO (entrepotref01_Place.l0 k y0 y1 y2 y3) (entrepotref01_Place.l0 (k + 1) y0 y1 y2 y3))
  | 0 => fun _ _ _ _ r h => by simp [entrepotref01_Place.l0] at h
  | k + 1 => by
    have ih0 := entrepotref01_Place.mono_l k
    · intro y0 y1 y2 y3
      unfold entrepotref01_Place.l0
      repeat' first
      | (with_reducible exact ih0 _ _ _ _)
      | (with_reducible exact entrepotref01_Where.mono _ _ _)
      | (with_reducible exact LeO.refl _)
      | (with_reducible exact LeO.none _)
      | (with_reducible refine LeO.ite ?_ ?_)
      | (with_reducible refine LeO.bind ?_ (fun _ => ?_))
      | exact ih0 _ _ _ _
      | exact entrepotref01_Where.mono _ _ _
      | exact LeO.none _
      | refine LeO.ite ?_ ?_
      | refine LeO.bind ?_ (fun _ => ?_)
theorem entrepotref01_Place.mono : ∀ a0 a1 a2 k, LeO (entrepotref01_Place.f k a0 a1 a2) (entrepotref01_Place.f (k + 1) a0 a1 a2) := by
  intro a0 a1 a2 k
  have ih0 := entrepotref01_Place.mono_l k
  unfold entrepotref01_Place.f
  repeat' first
      | (with_reducible exact ih0 _ _ _ _)
      | (with_reducible exact entrepotref01_Where.mono _ _ _)
      | (with_reducible exact LeO.refl _)
      | (with_reducible exact LeO.none _)
      | (with_reducible refine LeO.ite ?_ ?_)
      | (with_reducible refine LeO.bind ?_ (fun _ => ?_))
      | exact ih0 _ _ _ _
      | exact entrepotref01_Where.mono _ _ _
      | exact LeO.none _
      | refine LeO.ite ?_ ?_
      | refine LeO.bind ?_ (fun _ => ?_)
set_option maxHeartbeats 8000000 in
set_option maxRecDepth 100000 in
theorem entrepotref01_Place.calls (k : Nat) (a0 : ByteArray) (a1 : Int) (a2 : Int) (r1 : Int) (r2 : Int) (w : World) (h : entrepotref01_Place.f k a0 a1 a2 = some (r1, r2)) :
    Calls Tryd.prog 21 #[.string a0, .int .i64 a1, .int .i64 a2] w fun e w' => e = .returned (.tuple #[.int .i64 r1, .int .i64 r2]) ∧ Drawn0 w w' := by
  have H : (entrepotref01_Place.l0 k a0 a1 a2 0) = some (r1, r2) := h
  clear h
  have H' := Aside0.mk H
  clear H
  go_enter Tryd.func21, Tryd.ntmps21
  go_wp2
  go_loopg [8] k (fun kq v8 w' => ∃ (x8_1 : Int), v8 = .int .i64 x8_1 ∧ Aside0 (entrepotref01_Place.l0 kq a0 a1 a2 x8_1 = some (r1, r2)) ∧ Aside0 (kq ≤ k) ∧ Drawn0 w w')
  case atStart => exact ⟨(0), (by first | rfl | (simp; done) | (simp [*]; done)), H', ⟨Nat.le_refl _⟩, by repeat (first | exact Drawn0.refl _ | apply Drawn0.step)⟩
  case round =>
    clear H'
    try clear c2
    try clear p2
    obtain ⟨x8_1, rfl, HA, HK1, ⟨m1, rfl⟩⟩ := hrel
    cases gk with
    | zero => exact absurd HA.out (by simp [entrepotref01_Place.l0])
    | succ k1 =>
      have H := HA.out
      clear HA
      simp only [entrepotref01_Place.l0] at H
      by_cases c4 : x8_1 ≤ (a0.size : Int)
      · rw [if_pos c4] at H
        have c4b0 : decide (x8_1 ≤ (a0.size : Int)) = true := decide_eq_true c4
        clear c4
        replace H := Option.bind_eq_some_iff.mp H
        obtain ⟨⟨t180, t181, t182⟩, A50, H⟩ := H
        replace H : (if t180 = a1 then (if t181 = a2 then (some (x8_1, 0)) else (entrepotref01_Place.l0 k1 a0 a1 a2 (wrap64 (x8_1 + 1)))) else (entrepotref01_Place.l0 k1 a0 a1 a2 (wrap64 (x8_1 + 1)))) = some (r1, r2) := H
        have A5 := Aside0.mk A50
        clear A50
        by_cases c6 : t180 = a1
        · rw [if_pos c6] at H
          have c6b0 : (t180 == a1) = true := beq_iff_eq.mpr c6
          have c6b1 : (t180 != a1) = false := bne_eq_false_iff_eq.mpr c6
          clear c6
          by_cases c7 : t181 = a2
          · rw [if_pos c7] at H
            have c7b0 : (t181 == a2) = true := beq_iff_eq.mpr c7
            have c7b1 : (t181 != a2) = false := bne_eq_false_iff_eq.mpr c7
            clear c7
            simp only [Option.some.injEq, Prod.mk.injEq] at H
            obtain ⟨rfl, rfl⟩ := H
            go_wp2_with (first | ((with_reducible refine gate_callee (f := 19) rfl ?_); refine goesL_ (some 21) rfl rfl Tryd.func19 (by kernel_rfl) rfl #[.string a0, .int .i64 x8_1] rfl (by (try simp only [List.map_toArray, List.map_cons, List.map_nil]); first | done | rfl | (simp only [List.length_drop, List.length_take]; rfl)) ?_; (with_reducible refine (entrepotref01_Where.calls k1 a0 x8_1 t180 t181 t182 _ A5.out).mono ?_); rintro e w' ⟨rfl, ⟨nd, rfl⟩⟩; refine ⟨_, rfl, ?_⟩))
            go_ret2
            exact ⟨by first | rfl | (simp; done) | (simp [*]; done), by repeat (first | exact Drawn0.refl _ | apply Drawn0.step)⟩
          · rw [if_neg c7] at H
            have c7b0 : (t181 == a2) = false := beq_eq_false_iff_ne.mpr c7
            have c7b1 : (t181 != a2) = true := bne_iff_ne.mpr c7
            have H' := Aside0.mk H
            clear H
            go_wp2_with (first | ((with_reducible refine gate_callee (f := 19) rfl ?_); refine goesL_ (some 21) rfl rfl Tryd.func19 (by kernel_rfl) rfl #[.string a0, .int .i64 x8_1] rfl (by (try simp only [List.map_toArray, List.map_cons, List.map_nil]); first | done | rfl | (simp only [List.length_drop, List.length_take]; rfl)) ?_; (with_reducible refine (entrepotref01_Where.calls k1 a0 x8_1 t180 t181 t182 _ A5.out).mono ?_); rintro e w' ⟨rfl, ⟨nd, rfl⟩⟩; refine ⟨_, rfl, ?_⟩))
            go_roundg k1
            case measure => have := HK1.out; omega
            case rel => exact ⟨(wrap64 (x8_1 + 1)), (by first | rfl | (simp; done) | (simp [*]; done)), H', ⟨by have := HK1.out; omega⟩, by repeat (first | exact Drawn0.refl _ | apply Drawn0.step)⟩
        · rw [if_neg c6] at H
          have c6b0 : (t180 == a1) = false := beq_eq_false_iff_ne.mpr c6
          have c6b1 : (t180 != a1) = true := bne_iff_ne.mpr c6
          have H' := Aside0.mk H
          clear H
          go_wp2_with (first | ((with_reducible refine gate_callee (f := 19) rfl ?_); refine goesL_ (some 21) rfl rfl Tryd.func19 (by kernel_rfl) rfl #[.string a0, .int .i64 x8_1] rfl (by (try simp only [List.map_toArray, List.map_cons, List.map_nil]); first | done | rfl | (simp only [List.length_drop, List.length_take]; rfl)) ?_; (with_reducible refine (entrepotref01_Where.calls k1 a0 x8_1 t180 t181 t182 _ A5.out).mono ?_); rintro e w' ⟨rfl, ⟨nd, rfl⟩⟩; refine ⟨_, rfl, ?_⟩))
          go_roundg k1
          case measure => have := HK1.out; omega
          case rel => exact ⟨(wrap64 (x8_1 + 1)), (by first | rfl | (simp; done) | (simp [*]; done)), H', ⟨by have := HK1.out; omega⟩, by repeat (first | exact Drawn0.refl _ | apply Drawn0.step)⟩
      · rw [if_neg c4] at H
        have c4b0 : decide (x8_1 ≤ (a0.size : Int)) = false := decide_eq_false c4
        clear c4
        simp only [Option.some.injEq, Prod.mk.injEq] at H
        obtain ⟨rfl, rfl⟩ := H
        go_wp2
        go_ret2
        exact ⟨by first | rfl | (simp; done) | (simp [*]; done), by repeat (first | exact Drawn0.refl _ | apply Drawn0.step)⟩

/-! ### entrepotlaw01_CursorWhere: function 4 -/
def entrepotlaw01_CursorWhere.j0 : Nat → ByteArray → Int → Int → Int → Bool → Option (Bool)
  | 0, _, _, _, _, _ => none
  | k + 1, x0, x1, x2, x3, x25 => if x25 = true then ((entrepotlaw01_shown.f).bind fun t184 => (some t184)) else ((cursor_Where.f x0 x1).bind fun bt185 => ((entrepotref01_Where.f k x0 x1).bind fun bt188 => ((cursor_Place.f x0 x2 x3).bind fun bt191 => ((entrepotref01_Place.f k x0 x2 x3).bind fun bt193 => (if bt185.1 = bt188.1 then (if bt185.2.1 = bt188.2.1 then (if bt185.2.2 = bt188.2.2 then (if bt191.1 = bt193.1 then (some (bt191.2 == bt193.2)) else (some false)) else (some false)) else (some false)) else (some false))))))
def entrepotlaw01_CursorWhere.f (k : Nat) (a0 : ByteArray) (a1 : Int) (a2 : Int) (a3 : Int) : Option (Bool) := if (a0.size : Int) > 500 then (entrepotlaw01_CursorWhere.j0 k a0 a1 a2 a3 true) else ((entrepotlaw01_shown.f).bind fun t183 => (entrepotlaw01_CursorWhere.j0 k a0 a1 a2 a3 (!t183)))
theorem entrepotlaw01_CursorWhere.mono_l : ∀ k, (∀ y0 y1 y2 y3 y4, LeO (entrepotlaw01_CursorWhere.j0 k y0 y1 y2 y3 y4) (entrepotlaw01_CursorWhere.j0 (k + 1) y0 y1 y2 y3 y4))
  | 0 => fun _ _ _ _ _ r h => by simp [entrepotlaw01_CursorWhere.j0] at h
  | k + 1 => by
    have ih0 := entrepotlaw01_CursorWhere.mono_l k
    · intro y0 y1 y2 y3 y4
      unfold entrepotlaw01_CursorWhere.j0
      repeat' first
      | (with_reducible exact ih0 _ _ _ _ _)
      | (with_reducible exact entrepotref01_Place.mono _ _ _ _)
      | (with_reducible exact entrepotref01_Where.mono _ _ _)
      | (with_reducible exact LeO.refl _)
      | (with_reducible exact LeO.none _)
      | (with_reducible refine LeO.ite ?_ ?_)
      | (with_reducible refine LeO.bind ?_ (fun _ => ?_))
      | exact ih0 _ _ _ _ _
      | exact entrepotref01_Place.mono _ _ _ _
      | exact entrepotref01_Where.mono _ _ _
      | exact LeO.none _
      | refine LeO.ite ?_ ?_
      | refine LeO.bind ?_ (fun _ => ?_)
theorem entrepotlaw01_CursorWhere.mono : ∀ a0 a1 a2 a3 k, LeO (entrepotlaw01_CursorWhere.f k a0 a1 a2 a3) (entrepotlaw01_CursorWhere.f (k + 1) a0 a1 a2 a3) := by
  intro a0 a1 a2 a3 k
  have ih0 := entrepotlaw01_CursorWhere.mono_l k
  unfold entrepotlaw01_CursorWhere.f
  repeat' first
      | (with_reducible exact ih0 _ _ _ _ _)
      | (with_reducible exact entrepotref01_Place.mono _ _ _ _)
      | (with_reducible exact entrepotref01_Where.mono _ _ _)
      | (with_reducible exact LeO.refl _)
      | (with_reducible exact LeO.none _)
      | (with_reducible refine LeO.ite ?_ ?_)
      | (with_reducible refine LeO.bind ?_ (fun _ => ?_))
      | exact ih0 _ _ _ _ _
      | exact entrepotref01_Place.mono _ _ _ _
      | exact entrepotref01_Where.mono _ _ _
      | exact LeO.none _
      | refine LeO.ite ?_ ?_
      | refine LeO.bind ?_ (fun _ => ?_)
set_option maxHeartbeats 8000000 in
set_option maxRecDepth 100000 in
theorem entrepotlaw01_CursorWhere.calls (k : Nat) (a0 : ByteArray) (a1 : Int) (a2 : Int) (a3 : Int) (r : Bool) (w : World) (h : entrepotlaw01_CursorWhere.f k a0 a1 a2 a3 = some r) :
    Calls Tryd.prog 4 #[.string a0, .int .i64 a1, .int .i64 a2, .int .i64 a3] w fun e w' => e = .returned (.bool r) ∧ Below w.heap.size w w' := by
  have HB := Aside0.mk (Below.refl w.heap.size w)
  have H : (if (a0.size : Int) > 500 then (entrepotlaw01_CursorWhere.j0 k a0 a1 a2 a3 true) else ((entrepotlaw01_shown.f).bind fun t183 => (entrepotlaw01_CursorWhere.j0 k a0 a1 a2 a3 (!t183)))) = some r := h
  clear h
  have HC5 := Aside0.mk H
  clear H
  go_enter Tryd.func4, Tryd.ntmps4
  go_upto_region 1 with (fail)
  go_cut [25] (fun v25 wc => ∃ (kq : Nat) (x25_4 : Bool), v25 = .bool x25_4 ∧ Aside0 (entrepotlaw01_CursorWhere.j0 kq a0 a1 a2 a3 x25_4 = some r) ∧ Aside0 (kq ≤ k) ∧ Aside0 (Below w.heap.size w wc))
  case first =>
    have H := HC5.out
    clear HC5
    by_cases c6 : (a0.size : Int) > 500
    · rw [if_pos c6] at H
      have c6b0 : decide (500 < (a0.size : Int)) = true := decide_eq_true c6
      have c6b1 : decide (500 < a0.size) = true := decide_eq_true (by omega)
      clear c6
      (first | rw [c6b0] | (simp only [i64_w, i32_w]; rw [c6b0]) | skip)
      have H' := Aside0.mk H
      clear H
      go_wp2
      go_meet
      case rel => exact ⟨_, (true), (by first | rfl | (simp; done) | (simp [*]; done)), H', ⟨by first | omega | exact Nat.le_refl _⟩, ⟨by repeat (first | (with_reducible first | exact HB.out | apply below_alloc | apply pw_below_drewN | apply below_drew1) | exact HB.out)⟩⟩
    · rw [if_neg c6] at H
      have c6b0 : decide (500 < (a0.size : Int)) = false := decide_eq_false c6
      have c6b1 : decide (500 < a0.size) = false := decide_eq_false (by omega)
      clear c6
      (first | rw [c6b0] | (simp only [i64_w, i32_w]; rw [c6b0]) | skip)
      replace H := Option.bind_eq_some_iff.mp H
      obtain ⟨t183, A70, H⟩ := H
      replace H : (entrepotlaw01_CursorWhere.j0 k a0 a1 a2 a3 (!t183)) = some r := H
      have A7 := Aside0.mk A70
      clear A70
      have H' := Aside0.mk H
      clear H
      go_wp2_with (first | (go_at_call 9; (with_reducible refine (entrepotlaw01_shown.calls  t183 _ A7.out).mono ?_); rintro e w8 ⟨rfl, hb⟩; have n0_ := Aside0.mk (below_step (by repeat (first | (with_reducible first | exact HB.out | apply below_alloc | apply pw_below_drewN | apply below_drew1) | exact HB.out)) hb); clear HB; have HB := n0_; clear n0_; (try clear hb); (try clear hb2); (try clear hk); (try clear hi)))
      go_meet
      case rel => exact ⟨_, (!t183), (by first | rfl | (simp; done) | (simp [*]; done)), H', ⟨by first | omega | exact Nat.le_refl _⟩, ⟨by repeat (first | (with_reducible first | exact HB.out | apply below_alloc | apply pw_below_drewN | apply below_drew1) | exact HB.out)⟩⟩
  case rest =>
    clear HC5
    try clear p2
    try clear c4
    try clear c6
    try clear c6b0
    try clear c6b1
    obtain ⟨kq, x25_4, rfl, HA, HJ4, HB⟩ := hcut
    cases kq with
    | zero => exact absurd HA.out (by simp [entrepotlaw01_CursorWhere.j0])
    | succ kj4 =>
      have H := HA.out
      clear HA
      simp only [entrepotlaw01_CursorWhere.j0] at H
      by_cases c9 : x25_4 = true
      · subst c9
        have H1 : ((entrepotlaw01_shown.f).bind fun t184 => (some t184)) = some r := by rw [if_pos rfl] at H; exact H
        clear H
        have H := H1
        clear H1
        replace H := Option.bind_eq_some_iff.mp H
        obtain ⟨t184, A100, H⟩ := H
        replace H : (some t184) = some r := H
        have A10 := Aside0.mk A100
        clear A100
        obtain rfl := Option.some.inj H
        go_wp2_with (first | ((with_reducible refine gate_callee (f := 9) rfl ?_); refine goesL_ (some 26) rfl rfl Tryd.func9 (by kernel_rfl) rfl #[] rfl (by (try simp only [List.map_toArray, List.map_cons, List.map_nil]); first | done | rfl | (simp only [List.length_drop, List.length_take]; rfl)) ?_; (with_reducible refine (entrepotlaw01_shown.calls  t184 _ A10.out).mono ?_); rintro e w11 ⟨rfl, hb⟩; refine ⟨_, rfl, ?_⟩; have n0_ := Aside0.mk (below_step (by repeat (first | (with_reducible first | exact HB.out | apply below_alloc | apply pw_below_drewN | apply below_drew1) | exact HB.out)) hb); clear HB; have HB := n0_; clear n0_; (try clear hb); (try clear hb2); (try clear hk); (try clear hi)))
        go_ret
        exact ⟨by first | rfl | (simp [errW_none, errW_some] <;> rfl) | (simp [*, errW_none, errW_some] <;> rfl), by repeat (first | (with_reducible first | exact HB.out | apply below_alloc | apply pw_below_drewN | apply below_drew1) | exact HB.out)⟩
      · replace c9 := Bool.eq_false_iff.mpr c9
        subst c9
        have H1 : ((cursor_Where.f a0 a1).bind fun bt185 => ((entrepotref01_Where.f kj4 a0 a1).bind fun bt188 => ((cursor_Place.f a0 a2 a3).bind fun bt191 => ((entrepotref01_Place.f kj4 a0 a2 a3).bind fun bt193 => (if bt185.1 = bt188.1 then (if bt185.2.1 = bt188.2.1 then (if bt185.2.2 = bt188.2.2 then (if bt191.1 = bt193.1 then (some (bt191.2 == bt193.2)) else (some false)) else (some false)) else (some false)) else (some false)))))) = some r := by rw [if_neg (show ¬ (false = true) by decide)] at H; exact H
        clear H
        have H := H1
        clear H1
        replace H := Option.bind_eq_some_iff.mp H
        obtain ⟨⟨t185, t186, t187⟩, A120, H⟩ := H
        replace H : ((entrepotref01_Where.f kj4 a0 a1).bind fun bt188 => ((cursor_Place.f a0 a2 a3).bind fun bt191 => ((entrepotref01_Place.f kj4 a0 a2 a3).bind fun bt193 => (if t185 = bt188.1 then (if t186 = bt188.2.1 then (if t187 = bt188.2.2 then (if bt191.1 = bt193.1 then (some (bt191.2 == bt193.2)) else (some false)) else (some false)) else (some false)) else (some false))))) = some r := H
        have A12 := Aside0.mk A120
        clear A120
        replace H := Option.bind_eq_some_iff.mp H
        obtain ⟨⟨t188, t189, t190⟩, A130, H⟩ := H
        replace H : ((cursor_Place.f a0 a2 a3).bind fun bt191 => ((entrepotref01_Place.f kj4 a0 a2 a3).bind fun bt193 => (if t185 = t188 then (if t186 = t189 then (if t187 = t190 then (if bt191.1 = bt193.1 then (some (bt191.2 == bt193.2)) else (some false)) else (some false)) else (some false)) else (some false)))) = some r := H
        have A13 := Aside0.mk A130
        clear A130
        replace H := Option.bind_eq_some_iff.mp H
        obtain ⟨⟨t191, t192⟩, A140, H⟩ := H
        replace H : ((entrepotref01_Place.f kj4 a0 a2 a3).bind fun bt193 => (if t185 = t188 then (if t186 = t189 then (if t187 = t190 then (if t191 = bt193.1 then (some (t192 == bt193.2)) else (some false)) else (some false)) else (some false)) else (some false))) = some r := H
        have A14 := Aside0.mk A140
        clear A140
        replace H := Option.bind_eq_some_iff.mp H
        obtain ⟨⟨t193, t194⟩, A150, H⟩ := H
        replace H : (if t185 = t188 then (if t186 = t189 then (if t187 = t190 then (if t191 = t193 then (some (t192 == t194)) else (some false)) else (some false)) else (some false)) else (some false)) = some r := H
        have A15 := Aside0.mk A150
        clear A150
        by_cases c16 : t185 = t188
        · rw [if_pos c16] at H
          have c16b0 : (t185 == t188) = true := beq_iff_eq.mpr c16
          have c16b1 : (t185 != t188) = false := bne_eq_false_iff_eq.mpr c16
          clear c16
          by_cases c17 : t186 = t189
          · rw [if_pos c17] at H
            have c17b0 : (t186 == t189) = true := beq_iff_eq.mpr c17
            have c17b1 : (t186 != t189) = false := bne_eq_false_iff_eq.mpr c17
            clear c17
            by_cases c18 : t187 = t190
            · rw [if_pos c18] at H
              have c18b0 : (t187 == t190) = true := beq_iff_eq.mpr c18
              have c18b1 : (t187 != t190) = false := bne_eq_false_iff_eq.mpr c18
              clear c18
              by_cases c19 : t191 = t193
              · rw [if_pos c19] at H
                have c19b0 : (t191 == t193) = true := beq_iff_eq.mpr c19
                have c19b1 : (t191 != t193) = false := bne_eq_false_iff_eq.mpr c19
                clear c19
                obtain rfl := Option.some.inj H
                go_wp2_with (first | ((with_reducible refine gate_callee (f := 18) rfl ?_); refine goesL_ (some 30) rfl rfl Tryd.func18 (by kernel_rfl) rfl #[.string a0, .int .i64 a1] rfl (by (try simp only [List.map_toArray, List.map_cons, List.map_nil]); first | done | rfl | (simp only [List.length_drop, List.length_take]; rfl)) ?_; (with_reducible refine (cursor_Where.calls a0 a1 t185 t186 t187 _ A12.out).mono ?_); rintro e w20 ⟨rfl, hb⟩; refine ⟨_, rfl, ?_⟩; have n0_ := Aside0.mk (below_step (by repeat (first | (with_reducible first | exact HB.out | apply below_alloc | apply pw_below_drewN | apply below_drew1) | exact HB.out)) hb); clear HB; have HB := n0_; clear n0_; (try clear hb); (try clear hb2); (try clear hk); (try clear hi)) | ((with_reducible refine gate_callee (f := 19) rfl ?_); refine goesL_ (some 37) rfl rfl Tryd.func19 (by kernel_rfl) rfl #[.string a0, .int .i64 a1] rfl (by (try simp only [List.map_toArray, List.map_cons, List.map_nil]); first | done | rfl | (simp only [List.length_drop, List.length_take]; rfl)) ?_; (with_reducible refine (entrepotref01_Where.calls kj4 a0 a1 t188 t189 t190 _ A13.out).mono ?_); rintro e w' ⟨rfl, ⟨nd, rfl⟩⟩; refine ⟨_, rfl, ?_⟩) | ((with_reducible refine gate_callee (f := 20) rfl ?_); refine goesL_ (some 45) rfl rfl Tryd.func20 (by kernel_rfl) rfl #[.string a0, .int .i64 a2, .int .i64 a3] rfl (by (try simp only [List.map_toArray, List.map_cons, List.map_nil]); first | done | rfl | (simp only [List.length_drop, List.length_take]; rfl)) ?_; (with_reducible refine (cursor_Place.calls a0 a2 a3 t191 t192 _ A14.out).mono ?_); rintro e w21 ⟨rfl, hb⟩; refine ⟨_, rfl, ?_⟩; have n0_ := Aside0.mk (below_step (by repeat (first | (with_reducible first | exact HB.out | apply below_alloc | apply pw_below_drewN | apply below_drew1) | exact HB.out)) hb); clear HB; have HB := n0_; clear n0_; (try clear hb); (try clear hb2); (try clear hk); (try clear hi)) | ((with_reducible refine gate_callee (f := 21) rfl ?_); refine goesL_ (some 52) rfl rfl Tryd.func21 (by kernel_rfl) rfl #[.string a0, .int .i64 a2, .int .i64 a3] rfl (by (try simp only [List.map_toArray, List.map_cons, List.map_nil]); first | done | rfl | (simp only [List.length_drop, List.length_take]; rfl)) ?_; (with_reducible refine (entrepotref01_Place.calls kj4 a0 a2 a3 t193 t194 _ A15.out).mono ?_); rintro e w' ⟨rfl, ⟨nd, rfl⟩⟩; refine ⟨_, rfl, ?_⟩))
                go_ret
                exact ⟨by first | rfl | (simp [errW_none, errW_some] <;> rfl) | (simp [*, errW_none, errW_some] <;> rfl), by repeat (first | (with_reducible first | exact HB.out | apply below_alloc | apply pw_below_drewN | apply below_drew1) | exact HB.out)⟩
              · rw [if_neg c19] at H
                have c19b0 : (t191 == t193) = false := beq_eq_false_iff_ne.mpr c19
                have c19b1 : (t191 != t193) = true := bne_iff_ne.mpr c19
                obtain rfl := Option.some.inj H
                go_wp2_with (first | ((with_reducible refine gate_callee (f := 18) rfl ?_); refine goesL_ (some 30) rfl rfl Tryd.func18 (by kernel_rfl) rfl #[.string a0, .int .i64 a1] rfl (by (try simp only [List.map_toArray, List.map_cons, List.map_nil]); first | done | rfl | (simp only [List.length_drop, List.length_take]; rfl)) ?_; (with_reducible refine (cursor_Where.calls a0 a1 t185 t186 t187 _ A12.out).mono ?_); rintro e w22 ⟨rfl, hb⟩; refine ⟨_, rfl, ?_⟩; have n0_ := Aside0.mk (below_step (by repeat (first | (with_reducible first | exact HB.out | apply below_alloc | apply pw_below_drewN | apply below_drew1) | exact HB.out)) hb); clear HB; have HB := n0_; clear n0_; (try clear hb); (try clear hb2); (try clear hk); (try clear hi)) | ((with_reducible refine gate_callee (f := 19) rfl ?_); refine goesL_ (some 37) rfl rfl Tryd.func19 (by kernel_rfl) rfl #[.string a0, .int .i64 a1] rfl (by (try simp only [List.map_toArray, List.map_cons, List.map_nil]); first | done | rfl | (simp only [List.length_drop, List.length_take]; rfl)) ?_; (with_reducible refine (entrepotref01_Where.calls kj4 a0 a1 t188 t189 t190 _ A13.out).mono ?_); rintro e w' ⟨rfl, ⟨nd, rfl⟩⟩; refine ⟨_, rfl, ?_⟩) | ((with_reducible refine gate_callee (f := 20) rfl ?_); refine goesL_ (some 45) rfl rfl Tryd.func20 (by kernel_rfl) rfl #[.string a0, .int .i64 a2, .int .i64 a3] rfl (by (try simp only [List.map_toArray, List.map_cons, List.map_nil]); first | done | rfl | (simp only [List.length_drop, List.length_take]; rfl)) ?_; (with_reducible refine (cursor_Place.calls a0 a2 a3 t191 t192 _ A14.out).mono ?_); rintro e w23 ⟨rfl, hb⟩; refine ⟨_, rfl, ?_⟩; have n0_ := Aside0.mk (below_step (by repeat (first | (with_reducible first | exact HB.out | apply below_alloc | apply pw_below_drewN | apply below_drew1) | exact HB.out)) hb); clear HB; have HB := n0_; clear n0_; (try clear hb); (try clear hb2); (try clear hk); (try clear hi)) | ((with_reducible refine gate_callee (f := 21) rfl ?_); refine goesL_ (some 52) rfl rfl Tryd.func21 (by kernel_rfl) rfl #[.string a0, .int .i64 a2, .int .i64 a3] rfl (by (try simp only [List.map_toArray, List.map_cons, List.map_nil]); first | done | rfl | (simp only [List.length_drop, List.length_take]; rfl)) ?_; (with_reducible refine (entrepotref01_Place.calls kj4 a0 a2 a3 t193 t194 _ A15.out).mono ?_); rintro e w' ⟨rfl, ⟨nd, rfl⟩⟩; refine ⟨_, rfl, ?_⟩))
                go_ret
                exact ⟨by first | rfl | (simp [errW_none, errW_some] <;> rfl) | (simp [*, errW_none, errW_some] <;> rfl), by repeat (first | (with_reducible first | exact HB.out | apply below_alloc | apply pw_below_drewN | apply below_drew1) | exact HB.out)⟩
            · rw [if_neg c18] at H
              have c18b0 : (t187 == t190) = false := beq_eq_false_iff_ne.mpr c18
              have c18b1 : (t187 != t190) = true := bne_iff_ne.mpr c18
              obtain rfl := Option.some.inj H
              go_wp2_with (first | ((with_reducible refine gate_callee (f := 18) rfl ?_); refine goesL_ (some 30) rfl rfl Tryd.func18 (by kernel_rfl) rfl #[.string a0, .int .i64 a1] rfl (by (try simp only [List.map_toArray, List.map_cons, List.map_nil]); first | done | rfl | (simp only [List.length_drop, List.length_take]; rfl)) ?_; (with_reducible refine (cursor_Where.calls a0 a1 t185 t186 t187 _ A12.out).mono ?_); rintro e w24 ⟨rfl, hb⟩; refine ⟨_, rfl, ?_⟩; have n0_ := Aside0.mk (below_step (by repeat (first | (with_reducible first | exact HB.out | apply below_alloc | apply pw_below_drewN | apply below_drew1) | exact HB.out)) hb); clear HB; have HB := n0_; clear n0_; (try clear hb); (try clear hb2); (try clear hk); (try clear hi)) | ((with_reducible refine gate_callee (f := 19) rfl ?_); refine goesL_ (some 37) rfl rfl Tryd.func19 (by kernel_rfl) rfl #[.string a0, .int .i64 a1] rfl (by (try simp only [List.map_toArray, List.map_cons, List.map_nil]); first | done | rfl | (simp only [List.length_drop, List.length_take]; rfl)) ?_; (with_reducible refine (entrepotref01_Where.calls kj4 a0 a1 t188 t189 t190 _ A13.out).mono ?_); rintro e w' ⟨rfl, ⟨nd, rfl⟩⟩; refine ⟨_, rfl, ?_⟩) | ((with_reducible refine gate_callee (f := 20) rfl ?_); refine goesL_ (some 45) rfl rfl Tryd.func20 (by kernel_rfl) rfl #[.string a0, .int .i64 a2, .int .i64 a3] rfl (by (try simp only [List.map_toArray, List.map_cons, List.map_nil]); first | done | rfl | (simp only [List.length_drop, List.length_take]; rfl)) ?_; (with_reducible refine (cursor_Place.calls a0 a2 a3 t191 t192 _ A14.out).mono ?_); rintro e w25 ⟨rfl, hb⟩; refine ⟨_, rfl, ?_⟩; have n0_ := Aside0.mk (below_step (by repeat (first | (with_reducible first | exact HB.out | apply below_alloc | apply pw_below_drewN | apply below_drew1) | exact HB.out)) hb); clear HB; have HB := n0_; clear n0_; (try clear hb); (try clear hb2); (try clear hk); (try clear hi)) | ((with_reducible refine gate_callee (f := 21) rfl ?_); refine goesL_ (some 52) rfl rfl Tryd.func21 (by kernel_rfl) rfl #[.string a0, .int .i64 a2, .int .i64 a3] rfl (by (try simp only [List.map_toArray, List.map_cons, List.map_nil]); first | done | rfl | (simp only [List.length_drop, List.length_take]; rfl)) ?_; (with_reducible refine (entrepotref01_Place.calls kj4 a0 a2 a3 t193 t194 _ A15.out).mono ?_); rintro e w' ⟨rfl, ⟨nd, rfl⟩⟩; refine ⟨_, rfl, ?_⟩))
              go_ret
              exact ⟨by first | rfl | (simp [errW_none, errW_some] <;> rfl) | (simp [*, errW_none, errW_some] <;> rfl), by repeat (first | (with_reducible first | exact HB.out | apply below_alloc | apply pw_below_drewN | apply below_drew1) | exact HB.out)⟩
          · rw [if_neg c17] at H
            have c17b0 : (t186 == t189) = false := beq_eq_false_iff_ne.mpr c17
            have c17b1 : (t186 != t189) = true := bne_iff_ne.mpr c17
            obtain rfl := Option.some.inj H
            go_wp2_with (first | ((with_reducible refine gate_callee (f := 18) rfl ?_); refine goesL_ (some 30) rfl rfl Tryd.func18 (by kernel_rfl) rfl #[.string a0, .int .i64 a1] rfl (by (try simp only [List.map_toArray, List.map_cons, List.map_nil]); first | done | rfl | (simp only [List.length_drop, List.length_take]; rfl)) ?_; (with_reducible refine (cursor_Where.calls a0 a1 t185 t186 t187 _ A12.out).mono ?_); rintro e w26 ⟨rfl, hb⟩; refine ⟨_, rfl, ?_⟩; have n0_ := Aside0.mk (below_step (by repeat (first | (with_reducible first | exact HB.out | apply below_alloc | apply pw_below_drewN | apply below_drew1) | exact HB.out)) hb); clear HB; have HB := n0_; clear n0_; (try clear hb); (try clear hb2); (try clear hk); (try clear hi)) | ((with_reducible refine gate_callee (f := 19) rfl ?_); refine goesL_ (some 37) rfl rfl Tryd.func19 (by kernel_rfl) rfl #[.string a0, .int .i64 a1] rfl (by (try simp only [List.map_toArray, List.map_cons, List.map_nil]); first | done | rfl | (simp only [List.length_drop, List.length_take]; rfl)) ?_; (with_reducible refine (entrepotref01_Where.calls kj4 a0 a1 t188 t189 t190 _ A13.out).mono ?_); rintro e w' ⟨rfl, ⟨nd, rfl⟩⟩; refine ⟨_, rfl, ?_⟩) | ((with_reducible refine gate_callee (f := 20) rfl ?_); refine goesL_ (some 45) rfl rfl Tryd.func20 (by kernel_rfl) rfl #[.string a0, .int .i64 a2, .int .i64 a3] rfl (by (try simp only [List.map_toArray, List.map_cons, List.map_nil]); first | done | rfl | (simp only [List.length_drop, List.length_take]; rfl)) ?_; (with_reducible refine (cursor_Place.calls a0 a2 a3 t191 t192 _ A14.out).mono ?_); rintro e w27 ⟨rfl, hb⟩; refine ⟨_, rfl, ?_⟩; have n0_ := Aside0.mk (below_step (by repeat (first | (with_reducible first | exact HB.out | apply below_alloc | apply pw_below_drewN | apply below_drew1) | exact HB.out)) hb); clear HB; have HB := n0_; clear n0_; (try clear hb); (try clear hb2); (try clear hk); (try clear hi)) | ((with_reducible refine gate_callee (f := 21) rfl ?_); refine goesL_ (some 52) rfl rfl Tryd.func21 (by kernel_rfl) rfl #[.string a0, .int .i64 a2, .int .i64 a3] rfl (by (try simp only [List.map_toArray, List.map_cons, List.map_nil]); first | done | rfl | (simp only [List.length_drop, List.length_take]; rfl)) ?_; (with_reducible refine (entrepotref01_Place.calls kj4 a0 a2 a3 t193 t194 _ A15.out).mono ?_); rintro e w' ⟨rfl, ⟨nd, rfl⟩⟩; refine ⟨_, rfl, ?_⟩))
            go_ret
            exact ⟨by first | rfl | (simp [errW_none, errW_some] <;> rfl) | (simp [*, errW_none, errW_some] <;> rfl), by repeat (first | (with_reducible first | exact HB.out | apply below_alloc | apply pw_below_drewN | apply below_drew1) | exact HB.out)⟩
        · rw [if_neg c16] at H
          have c16b0 : (t185 == t188) = false := beq_eq_false_iff_ne.mpr c16
          have c16b1 : (t185 != t188) = true := bne_iff_ne.mpr c16
          obtain rfl := Option.some.inj H
          go_wp2_with (first | ((with_reducible refine gate_callee (f := 18) rfl ?_); refine goesL_ (some 30) rfl rfl Tryd.func18 (by kernel_rfl) rfl #[.string a0, .int .i64 a1] rfl (by (try simp only [List.map_toArray, List.map_cons, List.map_nil]); first | done | rfl | (simp only [List.length_drop, List.length_take]; rfl)) ?_; (with_reducible refine (cursor_Where.calls a0 a1 t185 t186 t187 _ A12.out).mono ?_); rintro e w28 ⟨rfl, hb⟩; refine ⟨_, rfl, ?_⟩; have n0_ := Aside0.mk (below_step (by repeat (first | (with_reducible first | exact HB.out | apply below_alloc | apply pw_below_drewN | apply below_drew1) | exact HB.out)) hb); clear HB; have HB := n0_; clear n0_; (try clear hb); (try clear hb2); (try clear hk); (try clear hi)) | ((with_reducible refine gate_callee (f := 19) rfl ?_); refine goesL_ (some 37) rfl rfl Tryd.func19 (by kernel_rfl) rfl #[.string a0, .int .i64 a1] rfl (by (try simp only [List.map_toArray, List.map_cons, List.map_nil]); first | done | rfl | (simp only [List.length_drop, List.length_take]; rfl)) ?_; (with_reducible refine (entrepotref01_Where.calls kj4 a0 a1 t188 t189 t190 _ A13.out).mono ?_); rintro e w' ⟨rfl, ⟨nd, rfl⟩⟩; refine ⟨_, rfl, ?_⟩) | ((with_reducible refine gate_callee (f := 20) rfl ?_); refine goesL_ (some 45) rfl rfl Tryd.func20 (by kernel_rfl) rfl #[.string a0, .int .i64 a2, .int .i64 a3] rfl (by (try simp only [List.map_toArray, List.map_cons, List.map_nil]); first | done | rfl | (simp only [List.length_drop, List.length_take]; rfl)) ?_; (with_reducible refine (cursor_Place.calls a0 a2 a3 t191 t192 _ A14.out).mono ?_); rintro e w29 ⟨rfl, hb⟩; refine ⟨_, rfl, ?_⟩; have n0_ := Aside0.mk (below_step (by repeat (first | (with_reducible first | exact HB.out | apply below_alloc | apply pw_below_drewN | apply below_drew1) | exact HB.out)) hb); clear HB; have HB := n0_; clear n0_; (try clear hb); (try clear hb2); (try clear hk); (try clear hi)) | ((with_reducible refine gate_callee (f := 21) rfl ?_); refine goesL_ (some 52) rfl rfl Tryd.func21 (by kernel_rfl) rfl #[.string a0, .int .i64 a2, .int .i64 a3] rfl (by (try simp only [List.map_toArray, List.map_cons, List.map_nil]); first | done | rfl | (simp only [List.length_drop, List.length_take]; rfl)) ?_; (with_reducible refine (entrepotref01_Place.calls kj4 a0 a2 a3 t193 t194 _ A15.out).mono ?_); rintro e w' ⟨rfl, ⟨nd, rfl⟩⟩; refine ⟨_, rfl, ?_⟩))
          go_ret
          exact ⟨by first | rfl | (simp [errW_none, errW_some] <;> rfl) | (simp [*, errW_none, errW_some] <;> rfl), by repeat (first | (with_reducible first | exact HB.out | apply below_alloc | apply pw_below_drewN | apply below_drew1) | exact HB.out)⟩

/-- THE ONE PURE STATEMENT of entrepotlaw01_CursorWhere: yours. -/
def entrepotlaw01_CursorWhere.Pure : Prop := ∀ (a0 : ByteArray) (a1 : Int) (a2 : Int) (a3 : Int), a0.size ≤ 140737488351232 → (Lit.int .i64 a1).wf = true → (Lit.int .i64 a2).wf = true → (Lit.int .i64 a3).wf = true → ∃ k, entrepotlaw01_CursorWhere.f k a0 a1 a2 a3 = some true
theorem entrepotlaw01_CursorWhere.walk (P : entrepotlaw01_CursorWhere.Pure) (a0 : ByteArray) (a1 : Int) (a2 : Int) (a3 : Int) (w : World) (w0 : a0.size ≤ 140737488351232) (w1 : (Lit.int .i64 a1).wf = true) (w2 : (Lit.int .i64 a2).wf = true) (w3 : (Lit.int .i64 a3).wf = true) :
    Calls Tryd.prog 4 #[.string a0, .int .i64 a1, .int .i64 a2, .int .i64 a3] w fun e w' => e = .returned (.bool true) ∧ Below w.heap.size w w' := by
  obtain ⟨k, h⟩ := P a0 a1 a2 a3 w0 w1 w2 w3
  refine (entrepotlaw01_CursorWhere.calls k a0 a1 a2 a3 true w h).mono ?_
  rintro e w' ⟨rfl, hd⟩
  exact ⟨rfl, hd⟩

/-! ### entrepotlaw01_CursorBack: function 5 -/
def entrepotlaw01_CursorBack.j0 : Nat → ByteArray → Int → Int → Bool → Option (Bool)
  | 0, _, _, _, _ => none
  | k + 1, x0, x1, x2, x23 => if x23 = true then ((entrepotlaw01_shown.f).bind fun t196 => (some t196)) else (if (wrap64 ((x0.size : Int) + 1)) = 0 then (none) else (if (wrap64 ((wrap64 ((x0.size : Int) - (Int.tmod (wrap64 (mn x1 x2)) (wrap64 ((x0.size : Int) + 1))))) + 1)) = 0 then (none) else ((cursor_Where.f x0 (Int.tmod (wrap64 (mn x1 x2)) (wrap64 ((x0.size : Int) + 1)))).bind fun bt197 => ((cursor_Where.f x0 (wrap64 ((Int.tmod (wrap64 (mn x1 x2)) (wrap64 ((x0.size : Int) + 1))) + (Int.tmod (wrap64 (mx x1 x2)) (wrap64 ((wrap64 ((x0.size : Int) - (Int.tmod (wrap64 (mn x1 x2)) (wrap64 ((x0.size : Int) + 1))))) + 1)))))).bind fun bt200 => ((cursor_Place.f x0 bt197.1 bt197.2.1).bind fun bt203 => (if bt197.2.2 = 0 then (if bt200.2.2 = 0 then (if bt203.2 = 0 then (if bt203.1 = (Int.tmod (wrap64 (mn x1 x2)) (wrap64 ((x0.size : Int) + 1))) then (if (Int.tmod (wrap64 (mn x1 x2)) (wrap64 ((x0.size : Int) + 1))) = (wrap64 ((Int.tmod (wrap64 (mn x1 x2)) (wrap64 ((x0.size : Int) + 1))) + (Int.tmod (wrap64 (mx x1 x2)) (wrap64 ((wrap64 ((x0.size : Int) - (Int.tmod (wrap64 (mn x1 x2)) (wrap64 ((x0.size : Int) + 1))))) + 1))))) then (if bt197.1 ≥ 1 then (some (decide (bt197.2.1 ≥ 1))) else (some false)) else (if bt197.1 < bt200.1 then (if bt197.1 ≥ 1 then (some (decide (bt197.2.1 ≥ 1))) else (some false)) else (if bt197.1 = bt200.1 then (if bt197.2.1 < bt200.2.1 then (if bt197.1 ≥ 1 then (some (decide (bt197.2.1 ≥ 1))) else (some false)) else (some false)) else (some false)))) else (some false)) else (some false)) else (some false)) else (some false)))))))
def entrepotlaw01_CursorBack.f (k : Nat) (a0 : ByteArray) (a1 : Int) (a2 : Int) : Option (Bool) := if (a0.size : Int) > 2000 then (entrepotlaw01_CursorBack.j0 k a0 a1 a2 true) else ((entrepotlaw01_shown.f).bind fun t195 => (entrepotlaw01_CursorBack.j0 k a0 a1 a2 (!t195)))
theorem entrepotlaw01_CursorBack.mono_l : ∀ k, (∀ y0 y1 y2 y3, LeO (entrepotlaw01_CursorBack.j0 k y0 y1 y2 y3) (entrepotlaw01_CursorBack.j0 (k + 1) y0 y1 y2 y3))
  | 0 => fun _ _ _ _ r h => by simp [entrepotlaw01_CursorBack.j0] at h
  | k + 1 => by
    have ih0 := entrepotlaw01_CursorBack.mono_l k
    · intro y0 y1 y2 y3
      unfold entrepotlaw01_CursorBack.j0
      repeat' first
      | (with_reducible exact ih0 _ _ _ _)
      | (with_reducible exact LeO.refl _)
      | (with_reducible exact LeO.none _)
      | (with_reducible refine LeO.ite ?_ ?_)
      | (with_reducible refine LeO.bind ?_ (fun _ => ?_))
      | exact ih0 _ _ _ _
      | exact LeO.none _
      | refine LeO.ite ?_ ?_
      | refine LeO.bind ?_ (fun _ => ?_)
theorem entrepotlaw01_CursorBack.mono : ∀ a0 a1 a2 k, LeO (entrepotlaw01_CursorBack.f k a0 a1 a2) (entrepotlaw01_CursorBack.f (k + 1) a0 a1 a2) := by
  intro a0 a1 a2 k
  have ih0 := entrepotlaw01_CursorBack.mono_l k
  unfold entrepotlaw01_CursorBack.f
  repeat' first
      | (with_reducible exact ih0 _ _ _ _)
      | (with_reducible exact LeO.refl _)
      | (with_reducible exact LeO.none _)
      | (with_reducible refine LeO.ite ?_ ?_)
      | (with_reducible refine LeO.bind ?_ (fun _ => ?_))
      | exact ih0 _ _ _ _
      | exact LeO.none _
      | refine LeO.ite ?_ ?_
      | refine LeO.bind ?_ (fun _ => ?_)
set_option maxHeartbeats 8000000 in
set_option maxRecDepth 100000 in
theorem entrepotlaw01_CursorBack.calls (k : Nat) (a0 : ByteArray) (a1 : Int) (a2 : Int) (r : Bool) (w : World) (h : entrepotlaw01_CursorBack.f k a0 a1 a2 = some r) :
    Calls Tryd.prog 5 #[.string a0, .int .u16 a1, .int .u16 a2] w fun e w' => e = .returned (.bool r) ∧ Below w.heap.size w w' := by
  have HB := Aside0.mk (Below.refl w.heap.size w)
  have H : (if (a0.size : Int) > 2000 then (entrepotlaw01_CursorBack.j0 k a0 a1 a2 true) else ((entrepotlaw01_shown.f).bind fun t195 => (entrepotlaw01_CursorBack.j0 k a0 a1 a2 (!t195)))) = some r := h
  clear h
  have HC4 := Aside0.mk H
  clear H
  go_enter Tryd.func5, Tryd.ntmps5
  go_upto_region 1 with (fail)
  go_cut [23] (fun v23 wc => ∃ (kq : Nat) (x23_3 : Bool), v23 = .bool x23_3 ∧ Aside0 (entrepotlaw01_CursorBack.j0 kq a0 a1 a2 x23_3 = some r) ∧ Aside0 (kq ≤ k) ∧ Aside0 (Below w.heap.size w wc))
  case first =>
    have H := HC4.out
    clear HC4
    by_cases c5 : (a0.size : Int) > 2000
    · rw [if_pos c5] at H
      have c5b0 : decide (2000 < (a0.size : Int)) = true := decide_eq_true c5
      have c5b1 : decide (2000 < a0.size) = true := decide_eq_true (by omega)
      clear c5
      (first | rw [c5b0] | (simp only [i64_w, i32_w]; rw [c5b0]) | skip)
      have H' := Aside0.mk H
      clear H
      go_wp2
      go_meet
      case rel => exact ⟨_, (true), (by first | rfl | (simp; done) | (simp [*]; done)), H', ⟨by first | omega | exact Nat.le_refl _⟩, ⟨by repeat (first | (with_reducible first | exact HB.out | apply below_alloc | apply pw_below_drewN | apply below_drew1) | exact HB.out)⟩⟩
    · rw [if_neg c5] at H
      have c5b0 : decide (2000 < (a0.size : Int)) = false := decide_eq_false c5
      have c5b1 : decide (2000 < a0.size) = false := decide_eq_false (by omega)
      clear c5
      (first | rw [c5b0] | (simp only [i64_w, i32_w]; rw [c5b0]) | skip)
      replace H := Option.bind_eq_some_iff.mp H
      obtain ⟨t195, A60, H⟩ := H
      replace H : (entrepotlaw01_CursorBack.j0 k a0 a1 a2 (!t195)) = some r := H
      have A6 := Aside0.mk A60
      clear A60
      have H' := Aside0.mk H
      clear H
      go_wp2_with (first | (go_at_call 9; (with_reducible refine (entrepotlaw01_shown.calls  t195 _ A6.out).mono ?_); rintro e w7 ⟨rfl, hb⟩; have n0_ := Aside0.mk (below_step (by repeat (first | (with_reducible first | exact HB.out | apply below_alloc | apply pw_below_drewN | apply below_drew1) | exact HB.out)) hb); clear HB; have HB := n0_; clear n0_; (try clear hb); (try clear hb2); (try clear hk); (try clear hi)))
      go_meet
      case rel => exact ⟨_, (!t195), (by first | rfl | (simp; done) | (simp [*]; done)), H', ⟨by first | omega | exact Nat.le_refl _⟩, ⟨by repeat (first | (with_reducible first | exact HB.out | apply below_alloc | apply pw_below_drewN | apply below_drew1) | exact HB.out)⟩⟩
  case rest =>
    clear HC4
    try clear p2
    try clear c5
    try clear c5b0
    try clear c5b1
    obtain ⟨kq, x23_3, rfl, HA, HJ3, HB⟩ := hcut
    cases kq with
    | zero => exact absurd HA.out (by simp [entrepotlaw01_CursorBack.j0])
    | succ kj3 =>
      have H := HA.out
      clear HA
      simp only [entrepotlaw01_CursorBack.j0] at H
      by_cases c8 : x23_3 = true
      · subst c8
        have H1 : ((entrepotlaw01_shown.f).bind fun t196 => (some t196)) = some r := by rw [if_pos rfl] at H; exact H
        clear H
        have H := H1
        clear H1
        replace H := Option.bind_eq_some_iff.mp H
        obtain ⟨t196, A90, H⟩ := H
        replace H : (some t196) = some r := H
        have A9 := Aside0.mk A90
        clear A90
        obtain rfl := Option.some.inj H
        go_wp2_with (first | ((with_reducible refine gate_callee (f := 9) rfl ?_); refine goesL_ (some 24) rfl rfl Tryd.func9 (by kernel_rfl) rfl #[] rfl (by (try simp only [List.map_toArray, List.map_cons, List.map_nil]); first | done | rfl | (simp only [List.length_drop, List.length_take]; rfl)) ?_; (with_reducible refine (entrepotlaw01_shown.calls  t196 _ A9.out).mono ?_); rintro e w10 ⟨rfl, hb⟩; refine ⟨_, rfl, ?_⟩; have n0_ := Aside0.mk (below_step (by repeat (first | (with_reducible first | exact HB.out | apply below_alloc | apply pw_below_drewN | apply below_drew1) | exact HB.out)) hb); clear HB; have HB := n0_; clear n0_; (try clear hb); (try clear hb2); (try clear hk); (try clear hi)))
        go_ret
        exact ⟨by first | rfl | (simp [errW_none, errW_some] <;> rfl) | (simp [*, errW_none, errW_some] <;> rfl), by repeat (first | (with_reducible first | exact HB.out | apply below_alloc | apply pw_below_drewN | apply below_drew1) | exact HB.out)⟩
      · replace c8 := Bool.eq_false_iff.mpr c8
        subst c8
        have H1 : (if (wrap64 ((a0.size : Int) + 1)) = 0 then (none) else (if (wrap64 ((wrap64 ((a0.size : Int) - (Int.tmod (wrap64 (mn a1 a2)) (wrap64 ((a0.size : Int) + 1))))) + 1)) = 0 then (none) else ((cursor_Where.f a0 (Int.tmod (wrap64 (mn a1 a2)) (wrap64 ((a0.size : Int) + 1)))).bind fun bt197 => ((cursor_Where.f a0 (wrap64 ((Int.tmod (wrap64 (mn a1 a2)) (wrap64 ((a0.size : Int) + 1))) + (Int.tmod (wrap64 (mx a1 a2)) (wrap64 ((wrap64 ((a0.size : Int) - (Int.tmod (wrap64 (mn a1 a2)) (wrap64 ((a0.size : Int) + 1))))) + 1)))))).bind fun bt200 => ((cursor_Place.f a0 bt197.1 bt197.2.1).bind fun bt203 => (if bt197.2.2 = 0 then (if bt200.2.2 = 0 then (if bt203.2 = 0 then (if bt203.1 = (Int.tmod (wrap64 (mn a1 a2)) (wrap64 ((a0.size : Int) + 1))) then (if (Int.tmod (wrap64 (mn a1 a2)) (wrap64 ((a0.size : Int) + 1))) = (wrap64 ((Int.tmod (wrap64 (mn a1 a2)) (wrap64 ((a0.size : Int) + 1))) + (Int.tmod (wrap64 (mx a1 a2)) (wrap64 ((wrap64 ((a0.size : Int) - (Int.tmod (wrap64 (mn a1 a2)) (wrap64 ((a0.size : Int) + 1))))) + 1))))) then (if bt197.1 ≥ 1 then (some (decide (bt197.2.1 ≥ 1))) else (some false)) else (if bt197.1 < bt200.1 then (if bt197.1 ≥ 1 then (some (decide (bt197.2.1 ≥ 1))) else (some false)) else (if bt197.1 = bt200.1 then (if bt197.2.1 < bt200.2.1 then (if bt197.1 ≥ 1 then (some (decide (bt197.2.1 ≥ 1))) else (some false)) else (some false)) else (some false)))) else (some false)) else (some false)) else (some false)) else (some false))))))) = some r := by rw [if_neg (show ¬ (false = true) by decide)] at H; exact H
        clear H
        have H := H1
        clear H1
        obtain ⟨ji11, hji11⟩ : ∃ j_ : Int, (mn a1 a2) = j_ := ⟨_, rfl⟩
        replace H : (if (wrap64 ((a0.size : Int) + 1)) = 0 then (none) else (if (wrap64 ((wrap64 ((a0.size : Int) - (Int.tmod (wrap64 (ji11)) (wrap64 ((a0.size : Int) + 1))))) + 1)) = 0 then (none) else ((cursor_Where.f a0 (Int.tmod (wrap64 (ji11)) (wrap64 ((a0.size : Int) + 1)))).bind fun bt197 => ((cursor_Where.f a0 (wrap64 ((Int.tmod (wrap64 (ji11)) (wrap64 ((a0.size : Int) + 1))) + (Int.tmod (wrap64 (mx a1 a2)) (wrap64 ((wrap64 ((a0.size : Int) - (Int.tmod (wrap64 (ji11)) (wrap64 ((a0.size : Int) + 1))))) + 1)))))).bind fun bt200 => ((cursor_Place.f a0 bt197.1 bt197.2.1).bind fun bt203 => (if bt197.2.2 = 0 then (if bt200.2.2 = 0 then (if bt203.2 = 0 then (if bt203.1 = (Int.tmod (wrap64 (ji11)) (wrap64 ((a0.size : Int) + 1))) then (if (Int.tmod (wrap64 (ji11)) (wrap64 ((a0.size : Int) + 1))) = (wrap64 ((Int.tmod (wrap64 (ji11)) (wrap64 ((a0.size : Int) + 1))) + (Int.tmod (wrap64 (mx a1 a2)) (wrap64 ((wrap64 ((a0.size : Int) - (Int.tmod (wrap64 (ji11)) (wrap64 ((a0.size : Int) + 1))))) + 1))))) then (if bt197.1 ≥ 1 then (some (decide (bt197.2.1 ≥ 1))) else (some false)) else (if bt197.1 < bt200.1 then (if bt197.1 ≥ 1 then (some (decide (bt197.2.1 ≥ 1))) else (some false)) else (if bt197.1 = bt200.1 then (if bt197.2.1 < bt200.2.1 then (if bt197.1 ≥ 1 then (some (decide (bt197.2.1 ≥ 1))) else (some false)) else (some false)) else (some false)))) else (some false)) else (some false)) else (some false)) else (some false))))))) = some r := by first | (rw [hji11] at H; exact H) | (simp only [hji11] at H ⊢; exact H)
        have hji11_ : (if a2 < a1 then a2 else a1) = ji11 := hji11
        by_cases c12 : (wrap64 ((a0.size : Int) + 1)) = 0
        · rw [if_pos c12] at H
          exact absurd H (by simp)
        · rw [if_neg c12] at H
          have c12b0 : ((wrap64 ((a0.size : Int) + 1)) == 0) = false := beq_eq_false_iff_ne.mpr c12
          have c12b1 : ((wrap64 ((a0.size : Int) + 1)) != 0) = true := bne_iff_ne.mpr c12
          obtain ⟨ji13, hji13⟩ : ∃ j_ : Int, (mx a1 a2) = j_ := ⟨_, rfl⟩
          replace H : (if (wrap64 ((wrap64 ((a0.size : Int) - (Int.tmod (wrap64 (ji11)) (wrap64 ((a0.size : Int) + 1))))) + 1)) = 0 then (none) else ((cursor_Where.f a0 (Int.tmod (wrap64 (ji11)) (wrap64 ((a0.size : Int) + 1)))).bind fun bt197 => ((cursor_Where.f a0 (wrap64 ((Int.tmod (wrap64 (ji11)) (wrap64 ((a0.size : Int) + 1))) + (Int.tmod (wrap64 (ji13)) (wrap64 ((wrap64 ((a0.size : Int) - (Int.tmod (wrap64 (ji11)) (wrap64 ((a0.size : Int) + 1))))) + 1)))))).bind fun bt200 => ((cursor_Place.f a0 bt197.1 bt197.2.1).bind fun bt203 => (if bt197.2.2 = 0 then (if bt200.2.2 = 0 then (if bt203.2 = 0 then (if bt203.1 = (Int.tmod (wrap64 (ji11)) (wrap64 ((a0.size : Int) + 1))) then (if (Int.tmod (wrap64 (ji11)) (wrap64 ((a0.size : Int) + 1))) = (wrap64 ((Int.tmod (wrap64 (ji11)) (wrap64 ((a0.size : Int) + 1))) + (Int.tmod (wrap64 (ji13)) (wrap64 ((wrap64 ((a0.size : Int) - (Int.tmod (wrap64 (ji11)) (wrap64 ((a0.size : Int) + 1))))) + 1))))) then (if bt197.1 ≥ 1 then (some (decide (bt197.2.1 ≥ 1))) else (some false)) else (if bt197.1 < bt200.1 then (if bt197.1 ≥ 1 then (some (decide (bt197.2.1 ≥ 1))) else (some false)) else (if bt197.1 = bt200.1 then (if bt197.2.1 < bt200.2.1 then (if bt197.1 ≥ 1 then (some (decide (bt197.2.1 ≥ 1))) else (some false)) else (some false)) else (some false)))) else (some false)) else (some false)) else (some false)) else (some false)))))) = some r := by first | (rw [hji13] at H; exact H) | (simp only [hji13] at H ⊢; exact H)
          have hji13_ : (if a1 < a2 then a2 else a1) = ji13 := hji13
          by_cases c14 : (wrap64 ((wrap64 ((a0.size : Int) - (Int.tmod (wrap64 (ji11)) (wrap64 ((a0.size : Int) + 1))))) + 1)) = 0
          · rw [if_pos c14] at H
            exact absurd H (by simp)
          · rw [if_neg c14] at H
            have c14b0 : ((wrap64 ((wrap64 ((a0.size : Int) - (Int.tmod (wrap64 (ji11)) (wrap64 ((a0.size : Int) + 1))))) + 1)) == 0) = false := beq_eq_false_iff_ne.mpr c14
            have c14b1 : ((wrap64 ((wrap64 ((a0.size : Int) - (Int.tmod (wrap64 (ji11)) (wrap64 ((a0.size : Int) + 1))))) + 1)) != 0) = true := bne_iff_ne.mpr c14
            replace H := Option.bind_eq_some_iff.mp H
            obtain ⟨⟨t197, t198, t199⟩, A150, H⟩ := H
            replace H : ((cursor_Where.f a0 (wrap64 ((Int.tmod (wrap64 (ji11)) (wrap64 ((a0.size : Int) + 1))) + (Int.tmod (wrap64 (ji13)) (wrap64 ((wrap64 ((a0.size : Int) - (Int.tmod (wrap64 (ji11)) (wrap64 ((a0.size : Int) + 1))))) + 1)))))).bind fun bt200 => ((cursor_Place.f a0 t197 t198).bind fun bt203 => (if t199 = 0 then (if bt200.2.2 = 0 then (if bt203.2 = 0 then (if bt203.1 = (Int.tmod (wrap64 (ji11)) (wrap64 ((a0.size : Int) + 1))) then (if (Int.tmod (wrap64 (ji11)) (wrap64 ((a0.size : Int) + 1))) = (wrap64 ((Int.tmod (wrap64 (ji11)) (wrap64 ((a0.size : Int) + 1))) + (Int.tmod (wrap64 (ji13)) (wrap64 ((wrap64 ((a0.size : Int) - (Int.tmod (wrap64 (ji11)) (wrap64 ((a0.size : Int) + 1))))) + 1))))) then (if t197 ≥ 1 then (some (decide (t198 ≥ 1))) else (some false)) else (if t197 < bt200.1 then (if t197 ≥ 1 then (some (decide (t198 ≥ 1))) else (some false)) else (if t197 = bt200.1 then (if t198 < bt200.2.1 then (if t197 ≥ 1 then (some (decide (t198 ≥ 1))) else (some false)) else (some false)) else (some false)))) else (some false)) else (some false)) else (some false)) else (some false)))) = some r := H
            have A15 := Aside0.mk A150
            clear A150
            replace H := Option.bind_eq_some_iff.mp H
            obtain ⟨⟨t200, t201, t202⟩, A160, H⟩ := H
            replace H : ((cursor_Place.f a0 t197 t198).bind fun bt203 => (if t199 = 0 then (if t202 = 0 then (if bt203.2 = 0 then (if bt203.1 = (Int.tmod (wrap64 (ji11)) (wrap64 ((a0.size : Int) + 1))) then (if (Int.tmod (wrap64 (ji11)) (wrap64 ((a0.size : Int) + 1))) = (wrap64 ((Int.tmod (wrap64 (ji11)) (wrap64 ((a0.size : Int) + 1))) + (Int.tmod (wrap64 (ji13)) (wrap64 ((wrap64 ((a0.size : Int) - (Int.tmod (wrap64 (ji11)) (wrap64 ((a0.size : Int) + 1))))) + 1))))) then (if t197 ≥ 1 then (some (decide (t198 ≥ 1))) else (some false)) else (if t197 < t200 then (if t197 ≥ 1 then (some (decide (t198 ≥ 1))) else (some false)) else (if t197 = t200 then (if t198 < t201 then (if t197 ≥ 1 then (some (decide (t198 ≥ 1))) else (some false)) else (some false)) else (some false)))) else (some false)) else (some false)) else (some false)) else (some false))) = some r := H
            have A16 := Aside0.mk A160
            clear A160
            replace H := Option.bind_eq_some_iff.mp H
            obtain ⟨⟨t203, t204⟩, A170, H⟩ := H
            replace H : (if t199 = 0 then (if t202 = 0 then (if t204 = 0 then (if t203 = (Int.tmod (wrap64 (ji11)) (wrap64 ((a0.size : Int) + 1))) then (if (Int.tmod (wrap64 (ji11)) (wrap64 ((a0.size : Int) + 1))) = (wrap64 ((Int.tmod (wrap64 (ji11)) (wrap64 ((a0.size : Int) + 1))) + (Int.tmod (wrap64 (ji13)) (wrap64 ((wrap64 ((a0.size : Int) - (Int.tmod (wrap64 (ji11)) (wrap64 ((a0.size : Int) + 1))))) + 1))))) then (if t197 ≥ 1 then (some (decide (t198 ≥ 1))) else (some false)) else (if t197 < t200 then (if t197 ≥ 1 then (some (decide (t198 ≥ 1))) else (some false)) else (if t197 = t200 then (if t198 < t201 then (if t197 ≥ 1 then (some (decide (t198 ≥ 1))) else (some false)) else (some false)) else (some false)))) else (some false)) else (some false)) else (some false)) else (some false)) = some r := H
            have A17 := Aside0.mk A170
            clear A170
            by_cases c18 : t199 = 0
            · rw [if_pos c18] at H
              have c18b0 : (t199 == 0) = true := beq_iff_eq.mpr c18
              have c18b1 : (t199 != 0) = false := bne_eq_false_iff_eq.mpr c18
              clear c18
              by_cases c19 : t202 = 0
              · rw [if_pos c19] at H
                have c19b0 : (t202 == 0) = true := beq_iff_eq.mpr c19
                have c19b1 : (t202 != 0) = false := bne_eq_false_iff_eq.mpr c19
                clear c19
                by_cases c20 : t204 = 0
                · rw [if_pos c20] at H
                  have c20b0 : (t204 == 0) = true := beq_iff_eq.mpr c20
                  have c20b1 : (t204 != 0) = false := bne_eq_false_iff_eq.mpr c20
                  clear c20
                  by_cases c21 : t203 = (Int.tmod (wrap64 (ji11)) (wrap64 ((a0.size : Int) + 1)))
                  · rw [if_pos c21] at H
                    have c21b0 : (t203 == (Int.tmod (wrap64 (ji11)) (wrap64 ((a0.size : Int) + 1)))) = true := beq_iff_eq.mpr c21
                    have c21b1 : (t203 != (Int.tmod (wrap64 (ji11)) (wrap64 ((a0.size : Int) + 1)))) = false := bne_eq_false_iff_eq.mpr c21
                    clear c21
                    by_cases c22 : (Int.tmod (wrap64 (ji11)) (wrap64 ((a0.size : Int) + 1))) = (wrap64 ((Int.tmod (wrap64 (ji11)) (wrap64 ((a0.size : Int) + 1))) + (Int.tmod (wrap64 (ji13)) (wrap64 ((wrap64 ((a0.size : Int) - (Int.tmod (wrap64 (ji11)) (wrap64 ((a0.size : Int) + 1))))) + 1)))))
                    · rw [if_pos c22] at H
                      have c22b0 : ((Int.tmod (wrap64 (ji11)) (wrap64 ((a0.size : Int) + 1))) == (wrap64 ((Int.tmod (wrap64 (ji11)) (wrap64 ((a0.size : Int) + 1))) + (Int.tmod (wrap64 (ji13)) (wrap64 ((wrap64 ((a0.size : Int) - (Int.tmod (wrap64 (ji11)) (wrap64 ((a0.size : Int) + 1))))) + 1)))))) = true := beq_iff_eq.mpr c22
                      have c22b1 : ((Int.tmod (wrap64 (ji11)) (wrap64 ((a0.size : Int) + 1))) != (wrap64 ((Int.tmod (wrap64 (ji11)) (wrap64 ((a0.size : Int) + 1))) + (Int.tmod (wrap64 (ji13)) (wrap64 ((wrap64 ((a0.size : Int) - (Int.tmod (wrap64 (ji11)) (wrap64 ((a0.size : Int) + 1))))) + 1)))))) = false := bne_eq_false_iff_eq.mpr c22
                      clear c22
                      by_cases c23 : t197 ≥ 1
                      · rw [if_pos c23] at H
                        have c23b0 : decide (1 ≤ t197) = true := decide_eq_true c23
                        clear c23
                        obtain rfl := Option.some.inj H
                        go_wp2_with (first | ((with_reducible refine gate_callee (f := 18) rfl ?_); refine goesL_ (some 48) rfl rfl Tryd.func18 (by kernel_rfl) rfl #[.string a0, .int .i64 (Int.tmod (wrap64 (ji11)) (wrap64 ((a0.size : Int) + 1)))] rfl (by (try simp only [List.map_toArray, List.map_cons, List.map_nil]); first | done | (simp only [hji11]; rfl) | rfl | (simp only [List.length_drop, List.length_take]; rfl)) ?_; (with_reducible refine (cursor_Where.calls a0 (Int.tmod (wrap64 (ji11)) (wrap64 ((a0.size : Int) + 1))) t197 t198 t199 _ A15.out).mono ?_); rintro e w24 ⟨rfl, hb⟩; refine ⟨_, rfl, ?_⟩; have n0_ := Aside0.mk (below_step (by repeat (first | (with_reducible first | exact HB.out | apply below_alloc | apply pw_below_drewN | apply below_drew1) | exact HB.out)) hb); clear HB; have HB := n0_; clear n0_; (try clear hb); (try clear hb2); (try clear hk); (try clear hi)) | ((with_reducible refine gate_callee (f := 18) rfl ?_); refine goesL_ (some 55) rfl rfl Tryd.func18 (by kernel_rfl) rfl #[.string a0, .int .i64 (wrap64 ((Int.tmod (wrap64 (ji11)) (wrap64 ((a0.size : Int) + 1))) + (Int.tmod (wrap64 (ji13)) (wrap64 ((wrap64 ((a0.size : Int) - (Int.tmod (wrap64 (ji11)) (wrap64 ((a0.size : Int) + 1))))) + 1)))))] rfl (by (try simp only [List.map_toArray, List.map_cons, List.map_nil]); first | done | (simp only [hji11, hji13]; rfl) | rfl | (simp only [List.length_drop, List.length_take]; rfl)) ?_; (with_reducible refine (cursor_Where.calls a0 (wrap64 ((Int.tmod (wrap64 (ji11)) (wrap64 ((a0.size : Int) + 1))) + (Int.tmod (wrap64 (ji13)) (wrap64 ((wrap64 ((a0.size : Int) - (Int.tmod (wrap64 (ji11)) (wrap64 ((a0.size : Int) + 1))))) + 1))))) t200 t201 t202 _ A16.out).mono ?_); rintro e w25 ⟨rfl, hb⟩; refine ⟨_, rfl, ?_⟩; have n0_ := Aside0.mk (below_step (by repeat (first | (with_reducible first | exact HB.out | apply below_alloc | apply pw_below_drewN | apply below_drew1) | exact HB.out)) hb); clear HB; have HB := n0_; clear n0_; (try clear hb); (try clear hb2); (try clear hk); (try clear hi)) | ((with_reducible refine gate_callee (f := 20) rfl ?_); refine goesL_ (some 63) rfl rfl Tryd.func20 (by kernel_rfl) rfl #[.string a0, .int .i64 t197, .int .i64 t198] rfl (by (try simp only [List.map_toArray, List.map_cons, List.map_nil]); first | done | rfl | (simp only [List.length_drop, List.length_take]; rfl)) ?_; (with_reducible refine (cursor_Place.calls a0 t197 t198 t203 t204 _ A17.out).mono ?_); rintro e w26 ⟨rfl, hb⟩; refine ⟨_, rfl, ?_⟩; have n0_ := Aside0.mk (below_step (by repeat (first | (with_reducible first | exact HB.out | apply below_alloc | apply pw_below_drewN | apply below_drew1) | exact HB.out)) hb); clear HB; have HB := n0_; clear n0_; (try clear hb); (try clear hb2); (try clear hk); (try clear hi)))
                        go_ret
                        exact ⟨by first | rfl | (simp [errW_none, errW_some] <;> rfl) | (simp only [← hji11, ← hji13]; first | rfl | (simp [errW_none, errW_some] <;> rfl)) | (simp [*, errW_none, errW_some] <;> rfl), by repeat (first | (with_reducible first | exact HB.out | apply below_alloc | apply pw_below_drewN | apply below_drew1) | exact HB.out)⟩
                      · rw [if_neg c23] at H
                        have c23b0 : decide (1 ≤ t197) = false := decide_eq_false c23
                        clear c23
                        obtain rfl := Option.some.inj H
                        go_wp2_with (first | ((with_reducible refine gate_callee (f := 18) rfl ?_); refine goesL_ (some 48) rfl rfl Tryd.func18 (by kernel_rfl) rfl #[.string a0, .int .i64 (Int.tmod (wrap64 (ji11)) (wrap64 ((a0.size : Int) + 1)))] rfl (by (try simp only [List.map_toArray, List.map_cons, List.map_nil]); first | done | (simp only [hji11]; rfl) | rfl | (simp only [List.length_drop, List.length_take]; rfl)) ?_; (with_reducible refine (cursor_Where.calls a0 (Int.tmod (wrap64 (ji11)) (wrap64 ((a0.size : Int) + 1))) t197 t198 t199 _ A15.out).mono ?_); rintro e w27 ⟨rfl, hb⟩; refine ⟨_, rfl, ?_⟩; have n0_ := Aside0.mk (below_step (by repeat (first | (with_reducible first | exact HB.out | apply below_alloc | apply pw_below_drewN | apply below_drew1) | exact HB.out)) hb); clear HB; have HB := n0_; clear n0_; (try clear hb); (try clear hb2); (try clear hk); (try clear hi)) | ((with_reducible refine gate_callee (f := 18) rfl ?_); refine goesL_ (some 55) rfl rfl Tryd.func18 (by kernel_rfl) rfl #[.string a0, .int .i64 (wrap64 ((Int.tmod (wrap64 (ji11)) (wrap64 ((a0.size : Int) + 1))) + (Int.tmod (wrap64 (ji13)) (wrap64 ((wrap64 ((a0.size : Int) - (Int.tmod (wrap64 (ji11)) (wrap64 ((a0.size : Int) + 1))))) + 1)))))] rfl (by (try simp only [List.map_toArray, List.map_cons, List.map_nil]); first | done | (simp only [hji11, hji13]; rfl) | rfl | (simp only [List.length_drop, List.length_take]; rfl)) ?_; (with_reducible refine (cursor_Where.calls a0 (wrap64 ((Int.tmod (wrap64 (ji11)) (wrap64 ((a0.size : Int) + 1))) + (Int.tmod (wrap64 (ji13)) (wrap64 ((wrap64 ((a0.size : Int) - (Int.tmod (wrap64 (ji11)) (wrap64 ((a0.size : Int) + 1))))) + 1))))) t200 t201 t202 _ A16.out).mono ?_); rintro e w28 ⟨rfl, hb⟩; refine ⟨_, rfl, ?_⟩; have n0_ := Aside0.mk (below_step (by repeat (first | (with_reducible first | exact HB.out | apply below_alloc | apply pw_below_drewN | apply below_drew1) | exact HB.out)) hb); clear HB; have HB := n0_; clear n0_; (try clear hb); (try clear hb2); (try clear hk); (try clear hi)) | ((with_reducible refine gate_callee (f := 20) rfl ?_); refine goesL_ (some 63) rfl rfl Tryd.func20 (by kernel_rfl) rfl #[.string a0, .int .i64 t197, .int .i64 t198] rfl (by (try simp only [List.map_toArray, List.map_cons, List.map_nil]); first | done | rfl | (simp only [List.length_drop, List.length_take]; rfl)) ?_; (with_reducible refine (cursor_Place.calls a0 t197 t198 t203 t204 _ A17.out).mono ?_); rintro e w29 ⟨rfl, hb⟩; refine ⟨_, rfl, ?_⟩; have n0_ := Aside0.mk (below_step (by repeat (first | (with_reducible first | exact HB.out | apply below_alloc | apply pw_below_drewN | apply below_drew1) | exact HB.out)) hb); clear HB; have HB := n0_; clear n0_; (try clear hb); (try clear hb2); (try clear hk); (try clear hi)))
                        go_ret
                        exact ⟨by first | rfl | (simp [errW_none, errW_some] <;> rfl) | (simp only [← hji11, ← hji13]; first | rfl | (simp [errW_none, errW_some] <;> rfl)) | (simp [*, errW_none, errW_some] <;> rfl), by repeat (first | (with_reducible first | exact HB.out | apply below_alloc | apply pw_below_drewN | apply below_drew1) | exact HB.out)⟩
                    · rw [if_neg c22] at H
                      have c22b0 : ((Int.tmod (wrap64 (ji11)) (wrap64 ((a0.size : Int) + 1))) == (wrap64 ((Int.tmod (wrap64 (ji11)) (wrap64 ((a0.size : Int) + 1))) + (Int.tmod (wrap64 (ji13)) (wrap64 ((wrap64 ((a0.size : Int) - (Int.tmod (wrap64 (ji11)) (wrap64 ((a0.size : Int) + 1))))) + 1)))))) = false := beq_eq_false_iff_ne.mpr c22
                      have c22b1 : ((Int.tmod (wrap64 (ji11)) (wrap64 ((a0.size : Int) + 1))) != (wrap64 ((Int.tmod (wrap64 (ji11)) (wrap64 ((a0.size : Int) + 1))) + (Int.tmod (wrap64 (ji13)) (wrap64 ((wrap64 ((a0.size : Int) - (Int.tmod (wrap64 (ji11)) (wrap64 ((a0.size : Int) + 1))))) + 1)))))) = true := bne_iff_ne.mpr c22
                      by_cases c30 : t197 < t200
                      · rw [if_pos c30] at H
                        have c30b0 : decide (t197 < t200) = true := decide_eq_true c30
                        clear c30
                        by_cases c31 : t197 ≥ 1
                        · rw [if_pos c31] at H
                          have c31b0 : decide (1 ≤ t197) = true := decide_eq_true c31
                          clear c31
                          obtain rfl := Option.some.inj H
                          go_wp2_with (first | ((with_reducible refine gate_callee (f := 18) rfl ?_); refine goesL_ (some 48) rfl rfl Tryd.func18 (by kernel_rfl) rfl #[.string a0, .int .i64 (Int.tmod (wrap64 (ji11)) (wrap64 ((a0.size : Int) + 1)))] rfl (by (try simp only [List.map_toArray, List.map_cons, List.map_nil]); first | done | (simp only [hji11]; rfl) | rfl | (simp only [List.length_drop, List.length_take]; rfl)) ?_; (with_reducible refine (cursor_Where.calls a0 (Int.tmod (wrap64 (ji11)) (wrap64 ((a0.size : Int) + 1))) t197 t198 t199 _ A15.out).mono ?_); rintro e w32 ⟨rfl, hb⟩; refine ⟨_, rfl, ?_⟩; have n0_ := Aside0.mk (below_step (by repeat (first | (with_reducible first | exact HB.out | apply below_alloc | apply pw_below_drewN | apply below_drew1) | exact HB.out)) hb); clear HB; have HB := n0_; clear n0_; (try clear hb); (try clear hb2); (try clear hk); (try clear hi)) | ((with_reducible refine gate_callee (f := 18) rfl ?_); refine goesL_ (some 55) rfl rfl Tryd.func18 (by kernel_rfl) rfl #[.string a0, .int .i64 (wrap64 ((Int.tmod (wrap64 (ji11)) (wrap64 ((a0.size : Int) + 1))) + (Int.tmod (wrap64 (ji13)) (wrap64 ((wrap64 ((a0.size : Int) - (Int.tmod (wrap64 (ji11)) (wrap64 ((a0.size : Int) + 1))))) + 1)))))] rfl (by (try simp only [List.map_toArray, List.map_cons, List.map_nil]); first | done | (simp only [hji11, hji13]; rfl) | rfl | (simp only [List.length_drop, List.length_take]; rfl)) ?_; (with_reducible refine (cursor_Where.calls a0 (wrap64 ((Int.tmod (wrap64 (ji11)) (wrap64 ((a0.size : Int) + 1))) + (Int.tmod (wrap64 (ji13)) (wrap64 ((wrap64 ((a0.size : Int) - (Int.tmod (wrap64 (ji11)) (wrap64 ((a0.size : Int) + 1))))) + 1))))) t200 t201 t202 _ A16.out).mono ?_); rintro e w33 ⟨rfl, hb⟩; refine ⟨_, rfl, ?_⟩; have n0_ := Aside0.mk (below_step (by repeat (first | (with_reducible first | exact HB.out | apply below_alloc | apply pw_below_drewN | apply below_drew1) | exact HB.out)) hb); clear HB; have HB := n0_; clear n0_; (try clear hb); (try clear hb2); (try clear hk); (try clear hi)) | ((with_reducible refine gate_callee (f := 20) rfl ?_); refine goesL_ (some 63) rfl rfl Tryd.func20 (by kernel_rfl) rfl #[.string a0, .int .i64 t197, .int .i64 t198] rfl (by (try simp only [List.map_toArray, List.map_cons, List.map_nil]); first | done | rfl | (simp only [List.length_drop, List.length_take]; rfl)) ?_; (with_reducible refine (cursor_Place.calls a0 t197 t198 t203 t204 _ A17.out).mono ?_); rintro e w34 ⟨rfl, hb⟩; refine ⟨_, rfl, ?_⟩; have n0_ := Aside0.mk (below_step (by repeat (first | (with_reducible first | exact HB.out | apply below_alloc | apply pw_below_drewN | apply below_drew1) | exact HB.out)) hb); clear HB; have HB := n0_; clear n0_; (try clear hb); (try clear hb2); (try clear hk); (try clear hi)))
                          go_ret
                          exact ⟨by first | rfl | (simp [errW_none, errW_some] <;> rfl) | (simp only [← hji11, ← hji13]; first | rfl | (simp [errW_none, errW_some] <;> rfl)) | (simp [*, errW_none, errW_some] <;> rfl), by repeat (first | (with_reducible first | exact HB.out | apply below_alloc | apply pw_below_drewN | apply below_drew1) | exact HB.out)⟩
                        · rw [if_neg c31] at H
                          have c31b0 : decide (1 ≤ t197) = false := decide_eq_false c31
                          clear c31
                          obtain rfl := Option.some.inj H
                          go_wp2_with (first | ((with_reducible refine gate_callee (f := 18) rfl ?_); refine goesL_ (some 48) rfl rfl Tryd.func18 (by kernel_rfl) rfl #[.string a0, .int .i64 (Int.tmod (wrap64 (ji11)) (wrap64 ((a0.size : Int) + 1)))] rfl (by (try simp only [List.map_toArray, List.map_cons, List.map_nil]); first | done | (simp only [hji11]; rfl) | rfl | (simp only [List.length_drop, List.length_take]; rfl)) ?_; (with_reducible refine (cursor_Where.calls a0 (Int.tmod (wrap64 (ji11)) (wrap64 ((a0.size : Int) + 1))) t197 t198 t199 _ A15.out).mono ?_); rintro e w35 ⟨rfl, hb⟩; refine ⟨_, rfl, ?_⟩; have n0_ := Aside0.mk (below_step (by repeat (first | (with_reducible first | exact HB.out | apply below_alloc | apply pw_below_drewN | apply below_drew1) | exact HB.out)) hb); clear HB; have HB := n0_; clear n0_; (try clear hb); (try clear hb2); (try clear hk); (try clear hi)) | ((with_reducible refine gate_callee (f := 18) rfl ?_); refine goesL_ (some 55) rfl rfl Tryd.func18 (by kernel_rfl) rfl #[.string a0, .int .i64 (wrap64 ((Int.tmod (wrap64 (ji11)) (wrap64 ((a0.size : Int) + 1))) + (Int.tmod (wrap64 (ji13)) (wrap64 ((wrap64 ((a0.size : Int) - (Int.tmod (wrap64 (ji11)) (wrap64 ((a0.size : Int) + 1))))) + 1)))))] rfl (by (try simp only [List.map_toArray, List.map_cons, List.map_nil]); first | done | (simp only [hji11, hji13]; rfl) | rfl | (simp only [List.length_drop, List.length_take]; rfl)) ?_; (with_reducible refine (cursor_Where.calls a0 (wrap64 ((Int.tmod (wrap64 (ji11)) (wrap64 ((a0.size : Int) + 1))) + (Int.tmod (wrap64 (ji13)) (wrap64 ((wrap64 ((a0.size : Int) - (Int.tmod (wrap64 (ji11)) (wrap64 ((a0.size : Int) + 1))))) + 1))))) t200 t201 t202 _ A16.out).mono ?_); rintro e w36 ⟨rfl, hb⟩; refine ⟨_, rfl, ?_⟩; have n0_ := Aside0.mk (below_step (by repeat (first | (with_reducible first | exact HB.out | apply below_alloc | apply pw_below_drewN | apply below_drew1) | exact HB.out)) hb); clear HB; have HB := n0_; clear n0_; (try clear hb); (try clear hb2); (try clear hk); (try clear hi)) | ((with_reducible refine gate_callee (f := 20) rfl ?_); refine goesL_ (some 63) rfl rfl Tryd.func20 (by kernel_rfl) rfl #[.string a0, .int .i64 t197, .int .i64 t198] rfl (by (try simp only [List.map_toArray, List.map_cons, List.map_nil]); first | done | rfl | (simp only [List.length_drop, List.length_take]; rfl)) ?_; (with_reducible refine (cursor_Place.calls a0 t197 t198 t203 t204 _ A17.out).mono ?_); rintro e w37 ⟨rfl, hb⟩; refine ⟨_, rfl, ?_⟩; have n0_ := Aside0.mk (below_step (by repeat (first | (with_reducible first | exact HB.out | apply below_alloc | apply pw_below_drewN | apply below_drew1) | exact HB.out)) hb); clear HB; have HB := n0_; clear n0_; (try clear hb); (try clear hb2); (try clear hk); (try clear hi)))
                          go_ret
                          exact ⟨by first | rfl | (simp [errW_none, errW_some] <;> rfl) | (simp only [← hji11, ← hji13]; first | rfl | (simp [errW_none, errW_some] <;> rfl)) | (simp [*, errW_none, errW_some] <;> rfl), by repeat (first | (with_reducible first | exact HB.out | apply below_alloc | apply pw_below_drewN | apply below_drew1) | exact HB.out)⟩
                      · rw [if_neg c30] at H
                        have c30b0 : decide (t197 < t200) = false := decide_eq_false c30
                        clear c30
                        by_cases c38 : t197 = t200
                        · rw [if_pos c38] at H
                          have c38b0 : (t197 == t200) = true := beq_iff_eq.mpr c38
                          have c38b1 : (t197 != t200) = false := bne_eq_false_iff_eq.mpr c38
                          clear c38
                          by_cases c39 : t198 < t201
                          · rw [if_pos c39] at H
                            have c39b0 : decide (t198 < t201) = true := decide_eq_true c39
                            clear c39
                            by_cases c40 : t197 ≥ 1
                            · rw [if_pos c40] at H
                              have c40b0 : decide (1 ≤ t197) = true := decide_eq_true c40
                              clear c40
                              obtain rfl := Option.some.inj H
                              go_wp2_with (first | ((with_reducible refine gate_callee (f := 18) rfl ?_); refine goesL_ (some 48) rfl rfl Tryd.func18 (by kernel_rfl) rfl #[.string a0, .int .i64 (Int.tmod (wrap64 (ji11)) (wrap64 ((a0.size : Int) + 1)))] rfl (by (try simp only [List.map_toArray, List.map_cons, List.map_nil]); first | done | (simp only [hji11]; rfl) | rfl | (simp only [List.length_drop, List.length_take]; rfl)) ?_; (with_reducible refine (cursor_Where.calls a0 (Int.tmod (wrap64 (ji11)) (wrap64 ((a0.size : Int) + 1))) t197 t198 t199 _ A15.out).mono ?_); rintro e w41 ⟨rfl, hb⟩; refine ⟨_, rfl, ?_⟩; have n0_ := Aside0.mk (below_step (by repeat (first | (with_reducible first | exact HB.out | apply below_alloc | apply pw_below_drewN | apply below_drew1) | exact HB.out)) hb); clear HB; have HB := n0_; clear n0_; (try clear hb); (try clear hb2); (try clear hk); (try clear hi)) | ((with_reducible refine gate_callee (f := 18) rfl ?_); refine goesL_ (some 55) rfl rfl Tryd.func18 (by kernel_rfl) rfl #[.string a0, .int .i64 (wrap64 ((Int.tmod (wrap64 (ji11)) (wrap64 ((a0.size : Int) + 1))) + (Int.tmod (wrap64 (ji13)) (wrap64 ((wrap64 ((a0.size : Int) - (Int.tmod (wrap64 (ji11)) (wrap64 ((a0.size : Int) + 1))))) + 1)))))] rfl (by (try simp only [List.map_toArray, List.map_cons, List.map_nil]); first | done | (simp only [hji11, hji13]; rfl) | rfl | (simp only [List.length_drop, List.length_take]; rfl)) ?_; (with_reducible refine (cursor_Where.calls a0 (wrap64 ((Int.tmod (wrap64 (ji11)) (wrap64 ((a0.size : Int) + 1))) + (Int.tmod (wrap64 (ji13)) (wrap64 ((wrap64 ((a0.size : Int) - (Int.tmod (wrap64 (ji11)) (wrap64 ((a0.size : Int) + 1))))) + 1))))) t200 t201 t202 _ A16.out).mono ?_); rintro e w42 ⟨rfl, hb⟩; refine ⟨_, rfl, ?_⟩; have n0_ := Aside0.mk (below_step (by repeat (first | (with_reducible first | exact HB.out | apply below_alloc | apply pw_below_drewN | apply below_drew1) | exact HB.out)) hb); clear HB; have HB := n0_; clear n0_; (try clear hb); (try clear hb2); (try clear hk); (try clear hi)) | ((with_reducible refine gate_callee (f := 20) rfl ?_); refine goesL_ (some 63) rfl rfl Tryd.func20 (by kernel_rfl) rfl #[.string a0, .int .i64 t197, .int .i64 t198] rfl (by (try simp only [List.map_toArray, List.map_cons, List.map_nil]); first | done | rfl | (simp only [List.length_drop, List.length_take]; rfl)) ?_; (with_reducible refine (cursor_Place.calls a0 t197 t198 t203 t204 _ A17.out).mono ?_); rintro e w43 ⟨rfl, hb⟩; refine ⟨_, rfl, ?_⟩; have n0_ := Aside0.mk (below_step (by repeat (first | (with_reducible first | exact HB.out | apply below_alloc | apply pw_below_drewN | apply below_drew1) | exact HB.out)) hb); clear HB; have HB := n0_; clear n0_; (try clear hb); (try clear hb2); (try clear hk); (try clear hi)))
                              go_ret
                              exact ⟨by first | rfl | (simp [errW_none, errW_some] <;> rfl) | (simp only [← hji11, ← hji13]; first | rfl | (simp [errW_none, errW_some] <;> rfl)) | (simp [*, errW_none, errW_some] <;> rfl), by repeat (first | (with_reducible first | exact HB.out | apply below_alloc | apply pw_below_drewN | apply below_drew1) | exact HB.out)⟩
                            · rw [if_neg c40] at H
                              have c40b0 : decide (1 ≤ t197) = false := decide_eq_false c40
                              clear c40
                              obtain rfl := Option.some.inj H
                              go_wp2_with (first | ((with_reducible refine gate_callee (f := 18) rfl ?_); refine goesL_ (some 48) rfl rfl Tryd.func18 (by kernel_rfl) rfl #[.string a0, .int .i64 (Int.tmod (wrap64 (ji11)) (wrap64 ((a0.size : Int) + 1)))] rfl (by (try simp only [List.map_toArray, List.map_cons, List.map_nil]); first | done | (simp only [hji11]; rfl) | rfl | (simp only [List.length_drop, List.length_take]; rfl)) ?_; (with_reducible refine (cursor_Where.calls a0 (Int.tmod (wrap64 (ji11)) (wrap64 ((a0.size : Int) + 1))) t197 t198 t199 _ A15.out).mono ?_); rintro e w44 ⟨rfl, hb⟩; refine ⟨_, rfl, ?_⟩; have n0_ := Aside0.mk (below_step (by repeat (first | (with_reducible first | exact HB.out | apply below_alloc | apply pw_below_drewN | apply below_drew1) | exact HB.out)) hb); clear HB; have HB := n0_; clear n0_; (try clear hb); (try clear hb2); (try clear hk); (try clear hi)) | ((with_reducible refine gate_callee (f := 18) rfl ?_); refine goesL_ (some 55) rfl rfl Tryd.func18 (by kernel_rfl) rfl #[.string a0, .int .i64 (wrap64 ((Int.tmod (wrap64 (ji11)) (wrap64 ((a0.size : Int) + 1))) + (Int.tmod (wrap64 (ji13)) (wrap64 ((wrap64 ((a0.size : Int) - (Int.tmod (wrap64 (ji11)) (wrap64 ((a0.size : Int) + 1))))) + 1)))))] rfl (by (try simp only [List.map_toArray, List.map_cons, List.map_nil]); first | done | (simp only [hji11, hji13]; rfl) | rfl | (simp only [List.length_drop, List.length_take]; rfl)) ?_; (with_reducible refine (cursor_Where.calls a0 (wrap64 ((Int.tmod (wrap64 (ji11)) (wrap64 ((a0.size : Int) + 1))) + (Int.tmod (wrap64 (ji13)) (wrap64 ((wrap64 ((a0.size : Int) - (Int.tmod (wrap64 (ji11)) (wrap64 ((a0.size : Int) + 1))))) + 1))))) t200 t201 t202 _ A16.out).mono ?_); rintro e w45 ⟨rfl, hb⟩; refine ⟨_, rfl, ?_⟩; have n0_ := Aside0.mk (below_step (by repeat (first | (with_reducible first | exact HB.out | apply below_alloc | apply pw_below_drewN | apply below_drew1) | exact HB.out)) hb); clear HB; have HB := n0_; clear n0_; (try clear hb); (try clear hb2); (try clear hk); (try clear hi)) | ((with_reducible refine gate_callee (f := 20) rfl ?_); refine goesL_ (some 63) rfl rfl Tryd.func20 (by kernel_rfl) rfl #[.string a0, .int .i64 t197, .int .i64 t198] rfl (by (try simp only [List.map_toArray, List.map_cons, List.map_nil]); first | done | rfl | (simp only [List.length_drop, List.length_take]; rfl)) ?_; (with_reducible refine (cursor_Place.calls a0 t197 t198 t203 t204 _ A17.out).mono ?_); rintro e w46 ⟨rfl, hb⟩; refine ⟨_, rfl, ?_⟩; have n0_ := Aside0.mk (below_step (by repeat (first | (with_reducible first | exact HB.out | apply below_alloc | apply pw_below_drewN | apply below_drew1) | exact HB.out)) hb); clear HB; have HB := n0_; clear n0_; (try clear hb); (try clear hb2); (try clear hk); (try clear hi)))
                              go_ret
                              exact ⟨by first | rfl | (simp [errW_none, errW_some] <;> rfl) | (simp only [← hji11, ← hji13]; first | rfl | (simp [errW_none, errW_some] <;> rfl)) | (simp [*, errW_none, errW_some] <;> rfl), by repeat (first | (with_reducible first | exact HB.out | apply below_alloc | apply pw_below_drewN | apply below_drew1) | exact HB.out)⟩
                          · rw [if_neg c39] at H
                            have c39b0 : decide (t198 < t201) = false := decide_eq_false c39
                            clear c39
                            obtain rfl := Option.some.inj H
                            go_wp2_with (first | ((with_reducible refine gate_callee (f := 18) rfl ?_); refine goesL_ (some 48) rfl rfl Tryd.func18 (by kernel_rfl) rfl #[.string a0, .int .i64 (Int.tmod (wrap64 (ji11)) (wrap64 ((a0.size : Int) + 1)))] rfl (by (try simp only [List.map_toArray, List.map_cons, List.map_nil]); first | done | (simp only [hji11]; rfl) | rfl | (simp only [List.length_drop, List.length_take]; rfl)) ?_; (with_reducible refine (cursor_Where.calls a0 (Int.tmod (wrap64 (ji11)) (wrap64 ((a0.size : Int) + 1))) t197 t198 t199 _ A15.out).mono ?_); rintro e w47 ⟨rfl, hb⟩; refine ⟨_, rfl, ?_⟩; have n0_ := Aside0.mk (below_step (by repeat (first | (with_reducible first | exact HB.out | apply below_alloc | apply pw_below_drewN | apply below_drew1) | exact HB.out)) hb); clear HB; have HB := n0_; clear n0_; (try clear hb); (try clear hb2); (try clear hk); (try clear hi)) | ((with_reducible refine gate_callee (f := 18) rfl ?_); refine goesL_ (some 55) rfl rfl Tryd.func18 (by kernel_rfl) rfl #[.string a0, .int .i64 (wrap64 ((Int.tmod (wrap64 (ji11)) (wrap64 ((a0.size : Int) + 1))) + (Int.tmod (wrap64 (ji13)) (wrap64 ((wrap64 ((a0.size : Int) - (Int.tmod (wrap64 (ji11)) (wrap64 ((a0.size : Int) + 1))))) + 1)))))] rfl (by (try simp only [List.map_toArray, List.map_cons, List.map_nil]); first | done | (simp only [hji11, hji13]; rfl) | rfl | (simp only [List.length_drop, List.length_take]; rfl)) ?_; (with_reducible refine (cursor_Where.calls a0 (wrap64 ((Int.tmod (wrap64 (ji11)) (wrap64 ((a0.size : Int) + 1))) + (Int.tmod (wrap64 (ji13)) (wrap64 ((wrap64 ((a0.size : Int) - (Int.tmod (wrap64 (ji11)) (wrap64 ((a0.size : Int) + 1))))) + 1))))) t200 t201 t202 _ A16.out).mono ?_); rintro e w48 ⟨rfl, hb⟩; refine ⟨_, rfl, ?_⟩; have n0_ := Aside0.mk (below_step (by repeat (first | (with_reducible first | exact HB.out | apply below_alloc | apply pw_below_drewN | apply below_drew1) | exact HB.out)) hb); clear HB; have HB := n0_; clear n0_; (try clear hb); (try clear hb2); (try clear hk); (try clear hi)) | ((with_reducible refine gate_callee (f := 20) rfl ?_); refine goesL_ (some 63) rfl rfl Tryd.func20 (by kernel_rfl) rfl #[.string a0, .int .i64 t197, .int .i64 t198] rfl (by (try simp only [List.map_toArray, List.map_cons, List.map_nil]); first | done | rfl | (simp only [List.length_drop, List.length_take]; rfl)) ?_; (with_reducible refine (cursor_Place.calls a0 t197 t198 t203 t204 _ A17.out).mono ?_); rintro e w49 ⟨rfl, hb⟩; refine ⟨_, rfl, ?_⟩; have n0_ := Aside0.mk (below_step (by repeat (first | (with_reducible first | exact HB.out | apply below_alloc | apply pw_below_drewN | apply below_drew1) | exact HB.out)) hb); clear HB; have HB := n0_; clear n0_; (try clear hb); (try clear hb2); (try clear hk); (try clear hi)))
                            go_ret
                            exact ⟨by first | rfl | (simp [errW_none, errW_some] <;> rfl) | (simp only [← hji11, ← hji13]; first | rfl | (simp [errW_none, errW_some] <;> rfl)) | (simp [*, errW_none, errW_some] <;> rfl), by repeat (first | (with_reducible first | exact HB.out | apply below_alloc | apply pw_below_drewN | apply below_drew1) | exact HB.out)⟩
                        · rw [if_neg c38] at H
                          have c38b0 : (t197 == t200) = false := beq_eq_false_iff_ne.mpr c38
                          have c38b1 : (t197 != t200) = true := bne_iff_ne.mpr c38
                          obtain rfl := Option.some.inj H
                          go_wp2_with (first | ((with_reducible refine gate_callee (f := 18) rfl ?_); refine goesL_ (some 48) rfl rfl Tryd.func18 (by kernel_rfl) rfl #[.string a0, .int .i64 (Int.tmod (wrap64 (ji11)) (wrap64 ((a0.size : Int) + 1)))] rfl (by (try simp only [List.map_toArray, List.map_cons, List.map_nil]); first | done | (simp only [hji11]; rfl) | rfl | (simp only [List.length_drop, List.length_take]; rfl)) ?_; (with_reducible refine (cursor_Where.calls a0 (Int.tmod (wrap64 (ji11)) (wrap64 ((a0.size : Int) + 1))) t197 t198 t199 _ A15.out).mono ?_); rintro e w50 ⟨rfl, hb⟩; refine ⟨_, rfl, ?_⟩; have n0_ := Aside0.mk (below_step (by repeat (first | (with_reducible first | exact HB.out | apply below_alloc | apply pw_below_drewN | apply below_drew1) | exact HB.out)) hb); clear HB; have HB := n0_; clear n0_; (try clear hb); (try clear hb2); (try clear hk); (try clear hi)) | ((with_reducible refine gate_callee (f := 18) rfl ?_); refine goesL_ (some 55) rfl rfl Tryd.func18 (by kernel_rfl) rfl #[.string a0, .int .i64 (wrap64 ((Int.tmod (wrap64 (ji11)) (wrap64 ((a0.size : Int) + 1))) + (Int.tmod (wrap64 (ji13)) (wrap64 ((wrap64 ((a0.size : Int) - (Int.tmod (wrap64 (ji11)) (wrap64 ((a0.size : Int) + 1))))) + 1)))))] rfl (by (try simp only [List.map_toArray, List.map_cons, List.map_nil]); first | done | (simp only [hji11, hji13]; rfl) | rfl | (simp only [List.length_drop, List.length_take]; rfl)) ?_; (with_reducible refine (cursor_Where.calls a0 (wrap64 ((Int.tmod (wrap64 (ji11)) (wrap64 ((a0.size : Int) + 1))) + (Int.tmod (wrap64 (ji13)) (wrap64 ((wrap64 ((a0.size : Int) - (Int.tmod (wrap64 (ji11)) (wrap64 ((a0.size : Int) + 1))))) + 1))))) t200 t201 t202 _ A16.out).mono ?_); rintro e w51 ⟨rfl, hb⟩; refine ⟨_, rfl, ?_⟩; have n0_ := Aside0.mk (below_step (by repeat (first | (with_reducible first | exact HB.out | apply below_alloc | apply pw_below_drewN | apply below_drew1) | exact HB.out)) hb); clear HB; have HB := n0_; clear n0_; (try clear hb); (try clear hb2); (try clear hk); (try clear hi)) | ((with_reducible refine gate_callee (f := 20) rfl ?_); refine goesL_ (some 63) rfl rfl Tryd.func20 (by kernel_rfl) rfl #[.string a0, .int .i64 t197, .int .i64 t198] rfl (by (try simp only [List.map_toArray, List.map_cons, List.map_nil]); first | done | rfl | (simp only [List.length_drop, List.length_take]; rfl)) ?_; (with_reducible refine (cursor_Place.calls a0 t197 t198 t203 t204 _ A17.out).mono ?_); rintro e w52 ⟨rfl, hb⟩; refine ⟨_, rfl, ?_⟩; have n0_ := Aside0.mk (below_step (by repeat (first | (with_reducible first | exact HB.out | apply below_alloc | apply pw_below_drewN | apply below_drew1) | exact HB.out)) hb); clear HB; have HB := n0_; clear n0_; (try clear hb); (try clear hb2); (try clear hk); (try clear hi)))
                          go_ret
                          exact ⟨by first | rfl | (simp [errW_none, errW_some] <;> rfl) | (simp only [← hji11, ← hji13]; first | rfl | (simp [errW_none, errW_some] <;> rfl)) | (simp [*, errW_none, errW_some] <;> rfl), by repeat (first | (with_reducible first | exact HB.out | apply below_alloc | apply pw_below_drewN | apply below_drew1) | exact HB.out)⟩
                  · rw [if_neg c21] at H
                    have c21b0 : (t203 == (Int.tmod (wrap64 (ji11)) (wrap64 ((a0.size : Int) + 1)))) = false := beq_eq_false_iff_ne.mpr c21
                    have c21b1 : (t203 != (Int.tmod (wrap64 (ji11)) (wrap64 ((a0.size : Int) + 1)))) = true := bne_iff_ne.mpr c21
                    obtain rfl := Option.some.inj H
                    go_wp2_with (first | ((with_reducible refine gate_callee (f := 18) rfl ?_); refine goesL_ (some 48) rfl rfl Tryd.func18 (by kernel_rfl) rfl #[.string a0, .int .i64 (Int.tmod (wrap64 (ji11)) (wrap64 ((a0.size : Int) + 1)))] rfl (by (try simp only [List.map_toArray, List.map_cons, List.map_nil]); first | done | (simp only [hji11]; rfl) | rfl | (simp only [List.length_drop, List.length_take]; rfl)) ?_; (with_reducible refine (cursor_Where.calls a0 (Int.tmod (wrap64 (ji11)) (wrap64 ((a0.size : Int) + 1))) t197 t198 t199 _ A15.out).mono ?_); rintro e w53 ⟨rfl, hb⟩; refine ⟨_, rfl, ?_⟩; have n0_ := Aside0.mk (below_step (by repeat (first | (with_reducible first | exact HB.out | apply below_alloc | apply pw_below_drewN | apply below_drew1) | exact HB.out)) hb); clear HB; have HB := n0_; clear n0_; (try clear hb); (try clear hb2); (try clear hk); (try clear hi)) | ((with_reducible refine gate_callee (f := 18) rfl ?_); refine goesL_ (some 55) rfl rfl Tryd.func18 (by kernel_rfl) rfl #[.string a0, .int .i64 (wrap64 ((Int.tmod (wrap64 (ji11)) (wrap64 ((a0.size : Int) + 1))) + (Int.tmod (wrap64 (ji13)) (wrap64 ((wrap64 ((a0.size : Int) - (Int.tmod (wrap64 (ji11)) (wrap64 ((a0.size : Int) + 1))))) + 1)))))] rfl (by (try simp only [List.map_toArray, List.map_cons, List.map_nil]); first | done | (simp only [hji11, hji13]; rfl) | rfl | (simp only [List.length_drop, List.length_take]; rfl)) ?_; (with_reducible refine (cursor_Where.calls a0 (wrap64 ((Int.tmod (wrap64 (ji11)) (wrap64 ((a0.size : Int) + 1))) + (Int.tmod (wrap64 (ji13)) (wrap64 ((wrap64 ((a0.size : Int) - (Int.tmod (wrap64 (ji11)) (wrap64 ((a0.size : Int) + 1))))) + 1))))) t200 t201 t202 _ A16.out).mono ?_); rintro e w54 ⟨rfl, hb⟩; refine ⟨_, rfl, ?_⟩; have n0_ := Aside0.mk (below_step (by repeat (first | (with_reducible first | exact HB.out | apply below_alloc | apply pw_below_drewN | apply below_drew1) | exact HB.out)) hb); clear HB; have HB := n0_; clear n0_; (try clear hb); (try clear hb2); (try clear hk); (try clear hi)) | ((with_reducible refine gate_callee (f := 20) rfl ?_); refine goesL_ (some 63) rfl rfl Tryd.func20 (by kernel_rfl) rfl #[.string a0, .int .i64 t197, .int .i64 t198] rfl (by (try simp only [List.map_toArray, List.map_cons, List.map_nil]); first | done | rfl | (simp only [List.length_drop, List.length_take]; rfl)) ?_; (with_reducible refine (cursor_Place.calls a0 t197 t198 t203 t204 _ A17.out).mono ?_); rintro e w55 ⟨rfl, hb⟩; refine ⟨_, rfl, ?_⟩; have n0_ := Aside0.mk (below_step (by repeat (first | (with_reducible first | exact HB.out | apply below_alloc | apply pw_below_drewN | apply below_drew1) | exact HB.out)) hb); clear HB; have HB := n0_; clear n0_; (try clear hb); (try clear hb2); (try clear hk); (try clear hi)))
                    go_ret
                    exact ⟨by first | rfl | (simp [errW_none, errW_some] <;> rfl) | (simp only [← hji11, ← hji13]; first | rfl | (simp [errW_none, errW_some] <;> rfl)) | (simp [*, errW_none, errW_some] <;> rfl), by repeat (first | (with_reducible first | exact HB.out | apply below_alloc | apply pw_below_drewN | apply below_drew1) | exact HB.out)⟩
                · rw [if_neg c20] at H
                  have c20b0 : (t204 == 0) = false := beq_eq_false_iff_ne.mpr c20
                  have c20b1 : (t204 != 0) = true := bne_iff_ne.mpr c20
                  obtain rfl := Option.some.inj H
                  go_wp2_with (first | ((with_reducible refine gate_callee (f := 18) rfl ?_); refine goesL_ (some 48) rfl rfl Tryd.func18 (by kernel_rfl) rfl #[.string a0, .int .i64 (Int.tmod (wrap64 (ji11)) (wrap64 ((a0.size : Int) + 1)))] rfl (by (try simp only [List.map_toArray, List.map_cons, List.map_nil]); first | done | (simp only [hji11]; rfl) | rfl | (simp only [List.length_drop, List.length_take]; rfl)) ?_; (with_reducible refine (cursor_Where.calls a0 (Int.tmod (wrap64 (ji11)) (wrap64 ((a0.size : Int) + 1))) t197 t198 t199 _ A15.out).mono ?_); rintro e w56 ⟨rfl, hb⟩; refine ⟨_, rfl, ?_⟩; have n0_ := Aside0.mk (below_step (by repeat (first | (with_reducible first | exact HB.out | apply below_alloc | apply pw_below_drewN | apply below_drew1) | exact HB.out)) hb); clear HB; have HB := n0_; clear n0_; (try clear hb); (try clear hb2); (try clear hk); (try clear hi)) | ((with_reducible refine gate_callee (f := 18) rfl ?_); refine goesL_ (some 55) rfl rfl Tryd.func18 (by kernel_rfl) rfl #[.string a0, .int .i64 (wrap64 ((Int.tmod (wrap64 (ji11)) (wrap64 ((a0.size : Int) + 1))) + (Int.tmod (wrap64 (ji13)) (wrap64 ((wrap64 ((a0.size : Int) - (Int.tmod (wrap64 (ji11)) (wrap64 ((a0.size : Int) + 1))))) + 1)))))] rfl (by (try simp only [List.map_toArray, List.map_cons, List.map_nil]); first | done | (simp only [hji11, hji13]; rfl) | rfl | (simp only [List.length_drop, List.length_take]; rfl)) ?_; (with_reducible refine (cursor_Where.calls a0 (wrap64 ((Int.tmod (wrap64 (ji11)) (wrap64 ((a0.size : Int) + 1))) + (Int.tmod (wrap64 (ji13)) (wrap64 ((wrap64 ((a0.size : Int) - (Int.tmod (wrap64 (ji11)) (wrap64 ((a0.size : Int) + 1))))) + 1))))) t200 t201 t202 _ A16.out).mono ?_); rintro e w57 ⟨rfl, hb⟩; refine ⟨_, rfl, ?_⟩; have n0_ := Aside0.mk (below_step (by repeat (first | (with_reducible first | exact HB.out | apply below_alloc | apply pw_below_drewN | apply below_drew1) | exact HB.out)) hb); clear HB; have HB := n0_; clear n0_; (try clear hb); (try clear hb2); (try clear hk); (try clear hi)) | ((with_reducible refine gate_callee (f := 20) rfl ?_); refine goesL_ (some 63) rfl rfl Tryd.func20 (by kernel_rfl) rfl #[.string a0, .int .i64 t197, .int .i64 t198] rfl (by (try simp only [List.map_toArray, List.map_cons, List.map_nil]); first | done | rfl | (simp only [List.length_drop, List.length_take]; rfl)) ?_; (with_reducible refine (cursor_Place.calls a0 t197 t198 t203 t204 _ A17.out).mono ?_); rintro e w58 ⟨rfl, hb⟩; refine ⟨_, rfl, ?_⟩; have n0_ := Aside0.mk (below_step (by repeat (first | (with_reducible first | exact HB.out | apply below_alloc | apply pw_below_drewN | apply below_drew1) | exact HB.out)) hb); clear HB; have HB := n0_; clear n0_; (try clear hb); (try clear hb2); (try clear hk); (try clear hi)))
                  go_ret
                  exact ⟨by first | rfl | (simp [errW_none, errW_some] <;> rfl) | (simp only [← hji11, ← hji13]; first | rfl | (simp [errW_none, errW_some] <;> rfl)) | (simp [*, errW_none, errW_some] <;> rfl), by repeat (first | (with_reducible first | exact HB.out | apply below_alloc | apply pw_below_drewN | apply below_drew1) | exact HB.out)⟩
              · rw [if_neg c19] at H
                have c19b0 : (t202 == 0) = false := beq_eq_false_iff_ne.mpr c19
                have c19b1 : (t202 != 0) = true := bne_iff_ne.mpr c19
                obtain rfl := Option.some.inj H
                go_wp2_with (first | ((with_reducible refine gate_callee (f := 18) rfl ?_); refine goesL_ (some 48) rfl rfl Tryd.func18 (by kernel_rfl) rfl #[.string a0, .int .i64 (Int.tmod (wrap64 (ji11)) (wrap64 ((a0.size : Int) + 1)))] rfl (by (try simp only [List.map_toArray, List.map_cons, List.map_nil]); first | done | (simp only [hji11]; rfl) | rfl | (simp only [List.length_drop, List.length_take]; rfl)) ?_; (with_reducible refine (cursor_Where.calls a0 (Int.tmod (wrap64 (ji11)) (wrap64 ((a0.size : Int) + 1))) t197 t198 t199 _ A15.out).mono ?_); rintro e w59 ⟨rfl, hb⟩; refine ⟨_, rfl, ?_⟩; have n0_ := Aside0.mk (below_step (by repeat (first | (with_reducible first | exact HB.out | apply below_alloc | apply pw_below_drewN | apply below_drew1) | exact HB.out)) hb); clear HB; have HB := n0_; clear n0_; (try clear hb); (try clear hb2); (try clear hk); (try clear hi)) | ((with_reducible refine gate_callee (f := 18) rfl ?_); refine goesL_ (some 55) rfl rfl Tryd.func18 (by kernel_rfl) rfl #[.string a0, .int .i64 (wrap64 ((Int.tmod (wrap64 (ji11)) (wrap64 ((a0.size : Int) + 1))) + (Int.tmod (wrap64 (ji13)) (wrap64 ((wrap64 ((a0.size : Int) - (Int.tmod (wrap64 (ji11)) (wrap64 ((a0.size : Int) + 1))))) + 1)))))] rfl (by (try simp only [List.map_toArray, List.map_cons, List.map_nil]); first | done | (simp only [hji11, hji13]; rfl) | rfl | (simp only [List.length_drop, List.length_take]; rfl)) ?_; (with_reducible refine (cursor_Where.calls a0 (wrap64 ((Int.tmod (wrap64 (ji11)) (wrap64 ((a0.size : Int) + 1))) + (Int.tmod (wrap64 (ji13)) (wrap64 ((wrap64 ((a0.size : Int) - (Int.tmod (wrap64 (ji11)) (wrap64 ((a0.size : Int) + 1))))) + 1))))) t200 t201 t202 _ A16.out).mono ?_); rintro e w60 ⟨rfl, hb⟩; refine ⟨_, rfl, ?_⟩; have n0_ := Aside0.mk (below_step (by repeat (first | (with_reducible first | exact HB.out | apply below_alloc | apply pw_below_drewN | apply below_drew1) | exact HB.out)) hb); clear HB; have HB := n0_; clear n0_; (try clear hb); (try clear hb2); (try clear hk); (try clear hi)) | ((with_reducible refine gate_callee (f := 20) rfl ?_); refine goesL_ (some 63) rfl rfl Tryd.func20 (by kernel_rfl) rfl #[.string a0, .int .i64 t197, .int .i64 t198] rfl (by (try simp only [List.map_toArray, List.map_cons, List.map_nil]); first | done | rfl | (simp only [List.length_drop, List.length_take]; rfl)) ?_; (with_reducible refine (cursor_Place.calls a0 t197 t198 t203 t204 _ A17.out).mono ?_); rintro e w61 ⟨rfl, hb⟩; refine ⟨_, rfl, ?_⟩; have n0_ := Aside0.mk (below_step (by repeat (first | (with_reducible first | exact HB.out | apply below_alloc | apply pw_below_drewN | apply below_drew1) | exact HB.out)) hb); clear HB; have HB := n0_; clear n0_; (try clear hb); (try clear hb2); (try clear hk); (try clear hi)))
                go_ret
                exact ⟨by first | rfl | (simp [errW_none, errW_some] <;> rfl) | (simp only [← hji11, ← hji13]; first | rfl | (simp [errW_none, errW_some] <;> rfl)) | (simp [*, errW_none, errW_some] <;> rfl), by repeat (first | (with_reducible first | exact HB.out | apply below_alloc | apply pw_below_drewN | apply below_drew1) | exact HB.out)⟩
            · rw [if_neg c18] at H
              have c18b0 : (t199 == 0) = false := beq_eq_false_iff_ne.mpr c18
              have c18b1 : (t199 != 0) = true := bne_iff_ne.mpr c18
              obtain rfl := Option.some.inj H
              go_wp2_with (first | ((with_reducible refine gate_callee (f := 18) rfl ?_); refine goesL_ (some 48) rfl rfl Tryd.func18 (by kernel_rfl) rfl #[.string a0, .int .i64 (Int.tmod (wrap64 (ji11)) (wrap64 ((a0.size : Int) + 1)))] rfl (by (try simp only [List.map_toArray, List.map_cons, List.map_nil]); first | done | (simp only [hji11]; rfl) | rfl | (simp only [List.length_drop, List.length_take]; rfl)) ?_; (with_reducible refine (cursor_Where.calls a0 (Int.tmod (wrap64 (ji11)) (wrap64 ((a0.size : Int) + 1))) t197 t198 t199 _ A15.out).mono ?_); rintro e w62 ⟨rfl, hb⟩; refine ⟨_, rfl, ?_⟩; have n0_ := Aside0.mk (below_step (by repeat (first | (with_reducible first | exact HB.out | apply below_alloc | apply pw_below_drewN | apply below_drew1) | exact HB.out)) hb); clear HB; have HB := n0_; clear n0_; (try clear hb); (try clear hb2); (try clear hk); (try clear hi)) | ((with_reducible refine gate_callee (f := 18) rfl ?_); refine goesL_ (some 55) rfl rfl Tryd.func18 (by kernel_rfl) rfl #[.string a0, .int .i64 (wrap64 ((Int.tmod (wrap64 (ji11)) (wrap64 ((a0.size : Int) + 1))) + (Int.tmod (wrap64 (ji13)) (wrap64 ((wrap64 ((a0.size : Int) - (Int.tmod (wrap64 (ji11)) (wrap64 ((a0.size : Int) + 1))))) + 1)))))] rfl (by (try simp only [List.map_toArray, List.map_cons, List.map_nil]); first | done | (simp only [hji11, hji13]; rfl) | rfl | (simp only [List.length_drop, List.length_take]; rfl)) ?_; (with_reducible refine (cursor_Where.calls a0 (wrap64 ((Int.tmod (wrap64 (ji11)) (wrap64 ((a0.size : Int) + 1))) + (Int.tmod (wrap64 (ji13)) (wrap64 ((wrap64 ((a0.size : Int) - (Int.tmod (wrap64 (ji11)) (wrap64 ((a0.size : Int) + 1))))) + 1))))) t200 t201 t202 _ A16.out).mono ?_); rintro e w63 ⟨rfl, hb⟩; refine ⟨_, rfl, ?_⟩; have n0_ := Aside0.mk (below_step (by repeat (first | (with_reducible first | exact HB.out | apply below_alloc | apply pw_below_drewN | apply below_drew1) | exact HB.out)) hb); clear HB; have HB := n0_; clear n0_; (try clear hb); (try clear hb2); (try clear hk); (try clear hi)) | ((with_reducible refine gate_callee (f := 20) rfl ?_); refine goesL_ (some 63) rfl rfl Tryd.func20 (by kernel_rfl) rfl #[.string a0, .int .i64 t197, .int .i64 t198] rfl (by (try simp only [List.map_toArray, List.map_cons, List.map_nil]); first | done | rfl | (simp only [List.length_drop, List.length_take]; rfl)) ?_; (with_reducible refine (cursor_Place.calls a0 t197 t198 t203 t204 _ A17.out).mono ?_); rintro e w64 ⟨rfl, hb⟩; refine ⟨_, rfl, ?_⟩; have n0_ := Aside0.mk (below_step (by repeat (first | (with_reducible first | exact HB.out | apply below_alloc | apply pw_below_drewN | apply below_drew1) | exact HB.out)) hb); clear HB; have HB := n0_; clear n0_; (try clear hb); (try clear hb2); (try clear hk); (try clear hi)))
              go_ret
              exact ⟨by first | rfl | (simp [errW_none, errW_some] <;> rfl) | (simp only [← hji11, ← hji13]; first | rfl | (simp [errW_none, errW_some] <;> rfl)) | (simp [*, errW_none, errW_some] <;> rfl), by repeat (first | (with_reducible first | exact HB.out | apply below_alloc | apply pw_below_drewN | apply below_drew1) | exact HB.out)⟩

/-- THE ONE PURE STATEMENT of entrepotlaw01_CursorBack: yours. -/
def entrepotlaw01_CursorBack.Pure : Prop := ∀ (a0 : ByteArray) (a1 : Int) (a2 : Int), a0.size ≤ 140737488351232 → (Lit.int .u16 a1).wf = true → (Lit.int .u16 a2).wf = true → ∃ k, entrepotlaw01_CursorBack.f k a0 a1 a2 = some true
theorem entrepotlaw01_CursorBack.walk (P : entrepotlaw01_CursorBack.Pure) (a0 : ByteArray) (a1 : Int) (a2 : Int) (w : World) (w0 : a0.size ≤ 140737488351232) (w1 : (Lit.int .u16 a1).wf = true) (w2 : (Lit.int .u16 a2).wf = true) :
    Calls Tryd.prog 5 #[.string a0, .int .u16 a1, .int .u16 a2] w fun e w' => e = .returned (.bool true) ∧ Below w.heap.size w w' := by
  obtain ⟨k, h⟩ := P a0 a1 a2 w0 w1 w2
  refine (entrepotlaw01_CursorBack.calls k a0 a1 a2 true w h).mono ?_
  rintro e w' ⟨rfl, hd⟩
  exact ⟨rfl, hd⟩

end Go.Proofs.YtfdeffjdhpdfeaaDoor.PAll
