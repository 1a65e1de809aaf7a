-- Written by a program out of the translation, for several roots at once (set All). Not trusted: Lean checks it.
import Derived.Test.YtfdeffjdhpdfeaaDoorPAllx0
import Derived.Test.YtfdeffjdhpdfeaaDoorPAllx1
import Derived.Test.YtfdeffjdhpdfeaaDoorPAllx3
import Derived.Test.YtfdeffjdhpdfeaaDoorGivenD
namespace Go.Proofs.YtfdeffjdhpdfeaaDoor.PAll
open Go.RowKit Go.Proofs.YtfdeffjdhpdfeaaDoorW.PrintWords Go.Proofs.YtfdeffjdhpdfeaaDoorW.PrintLast Go.Proofs.YtfdeffjdhpdfeaaDoorW.PrintMore
attribute [local go_sem] max2_int min2_int max_two min_two max_three min_three max_four min_four   -- for this text's walks alone
set_option linter.unusedVariables false
set_option linter.unusedSimpArgs false

attribute [local go_sem high] eqA31
/-! ### entrepotlaw01_CursorJoin: function 7 -/
mutual
def entrepotlaw01_CursorJoin.j0 : Nat → ByteArray → ByteArray → Bool → Option (Bool)
  | 0, _, _, _ => none
  | k + 1, x0, x1, x22 => if x22 = true then ((entrepotlaw01_shown.f).bind fun t226 => (some t226)) else (if x0.size + 1 ≤ 9223372036854775807 then ((cursor_Lines.f (x0 ++ (⟨#[10]⟩ : ByteArray))).bind fun t227 => ((cursor_Lines.f x1).bind fun t230 => (if (x0 ++ (⟨#[10]⟩ : ByteArray)).size + x1.size ≤ 9223372036854775807 then ((cursor_Lines.f ((x0 ++ (⟨#[10]⟩ : ByteArray)) ++ x1)).bind fun t233 => (if (t233.length : Int) = (wrap64 ((t227.length : Int) + (t230.length : Int))) then (entrepotlaw01_CursorJoin.j1 k x0 t227 t230 t233 ((t227.length : Int) == 0)) else (entrepotlaw01_CursorJoin.j1 k x0 t227 t230 t233 true))) else (none)))) else (none))
def entrepotlaw01_CursorJoin.j1 : Nat → ByteArray → List (S31) → List (S31) → List (S31) → Bool → Option (Bool)
  | 0, _, _, _, _, _ => none
  | k + 1, x0, x5, x6, x7, x46 => if x46 = true then (some false) else (entrepotlaw01_CursorJoin.l0 k x5 x6 x7 (wrap64 ((x0.size : Int) + 1)) 0)
def entrepotlaw01_CursorJoin.l0 : Nat → List (S31) → List (S31) → List (S31) → Int → Int → Option (Bool)
  | 0, _, _, _, _, _ => none
  | k + 1, x5, x6, x7, x8, x9 => if x9 < (x7.length : Int) then (if x9 < (x5.length : Int) then (if 0 ≤ x9 then (entrepotlaw01_CursorJoin.j3 k x5 x6 x7 x8 x9 (!(((rd_T31 x7 x9).f0) == ((rd_T31 x5 x9).f0)) || (!(((rd_T31 x7 x9).f1) == ((rd_T31 x5 x9).f1)) || (!(((rd_T31 x7 x9).f2) == ((rd_T31 x5 x9).f2)))))) else (none)) else (entrepotlaw01_CursorJoin.j3 k x5 x6 x7 x8 x9 false)) else (some true)
def entrepotlaw01_CursorJoin.j3 : Nat → List (S31) → List (S31) → List (S31) → Int → Int → Bool → Option (Bool)
  | 0, _, _, _, _, _, _ => none
  | k + 1, x5, x6, x7, x8, x9, x70 => if x70 = true then (some false) else (if x9 ≥ (x5.length : Int) then (if 0 ≤ (wrap64 (x9 - (x5.length : Int))) then (if (wrap64 (x9 - (x5.length : Int))) < (x6.length : Int) then (if 0 ≤ x9 then (if x9 < (x7.length : Int) then (if (!(((rd_T31 x7 x9).f0) == (wrap64 (((rd_T31 x6 (wrap64 (x9 - (x5.length : Int)))).f0) + x8))) || (!(((rd_T31 x7 x9).f1) == (wrap64 (((rd_T31 x6 (wrap64 (x9 - (x5.length : Int)))).f1) + x8))) || (!(((rd_T31 x7 x9).f2) == (wrap64 (((rd_T31 x6 (wrap64 (x9 - (x5.length : Int)))).f2) + x8)))))) = true then (some false) else (entrepotlaw01_CursorJoin.l0 k x5 x6 x7 x8 (wrap64 (x9 + 1)))) else (none)) else (none)) else (none)) else (none)) else (entrepotlaw01_CursorJoin.l0 k x5 x6 x7 x8 (wrap64 (x9 + 1))))
end
def entrepotlaw01_CursorJoin.f (k : Nat) (a0 : ByteArray) (a1 : ByteArray) : Option (Bool) := if (a0.size : Int) > 1000 then (entrepotlaw01_CursorJoin.j0 k a0 a1 true) else (if (a1.size : Int) > 1000 then (entrepotlaw01_CursorJoin.j0 k a0 a1 true) else ((entrepotlaw01_shown.f).bind fun t225 => (entrepotlaw01_CursorJoin.j0 k a0 a1 (!t225))))
theorem entrepotlaw01_CursorJoin.mono_l : ∀ k, (∀ y0 y1 y2, LeO (entrepotlaw01_CursorJoin.j0 k y0 y1 y2) (entrepotlaw01_CursorJoin.j0 (k + 1) y0 y1 y2)) ∧ (∀ y0 y1 y2 y3 y4, LeO (entrepotlaw01_CursorJoin.j1 k y0 y1 y2 y3 y4) (entrepotlaw01_CursorJoin.j1 (k + 1) y0 y1 y2 y3 y4)) ∧ (∀ y0 y1 y2 y3 y4, LeO (entrepotlaw01_CursorJoin.l0 k y0 y1 y2 y3 y4) (entrepotlaw01_CursorJoin.l0 (k + 1) y0 y1 y2 y3 y4)) ∧ (∀ y0 y1 y2 y3 y4 y5, LeO (entrepotlaw01_CursorJoin.j3 k y0 y1 y2 y3 y4 y5) (entrepotlaw01_CursorJoin.j3 (k + 1) y0 y1 y2 y3 y4 y5))
  | 0 => ⟨fun _ _ _ r h => by simp [entrepotlaw01_CursorJoin.j0] at h, fun _ _ _ _ _ r h => by simp [entrepotlaw01_CursorJoin.j1] at h, fun _ _ _ _ _ r h => by simp [entrepotlaw01_CursorJoin.l0] at h, fun _ _ _ _ _ _ r h => by simp [entrepotlaw01_CursorJoin.j3] at h⟩
  | k + 1 => by
    obtain ⟨ih0, ih1, ih2, ih3⟩ := entrepotlaw01_CursorJoin.mono_l k
    refine ⟨?_, ?_, ?_, ?_⟩
    · intro y0 y1 y2
      unfold entrepotlaw01_CursorJoin.j0
      repeat' first
      | (with_reducible exact ih0 _ _ _)
      | (with_reducible exact ih1 _ _ _ _ _)
      | (with_reducible exact ih2 _ _ _ _ _)
      | (with_reducible exact ih3 _ _ _ _ _ _)
      | (with_reducible exact LeO.refl _)
      | (with_reducible exact LeO.none _)
      | (with_reducible refine LeO.ite ?_ ?_)
      | (with_reducible refine LeO.bind ?_ (fun _ => ?_))
      | exact ih0 _ _ _
      | exact ih1 _ _ _ _ _
      | exact ih2 _ _ _ _ _
      | exact ih3 _ _ _ _ _ _
      | exact LeO.none _
      | refine LeO.ite ?_ ?_
      | refine LeO.bind ?_ (fun _ => ?_)
    · intro y0 y1 y2 y3 y4
      unfold entrepotlaw01_CursorJoin.j1
      repeat' first
      | (with_reducible exact ih0 _ _ _)
      | (with_reducible exact ih1 _ _ _ _ _)
      | (with_reducible exact ih2 _ _ _ _ _)
      | (with_reducible exact ih3 _ _ _ _ _ _)
      | (with_reducible exact LeO.refl _)
      | (with_reducible exact LeO.none _)
      | (with_reducible refine LeO.ite ?_ ?_)
      | (with_reducible refine LeO.bind ?_ (fun _ => ?_))
      | exact ih0 _ _ _
      | exact ih1 _ _ _ _ _
      | exact ih2 _ _ _ _ _
      | exact ih3 _ _ _ _ _ _
      | exact LeO.none _
      | refine LeO.ite ?_ ?_
      | refine LeO.bind ?_ (fun _ => ?_)
    · intro y0 y1 y2 y3 y4
      unfold entrepotlaw01_CursorJoin.l0
      repeat' first
      | (with_reducible exact ih0 _ _ _)
      | (with_reducible exact ih1 _ _ _ _ _)
      | (with_reducible exact ih2 _ _ _ _ _)
      | (with_reducible exact ih3 _ _ _ _ _ _)
      | (with_reducible exact LeO.refl _)
      | (with_reducible exact LeO.none _)
      | (with_reducible refine LeO.ite ?_ ?_)
      | (with_reducible refine LeO.bind ?_ (fun _ => ?_))
      | exact ih0 _ _ _
      | exact ih1 _ _ _ _ _
      | exact ih2 _ _ _ _ _
      | exact ih3 _ _ _ _ _ _
      | exact LeO.none _
      | refine LeO.ite ?_ ?_
      | refine LeO.bind ?_ (fun _ => ?_)
    · intro y0 y1 y2 y3 y4 y5
      unfold entrepotlaw01_CursorJoin.j3
      repeat' first
      | (with_reducible exact ih0 _ _ _)
      | (with_reducible exact ih1 _ _ _ _ _)
      | (with_reducible exact ih2 _ _ _ _ _)
      | (with_reducible exact ih3 _ _ _ _ _ _)
      | (with_reducible exact LeO.refl _)
      | (with_reducible exact LeO.none _)
      | (with_reducible refine LeO.ite ?_ ?_)
      | (with_reducible refine LeO.bind ?_ (fun _ => ?_))
      | exact ih0 _ _ _
      | exact ih1 _ _ _ _ _
      | exact ih2 _ _ _ _ _
      | exact ih3 _ _ _ _ _ _
      | exact LeO.none _
      | refine LeO.ite ?_ ?_
      | refine LeO.bind ?_ (fun _ => ?_)
theorem entrepotlaw01_CursorJoin.mono : ∀ a0 a1 k, LeO (entrepotlaw01_CursorJoin.f k a0 a1) (entrepotlaw01_CursorJoin.f (k + 1) a0 a1) := by
  intro a0 a1 k
  obtain ⟨ih0, ih1, ih2, ih3⟩ := entrepotlaw01_CursorJoin.mono_l k
  unfold entrepotlaw01_CursorJoin.f
  repeat' first
      | (with_reducible exact ih0 _ _ _)
      | (with_reducible exact ih1 _ _ _ _ _)
      | (with_reducible exact ih2 _ _ _ _ _)
      | (with_reducible exact ih3 _ _ _ _ _ _)
      | (with_reducible exact LeO.refl _)
      | (with_reducible exact LeO.none _)
      | (with_reducible refine LeO.ite ?_ ?_)
      | (with_reducible refine LeO.bind ?_ (fun _ => ?_))
      | exact ih0 _ _ _
      | exact ih1 _ _ _ _ _
      | exact ih2 _ _ _ _ _
      | exact ih3 _ _ _ _ _ _
      | exact LeO.none _
      | refine LeO.ite ?_ ?_
      | refine LeO.bind ?_ (fun _ => ?_)
set_option maxHeartbeats 8000000 in
set_option maxRecDepth 100000 in
theorem entrepotlaw01_CursorJoin.calls (k : Nat) (a0 : ByteArray) (a1 : ByteArray) (r : Bool) (w : World) (h : entrepotlaw01_CursorJoin.f k a0 a1 = some r) :
    Calls Tryd.prog 7 #[.string a0, .string a1] w fun e w' => e = .returned (.bool r) ∧ Below w.heap.size w w' := by
  have hu31 := Tryd.underlying31
  have HB := Aside0.mk (Below.refl w.heap.size w)
  have H : (if (a0.size : Int) > 1000 then (entrepotlaw01_CursorJoin.j0 k a0 a1 true) else (if (a1.size : Int) > 1000 then (entrepotlaw01_CursorJoin.j0 k a0 a1 true) else ((entrepotlaw01_shown.f).bind fun t225 => (entrepotlaw01_CursorJoin.j0 k a0 a1 (!t225))))) = some r := h
  clear h
  have HC3 := Aside0.mk H
  clear H
  go_enter Tryd.func7, Tryd.ntmps7
  go_upto_region 1 with (fail)
  repeat (go_quiet (fail); go_upto_region 1 with (fail))
  go_cut [22] (fun v22 wc => ∃ (kq : Nat) (x22_2 : Bool), v22 = .bool x22_2 ∧ Aside0 (entrepotlaw01_CursorJoin.j0 kq a0 a1 x22_2 = some r) ∧ Aside0 (kq ≤ k) ∧ Aside0 (Below w.heap.size w wc))
  case first =>
    have H := HC3.out
    clear HC3
    by_cases c4 : (a0.size : Int) > 1000
    · rw [if_pos c4] at H
      have c4b0 : decide (1000 < (a0.size : Int)) = true := decide_eq_true c4
      have c4b1 : decide (1000 < a0.size) = true := decide_eq_true (by omega)
      clear c4
      (first | rw [c4b0] | (simp only [i64_w, i32_w]; rw [c4b0]) | skip)
      have H' := Aside0.mk H
      clear H
      go_wp2
      repeat (go_quiet (fail); try go_wp2)
      go_meet
      case rel => exact ⟨_, (true), (by first | rfl | (simp; done) | (simp [*]; done)), H', ⟨by first | omega | exact Nat.le_refl _⟩, ⟨by repeat (first | (with_reducible first | exact HB.out | apply below_alloc | apply pw_below_drewN | apply below_drew1) | exact HB.out)⟩⟩
    · rw [if_neg c4] at H
      have c4b0 : decide (1000 < (a0.size : Int)) = false := decide_eq_false c4
      have c4b1 : decide (1000 < a0.size) = false := decide_eq_false (by omega)
      clear c4
      (first | rw [c4b0] | (simp only [i64_w, i32_w]; rw [c4b0]) | skip)
      by_cases c5 : (a1.size : Int) > 1000
      · rw [if_pos c5] at H
        have c5b0 : decide (1000 < (a1.size : Int)) = true := decide_eq_true c5
        have c5b1 : decide (1000 < a1.size) = true := decide_eq_true (by omega)
        clear c5
        have H' := Aside0.mk H
        clear H
        go_wp2
        repeat (go_quiet (fail); try go_wp2)
        go_meet
        case rel => exact ⟨_, (true), (by first | rfl | (simp; done) | (simp [*]; done)), H', ⟨by first | omega | exact Nat.le_refl _⟩, ⟨by repeat (first | (with_reducible first | exact HB.out | apply below_alloc | apply pw_below_drewN | apply below_drew1) | exact HB.out)⟩⟩
      · rw [if_neg c5] at H
        have c5b0 : decide (1000 < (a1.size : Int)) = false := decide_eq_false c5
        have c5b1 : decide (1000 < a1.size) = false := decide_eq_false (by omega)
        clear c5
        replace H := Option.bind_eq_some_iff.mp H
        obtain ⟨t225, A60, H⟩ := H
        replace H : (entrepotlaw01_CursorJoin.j0 k a0 a1 (!t225)) = some r := H
        have A6 := Aside0.mk A60
        clear A60
        have H' := Aside0.mk H
        clear H
        go_wp2_with (first | (go_at_call 9; (with_reducible refine (entrepotlaw01_shown.calls  t225 _ A6.out).mono ?_); rintro e w7 ⟨rfl, hb⟩; have n0_ := Aside0.mk (below_step (by repeat (first | (with_reducible first | exact HB.out | apply below_alloc | apply pw_below_drewN | apply below_drew1) | exact HB.out)) hb); clear HB; have HB := n0_; clear n0_; (try clear hb); (try clear hb2); (try clear hk); (try clear hi)))
        repeat (go_quiet (first | (go_at_call 9; (with_reducible refine (entrepotlaw01_shown.calls  t225 _ A6.out).mono ?_); rintro e w7 ⟨rfl, hb⟩; have n0_ := Aside0.mk (below_step (by repeat (first | (with_reducible first | exact HB.out | apply below_alloc | apply pw_below_drewN | apply below_drew1) | exact HB.out)) hb); clear HB; have HB := n0_; clear n0_; (try clear hb); (try clear hb2); (try clear hk); (try clear hi))); try go_wp2_with (first | (go_at_call 9; (with_reducible refine (entrepotlaw01_shown.calls  t225 _ A6.out).mono ?_); rintro e w7 ⟨rfl, hb⟩; have n0_ := Aside0.mk (below_step (by repeat (first | (with_reducible first | exact HB.out | apply below_alloc | apply pw_below_drewN | apply below_drew1) | exact HB.out)) hb); clear HB; have HB := n0_; clear n0_; (try clear hb); (try clear hb2); (try clear hk); (try clear hi))))
        go_meet
        case rel => exact ⟨_, (!t225), (by first | rfl | (simp; done) | (simp [*]; done)), H', ⟨by first | omega | exact Nat.le_refl _⟩, ⟨by repeat (first | (with_reducible first | exact HB.out | apply below_alloc | apply pw_below_drewN | apply below_drew1) | exact HB.out)⟩⟩
  case rest =>
    clear HC3
    try clear p2
    try clear c4
    try clear c4b0
    try clear c4b1
    try clear c5
    try clear c5b0
    try clear c5b1
    try clear c7
    obtain ⟨kq, x22_2, rfl, HA, HJ2, HB⟩ := hcut
    cases kq with
    | zero => exact absurd HA.out (by simp [entrepotlaw01_CursorJoin.j0])
    | succ kj2 =>
      have H := HA.out
      clear HA
      simp only [entrepotlaw01_CursorJoin.j0] at H
      by_cases c8 : x22_2 = true
      · subst c8
        have H1 : ((entrepotlaw01_shown.f).bind fun t226 => (some t226)) = some r := by rw [if_pos rfl] at H; exact H
        clear H
        have H := H1
        clear H1
        replace H := Option.bind_eq_some_iff.mp H
        obtain ⟨t226, A90, H⟩ := H
        replace H : (some t226) = some r := H
        have A9 := Aside0.mk A90
        clear A90
        obtain rfl := Option.some.inj H
        go_wp2_with (first | (go_at_call 9; (with_reducible refine (entrepotlaw01_shown.calls  t226 _ A9.out).mono ?_); rintro e w10 ⟨rfl, hb⟩; have n0_ := Aside0.mk (below_step (by repeat (first | (with_reducible first | exact HB.out | apply below_alloc | apply pw_below_drewN | apply below_drew1) | exact HB.out)) hb); clear HB; have HB := n0_; clear n0_; (try clear hb); (try clear hb2); (try clear hk); (try clear hi)))
        repeat (go_quiet (first | (go_at_call 9; (with_reducible refine (entrepotlaw01_shown.calls  t226 _ A9.out).mono ?_); rintro e w10 ⟨rfl, hb⟩; have n0_ := Aside0.mk (below_step (by repeat (first | (with_reducible first | exact HB.out | apply below_alloc | apply pw_below_drewN | apply below_drew1) | exact HB.out)) hb); clear HB; have HB := n0_; clear n0_; (try clear hb); (try clear hb2); (try clear hk); (try clear hi))); try go_wp2_with (first | (go_at_call 9; (with_reducible refine (entrepotlaw01_shown.calls  t226 _ A9.out).mono ?_); rintro e w10 ⟨rfl, hb⟩; have n0_ := Aside0.mk (below_step (by repeat (first | (with_reducible first | exact HB.out | apply below_alloc | apply pw_below_drewN | apply below_drew1) | exact HB.out)) hb); clear HB; have HB := n0_; clear n0_; (try clear hb); (try clear hb2); (try clear hk); (try clear hi))))
        go_ret
        exact ⟨by first | rfl | (simp [errW_none, errW_some] <;> rfl) | (simp [*, errW_none, errW_some] <;> rfl), by repeat (first | (with_reducible first | exact HB.out | apply below_alloc | apply pw_below_drewN | apply below_drew1) | exact HB.out)⟩
      · replace c8 := Bool.eq_false_iff.mpr c8
        subst c8
        have H1 : (if a0.size + 1 ≤ 9223372036854775807 then ((cursor_Lines.f (a0 ++ (⟨#[10]⟩ : ByteArray))).bind fun t227 => ((cursor_Lines.f a1).bind fun t230 => (if (a0 ++ (⟨#[10]⟩ : ByteArray)).size + a1.size ≤ 9223372036854775807 then ((cursor_Lines.f ((a0 ++ (⟨#[10]⟩ : ByteArray)) ++ a1)).bind fun t233 => (if (t233.length : Int) = (wrap64 ((t227.length : Int) + (t230.length : Int))) then (entrepotlaw01_CursorJoin.j1 kj2 a0 t227 t230 t233 ((t227.length : Int) == 0)) else (entrepotlaw01_CursorJoin.j1 kj2 a0 t227 t230 t233 true))) else (none)))) else (none)) = some r := by rw [if_neg (show ¬ (false = true) by decide)] at H; exact H
        clear H
        have H := H1
        clear H1
        by_cases c11 : a0.size + 1 ≤ 9223372036854775807
        · rw [if_pos c11] at H
          have c11b0 := eq_true c11
          have c11b1 : decide (a0.size + 1 ≤ 9223372036854775807) = true := decide_eq_true c11
          try have c11b2 : (9223372036854775807 < a0.size + 1) = False := eq_false (Nat.not_lt.2 c11)
          replace H := Option.bind_eq_some_iff.mp H
          obtain ⟨t227, A120, H⟩ := H
          replace H : ((cursor_Lines.f a1).bind fun t230 => (if (a0 ++ (⟨#[10]⟩ : ByteArray)).size + a1.size ≤ 9223372036854775807 then ((cursor_Lines.f ((a0 ++ (⟨#[10]⟩ : ByteArray)) ++ a1)).bind fun t233 => (if (t233.length : Int) = (wrap64 ((t227.length : Int) + (t230.length : Int))) then (entrepotlaw01_CursorJoin.j1 kj2 a0 t227 t230 t233 ((t227.length : Int) == 0)) else (entrepotlaw01_CursorJoin.j1 kj2 a0 t227 t230 t233 true))) else (none))) = some r := H
          have A12 := Aside0.mk A120
          clear A120
          replace H := Option.bind_eq_some_iff.mp H
          obtain ⟨t230, A130, H⟩ := H
          replace H : (if (a0 ++ (⟨#[10]⟩ : ByteArray)).size + a1.size ≤ 9223372036854775807 then ((cursor_Lines.f ((a0 ++ (⟨#[10]⟩ : ByteArray)) ++ a1)).bind fun t233 => (if (t233.length : Int) = (wrap64 ((t227.length : Int) + (t230.length : Int))) then (entrepotlaw01_CursorJoin.j1 kj2 a0 t227 t230 t233 ((t227.length : Int) == 0)) else (entrepotlaw01_CursorJoin.j1 kj2 a0 t227 t230 t233 true))) else (none)) = some r := H
          have A13 := Aside0.mk A130
          clear A130
          by_cases c14 : (a0 ++ (⟨#[10]⟩ : ByteArray)).size + a1.size ≤ 9223372036854775807
          · rw [if_pos c14] at H
            have c14b0 := eq_true c14
            have c14b1 : decide ((a0 ++ (⟨#[10]⟩ : ByteArray)).size + a1.size ≤ 9223372036854775807) = true := decide_eq_true c14
            try have c14b2 : (9223372036854775807 < (a0 ++ (⟨#[10]⟩ : ByteArray)).size + a1.size) = False := eq_false (Nat.not_lt.2 c14)
            replace H := Option.bind_eq_some_iff.mp H
            obtain ⟨t233, A150, H⟩ := H
            replace H : (if (t233.length : Int) = (wrap64 ((t227.length : Int) + (t230.length : Int))) then (entrepotlaw01_CursorJoin.j1 kj2 a0 t227 t230 t233 ((t227.length : Int) == 0)) else (entrepotlaw01_CursorJoin.j1 kj2 a0 t227 t230 t233 true)) = some r := H
            have A15 := Aside0.mk A150
            clear A150
            have HC16 := Aside0.mk H
            clear H
            go_upto_region 6 with (first | (go_at_call 10; (with_reducible refine (cursor_Lines.calls (a0 ++ (⟨#[10]⟩ : ByteArray)) t227 _ A12.out).mono ?_); rintro e w17 ⟨v228, rfl, ho0, hb⟩; have n0_ := Aside0.mk (Kd.R_lower ho0 (below_size (by repeat (first | (with_reducible first | exact HB.out | apply below_alloc | apply pw_below_drewN | apply below_drew1) | exact HB.out)))); have n1_ := Aside0.mk (below_step (by repeat (first | (with_reducible first | exact HB.out | apply below_alloc | apply pw_below_drewN | apply below_drew1) | exact HB.out)) hb); clear HB; have HO229 := n0_; have HB := n1_; clear n0_ n1_; (try clear hb); (try clear hb2); (try clear hk); (try clear hi); (try clear ho0)) | (go_at_call 10; (with_reducible refine (cursor_Lines.calls a1 t230 _ A13.out).mono ?_); rintro e w18 ⟨v231, rfl, ho0, hb⟩; have n0_ := Aside0.mk (Kd.R_elder' (by (with_reducible repeat (first | apply Kd.R_alloc | apply Kd.R_drewN | apply Kd.R_drew)); exact HO229.out) (Kd.R_base ho0) hb); have n1_ := Aside0.mk (Kd.R_lower (Kd.R_new' ho0 (Kd.R_lt (by (with_reducible repeat (first | apply Kd.R_alloc | apply Kd.R_drewN | apply Kd.R_drew)); exact HO229.out))) (below_size (by repeat (first | (with_reducible first | exact HB.out | apply below_alloc | apply pw_below_drewN | apply below_drew1) | exact HB.out)))); have n2_ := Aside0.mk (below_step (by repeat (first | (with_reducible first | exact HB.out | apply below_alloc | apply pw_below_drewN | apply below_drew1) | exact HB.out)) hb); clear HO229; clear HB; have HO229 := n0_; have HO232 := n1_; have HB := n2_; clear n0_ n1_ n2_; (try clear hb); (try clear hb2); (try clear hk); (try clear hi); (try clear ho0)) | (go_at_call 10; (with_reducible refine (cursor_Lines.calls ((a0 ++ (⟨#[10]⟩ : ByteArray)) ++ a1) t233 _ A15.out).mono ?_); rintro e w19 ⟨v234, rfl, ho0, hb⟩; have n0_ := Aside0.mk (Kd.R_elder' (by (with_reducible repeat (first | apply Kd.R_alloc | apply Kd.R_drewN | apply Kd.R_drew)); exact HO229.out) (Kd.R_base ho0) hb); have n1_ := Aside0.mk (Kd.R_elder' (by (with_reducible repeat (first | apply Kd.R_alloc | apply Kd.R_drewN | apply Kd.R_drew)); exact HO232.out) (Kd.R_base ho0) hb); have n2_ := Aside0.mk (Kd.R_lower (Kd.R_new' (Kd.R_new' ho0 (Kd.R_lt (by (with_reducible repeat (first | apply Kd.R_alloc | apply Kd.R_drewN | apply Kd.R_drew)); exact HO229.out))) (Kd.R_lt (by (with_reducible repeat (first | apply Kd.R_alloc | apply Kd.R_drewN | apply Kd.R_drew)); exact HO232.out))) (below_size (by repeat (first | (with_reducible first | exact HB.out | apply below_alloc | apply pw_below_drewN | apply below_drew1) | exact HB.out)))); have n3_ := Aside0.mk (below_step (by repeat (first | (with_reducible first | exact HB.out | apply below_alloc | apply pw_below_drewN | apply below_drew1) | exact HB.out)) hb); clear HO229; clear HO232; clear HB; have HO229 := n0_; have HO232 := n1_; have HO235 := n2_; have HB := n3_; clear n0_ n1_ n2_ n3_; (try clear hb); (try clear hb2); (try clear hk); (try clear hi); (try clear ho0)))
            repeat (go_quiet (first | (go_at_call 10; (with_reducible refine (cursor_Lines.calls (a0 ++ (⟨#[10]⟩ : ByteArray)) t227 _ A12.out).mono ?_); rintro e w17 ⟨v228, rfl, ho0, hb⟩; have n0_ := Aside0.mk (Kd.R_lower ho0 (below_size (by repeat (first | (with_reducible first | exact HB.out | apply below_alloc | apply pw_below_drewN | apply below_drew1) | exact HB.out)))); have n1_ := Aside0.mk (below_step (by repeat (first | (with_reducible first | exact HB.out | apply below_alloc | apply pw_below_drewN | apply below_drew1) | exact HB.out)) hb); clear HB; have HO229 := n0_; have HB := n1_; clear n0_ n1_; (try clear hb); (try clear hb2); (try clear hk); (try clear hi); (try clear ho0)) | (go_at_call 10; (with_reducible refine (cursor_Lines.calls a1 t230 _ A13.out).mono ?_); rintro e w18 ⟨v231, rfl, ho0, hb⟩; have n0_ := Aside0.mk (Kd.R_elder' (by (with_reducible repeat (first | apply Kd.R_alloc | apply Kd.R_drewN | apply Kd.R_drew)); exact HO229.out) (Kd.R_base ho0) hb); have n1_ := Aside0.mk (Kd.R_lower (Kd.R_new' ho0 (Kd.R_lt (by (with_reducible repeat (first | apply Kd.R_alloc | apply Kd.R_drewN | apply Kd.R_drew)); exact HO229.out))) (below_size (by repeat (first | (with_reducible first | exact HB.out | apply below_alloc | apply pw_below_drewN | apply below_drew1) | exact HB.out)))); have n2_ := Aside0.mk (below_step (by repeat (first | (with_reducible first | exact HB.out | apply below_alloc | apply pw_below_drewN | apply below_drew1) | exact HB.out)) hb); clear HO229; clear HB; have HO229 := n0_; have HO232 := n1_; have HB := n2_; clear n0_ n1_ n2_; (try clear hb); (try clear hb2); (try clear hk); (try clear hi); (try clear ho0)) | (go_at_call 10; (with_reducible refine (cursor_Lines.calls ((a0 ++ (⟨#[10]⟩ : ByteArray)) ++ a1) t233 _ A15.out).mono ?_); rintro e w19 ⟨v234, rfl, ho0, hb⟩; have n0_ := Aside0.mk (Kd.R_elder' (by (with_reducible repeat (first | apply Kd.R_alloc | apply Kd.R_drewN | apply Kd.R_drew)); exact HO229.out) (Kd.R_base ho0) hb); have n1_ := Aside0.mk (Kd.R_elder' (by (with_reducible repeat (first | apply Kd.R_alloc | apply Kd.R_drewN | apply Kd.R_drew)); exact HO232.out) (Kd.R_base ho0) hb); have n2_ := Aside0.mk (Kd.R_lower (Kd.R_new' (Kd.R_new' ho0 (Kd.R_lt (by (with_reducible repeat (first | apply Kd.R_alloc | apply Kd.R_drewN | apply Kd.R_drew)); exact HO229.out))) (Kd.R_lt (by (with_reducible repeat (first | apply Kd.R_alloc | apply Kd.R_drewN | apply Kd.R_drew)); exact HO232.out))) (below_size (by repeat (first | (with_reducible first | exact HB.out | apply below_alloc | apply pw_below_drewN | apply below_drew1) | exact HB.out)))); have n3_ := Aside0.mk (below_step (by repeat (first | (with_reducible first | exact HB.out | apply below_alloc | apply pw_below_drewN | apply below_drew1) | exact HB.out)) hb); clear HO229; clear HO232; clear HB; have HO229 := n0_; have HO232 := n1_; have HO235 := n2_; have HB := n3_; clear n0_ n1_ n2_ n3_; (try clear hb); (try clear hb2); (try clear hk); (try clear hi); (try clear ho0))); go_upto_region 6 with (first | (go_at_call 10; (with_reducible refine (cursor_Lines.calls (a0 ++ (⟨#[10]⟩ : ByteArray)) t227 _ A12.out).mono ?_); rintro e w17 ⟨v228, rfl, ho0, hb⟩; have n0_ := Aside0.mk (Kd.R_lower ho0 (below_size (by repeat (first | (with_reducible first | exact HB.out | apply below_alloc | apply pw_below_drewN | apply below_drew1) | exact HB.out)))); have n1_ := Aside0.mk (below_step (by repeat (first | (with_reducible first | exact HB.out | apply below_alloc | apply pw_below_drewN | apply below_drew1) | exact HB.out)) hb); clear HB; have HO229 := n0_; have HB := n1_; clear n0_ n1_; (try clear hb); (try clear hb2); (try clear hk); (try clear hi); (try clear ho0)) | (go_at_call 10; (with_reducible refine (cursor_Lines.calls a1 t230 _ A13.out).mono ?_); rintro e w18 ⟨v231, rfl, ho0, hb⟩; have n0_ := Aside0.mk (Kd.R_elder' (by (with_reducible repeat (first | apply Kd.R_alloc | apply Kd.R_drewN | apply Kd.R_drew)); exact HO229.out) (Kd.R_base ho0) hb); have n1_ := Aside0.mk (Kd.R_lower (Kd.R_new' ho0 (Kd.R_lt (by (with_reducible repeat (first | apply Kd.R_alloc | apply Kd.R_drewN | apply Kd.R_drew)); exact HO229.out))) (below_size (by repeat (first | (with_reducible first | exact HB.out | apply below_alloc | apply pw_below_drewN | apply below_drew1) | exact HB.out)))); have n2_ := Aside0.mk (below_step (by repeat (first | (with_reducible first | exact HB.out | apply below_alloc | apply pw_below_drewN | apply below_drew1) | exact HB.out)) hb); clear HO229; clear HB; have HO229 := n0_; have HO232 := n1_; have HB := n2_; clear n0_ n1_ n2_; (try clear hb); (try clear hb2); (try clear hk); (try clear hi); (try clear ho0)) | (go_at_call 10; (with_reducible refine (cursor_Lines.calls ((a0 ++ (⟨#[10]⟩ : ByteArray)) ++ a1) t233 _ A15.out).mono ?_); rintro e w19 ⟨v234, rfl, ho0, hb⟩; have n0_ := Aside0.mk (Kd.R_elder' (by (with_reducible repeat (first | apply Kd.R_alloc | apply Kd.R_drewN | apply Kd.R_drew)); exact HO229.out) (Kd.R_base ho0) hb); have n1_ := Aside0.mk (Kd.R_elder' (by (with_reducible repeat (first | apply Kd.R_alloc | apply Kd.R_drewN | apply Kd.R_drew)); exact HO232.out) (Kd.R_base ho0) hb); have n2_ := Aside0.mk (Kd.R_lower (Kd.R_new' (Kd.R_new' ho0 (Kd.R_lt (by (with_reducible repeat (first | apply Kd.R_alloc | apply Kd.R_drewN | apply Kd.R_drew)); exact HO229.out))) (Kd.R_lt (by (with_reducible repeat (first | apply Kd.R_alloc | apply Kd.R_drewN | apply Kd.R_drew)); exact HO232.out))) (below_size (by repeat (first | (with_reducible first | exact HB.out | apply below_alloc | apply pw_below_drewN | apply below_drew1) | exact HB.out)))); have n3_ := Aside0.mk (below_step (by repeat (first | (with_reducible first | exact HB.out | apply below_alloc | apply pw_below_drewN | apply below_drew1) | exact HB.out)) hb); clear HO229; clear HO232; clear HB; have HO229 := n0_; have HO232 := n1_; have HO235 := n2_; have HB := n3_; clear n0_ n1_ n2_ n3_; (try clear hb); (try clear hb2); (try clear hk); (try clear hi); (try clear ho0))))
            (try simp only [Act.put, List.setIfInBounds_toArray, List.set_cons_zero, List.set_cons_succ])
            go_cut [46] (fun v46 wc => ∃ (kq : Nat) (x46_15 : Bool), v46 = .bool x46_15 ∧ Aside0 (entrepotlaw01_CursorJoin.j1 kq a0 t227 t230 t233 x46_15 = some r) ∧ Aside0 (kq ≤ kj2) ∧ Aside0 (Kd.R k31 31 wc w.heap.size (fun k_ => some k_ ≠ (v231 : Value).ownBlock ∧ some k_ ≠ (v234 : Value).ownBlock) v228 t227) ∧ Aside0 (Kd.R k31 31 wc w.heap.size (fun k_ => some k_ ≠ (v228 : Value).ownBlock ∧ some k_ ≠ (v234 : Value).ownBlock) v231 t230) ∧ Aside0 (Kd.R k31 31 wc w.heap.size (fun k_ => some k_ ≠ (v228 : Value).ownBlock ∧ some k_ ≠ (v231 : Value).ownBlock) v234 t233) ∧ Aside0 (Below w.heap.size w wc))
            case first =>
              have H := HC16.out
              clear HC16
              by_cases c20 : (t233.length : Int) = (wrap64 ((t227.length : Int) + (t230.length : Int)))
              · rw [if_pos c20] at H
                have c20b0 : ((t233.length : Int) == (wrap64 ((t227.length : Int) + (t230.length : Int)))) = true := beq_iff_eq.mpr c20
                have c20b1 : ((t233.length : Int) != (wrap64 ((t227.length : Int) + (t230.length : Int)))) = false := bne_eq_false_iff_eq.mpr c20
                clear c20
                (first | rw [c20b0] | (simp only [i64_w, i32_w]; rw [c20b0]) | skip)
                have H' := Aside0.mk H
                clear H
                obtain ⟨Ao21, co21, eo21⟩ := Kd.R_slice HO235.out
                subst eo21
                obtain ⟨Ao22, co22, eo22⟩ := Kd.R_slice HO229.out
                subst eo22
                obtain ⟨Ao23, co23, eo23⟩ := Kd.R_slice HO232.out
                subst eo23
                go_wp2
                repeat (go_quiet (fail); try go_wp2)
                go_meet
                case rel => exact ⟨_, (((t227.length : Int) == 0)), (by first | rfl | (simp; done) | (simp [*]; done)), H', ⟨by have := HJ2.out; first | omega | exact Nat.le_refl _⟩, ⟨by (with_reducible repeat (first | apply Kd.R_alloc | apply Kd.R_drewN | apply Kd.R_drew)); exact Kd.R_mono HO229.out (fun _ hk => ⟨hk.1.2, hk.2⟩)⟩, ⟨by (with_reducible repeat (first | apply Kd.R_alloc | apply Kd.R_drewN | apply Kd.R_drew)); exact Kd.R_mono HO232.out (fun _ hk => ⟨hk.1.2, hk.2⟩)⟩, ⟨by (with_reducible repeat (first | apply Kd.R_alloc | apply Kd.R_drewN | apply Kd.R_drew)); exact Kd.R_mono HO235.out (fun _ hk => ⟨hk.1.2, hk.2⟩)⟩, ⟨by repeat (first | (with_reducible first | exact HB.out | apply below_alloc | apply pw_below_drewN | apply below_drew1) | exact HB.out)⟩⟩
              · rw [if_neg c20] at H
                have c20b0 : ((t233.length : Int) == (wrap64 ((t227.length : Int) + (t230.length : Int)))) = false := beq_eq_false_iff_ne.mpr c20
                have c20b1 : ((t233.length : Int) != (wrap64 ((t227.length : Int) + (t230.length : Int)))) = true := bne_iff_ne.mpr c20
                (first | rw [c20b0] | (simp only [i64_w, i32_w]; rw [c20b0]) | skip)
                have H' := Aside0.mk H
                clear H
                obtain ⟨Ao24, co24, eo24⟩ := Kd.R_slice HO235.out
                subst eo24
                obtain ⟨Ao25, co25, eo25⟩ := Kd.R_slice HO229.out
                subst eo25
                obtain ⟨Ao26, co26, eo26⟩ := Kd.R_slice HO232.out
                subst eo26
                go_wp2
                repeat (go_quiet (fail); try go_wp2)
                go_meet
                case rel => exact ⟨_, (true), (by first | rfl | (simp; done) | (simp [*]; done)), H', ⟨by have := HJ2.out; first | omega | exact Nat.le_refl _⟩, ⟨by (with_reducible repeat (first | apply Kd.R_alloc | apply Kd.R_drewN | apply Kd.R_drew)); exact Kd.R_mono HO229.out (fun _ hk => ⟨hk.1.2, hk.2⟩)⟩, ⟨by (with_reducible repeat (first | apply Kd.R_alloc | apply Kd.R_drewN | apply Kd.R_drew)); exact Kd.R_mono HO232.out (fun _ hk => ⟨hk.1.2, hk.2⟩)⟩, ⟨by (with_reducible repeat (first | apply Kd.R_alloc | apply Kd.R_drewN | apply Kd.R_drew)); exact Kd.R_mono HO235.out (fun _ hk => ⟨hk.1.2, hk.2⟩)⟩, ⟨by repeat (first | (with_reducible first | exact HB.out | apply below_alloc | apply pw_below_drewN | apply below_drew1) | exact HB.out)⟩⟩
            case rest =>
              clear HC16
              try clear c1
              try clear c2
              try clear p2
              try clear c4
              try clear c4b0
              try clear c4b1
              try clear c5
              try clear c5b0
              try clear c5b1
              try clear p6
              try clear c7
              try clear c8
              try clear c11
              try clear c11b0
              try clear c11b1
              try clear c11b2
              try clear c14
              try clear c14b0
              try clear c14b1
              try clear c14b2
              try clear c20
              try clear c20b0
              try clear c20b1
              try clear p2
              obtain ⟨kq, x46_15, rfl, HA, HJ15, HO_5, HO_6, HO_7, HB⟩ := hcut
              cases kq with
              | zero => exact absurd HA.out (by simp [entrepotlaw01_CursorJoin.j1])
              | succ kj15 =>
                have H := HA.out
                clear HA
                simp only [entrepotlaw01_CursorJoin.j1] at H
                by_cases c27 : x46_15 = true
                · subst c27
                  have H1 : (some false) = some r := by rw [if_pos rfl] at H; exact H
                  clear H
                  have H := H1
                  clear H1
                  obtain rfl := Option.some.inj H
                  go_wp2
                  repeat (go_quiet (fail); try go_wp2)
                  go_ret
                  exact ⟨by first | rfl | (simp [errW_none, errW_some] <;> rfl) | (simp [*, errW_none, errW_some] <;> rfl), by repeat (first | (with_reducible first | exact HB.out | apply below_alloc | apply pw_below_drewN | apply below_drew1) | exact HB.out)⟩
                · replace c27 := Bool.eq_false_iff.mpr c27
                  subst c27
                  have H1 : (entrepotlaw01_CursorJoin.l0 kj15 t227 t230 t233 (wrap64 ((a0.size : Int) + 1)) 0) = some r := by rw [if_neg (show ¬ (false = true) by decide)] at H; exact H
                  clear H
                  have H := H1
                  clear H1
                  have H' := Aside0.mk H
                  clear H
                  go_wp2
                  repeat (go_quiet (fail); try go_wp2)
                  go_loopg [9] kj15 (fun kq v9 w' => ∃ (x9_3 : Int), v9 = .int .i64 x9_3 ∧ Aside0 (entrepotlaw01_CursorJoin.l0 kq t227 t230 t233 (wrap64 ((a0.size : Int) + 1)) x9_3 = some r) ∧ Aside0 (kq ≤ kj15) ∧ Aside0 (Kd.R k31 31 w' w.heap.size (fun k_ => some k_ ≠ (v231 : Value).ownBlock ∧ some k_ ≠ (v234 : Value).ownBlock) v228 t227) ∧ Aside0 (Kd.R k31 31 w' w.heap.size (fun k_ => some k_ ≠ (v228 : Value).ownBlock ∧ some k_ ≠ (v234 : Value).ownBlock) v231 t230) ∧ Aside0 (Kd.R k31 31 w' w.heap.size (fun k_ => some k_ ≠ (v228 : Value).ownBlock ∧ some k_ ≠ (v231 : Value).ownBlock) v234 t233) ∧ Aside0 (Below w.heap.size w w'))
                  case atStart => exact ⟨(0), (by first | rfl | (simp; done) | (simp [*]; done)), H', ⟨Nat.le_refl _⟩, ⟨by (with_reducible repeat (first | apply Kd.R_alloc | apply Kd.R_drewN | apply Kd.R_drew)); exact HO_5.out⟩, ⟨by (with_reducible repeat (first | apply Kd.R_alloc | apply Kd.R_drewN | apply Kd.R_drew)); exact HO_6.out⟩, ⟨by (with_reducible repeat (first | apply Kd.R_alloc | apply Kd.R_drewN | apply Kd.R_drew)); exact HO_7.out⟩, ⟨by repeat (first | (with_reducible first | exact HB.out | apply below_alloc | apply pw_below_drewN | apply below_drew1) | exact HB.out)⟩⟩
                  case round =>
                    clear H'
                    try clear c1
                    try clear c2
                    try clear p2
                    try clear c4
                    try clear c4b0
                    try clear c4b1
                    try clear c5
                    try clear c5b0
                    try clear c5b1
                    try clear p6
                    try clear c7
                    try clear c8
                    try clear c11
                    try clear c11b0
                    try clear c11b1
                    try clear c11b2
                    try clear c14
                    try clear c14b0
                    try clear c14b1
                    try clear c14b2
                    try clear c20
                    try clear c20b0
                    try clear c20b1
                    try clear c27
                    try clear p2
                    try clear p6
                    obtain ⟨x9_3, rfl, HA, HK3, HO_5, HO_6, HO_7, HB⟩ := hrel
                    cases gk with
                    | zero => exact absurd HA.out (by simp [entrepotlaw01_CursorJoin.l0])
                    | succ k3 =>
                      have H := HA.out
                      clear HA
                      simp only [entrepotlaw01_CursorJoin.l0] at H
                      by_cases c28 : x9_3 < (t233.length : Int)
                      · rw [if_pos c28] at H
                        have c28b0 : decide (x9_3 < (t233.length : Int)) = true := decide_eq_true c28
                        clear c28
                        have HC29 := Aside0.mk H
                        clear H
                        obtain ⟨Ao30, co30, eo30⟩ := Kd.R_slice HO_7.out
                        subst eo30
                        go_upto_region 12 with (fail)
                        repeat (go_quiet (fail); go_upto_region 12 with (fail))
                        go_cut [70] (fun v70 wc => ∃ (kq : Nat) (x70_28 : Bool), v70 = .bool x70_28 ∧ Aside0 (entrepotlaw01_CursorJoin.j3 kq t227 t230 t233 (wrap64 ((a0.size : Int) + 1)) x9_3 x70_28 = some r) ∧ Aside0 (kq ≤ k3) ∧ Aside0 (Kd.R k31 31 wc w.heap.size (fun k_ => some k_ ≠ (v231 : Value).ownBlock ∧ some k_ ≠ ((.slice Ao30 t233.length co30) : Value).ownBlock) v228 t227) ∧ Aside0 (Kd.R k31 31 wc w.heap.size (fun k_ => some k_ ≠ (v228 : Value).ownBlock ∧ some k_ ≠ ((.slice Ao30 t233.length co30) : Value).ownBlock) v231 t230) ∧ Aside0 (Kd.R k31 31 wc w.heap.size (fun k_ => some k_ ≠ (v228 : Value).ownBlock ∧ some k_ ≠ (v231 : Value).ownBlock) (.slice Ao30 t233.length co30) t233) ∧ Aside0 (Below w.heap.size w wc))
                        case first =>
                          have H := HC29.out
                          clear HC29
                          by_cases c31 : x9_3 < (t227.length : Int)
                          · rw [if_pos c31] at H
                            have c31b0 : decide (x9_3 < (t227.length : Int)) = true := decide_eq_true c31
                            clear c31
                            (first | rw [c31b0] | (simp only [i64_w, i32_w]; rw [c31b0]) | skip)
                            by_cases c32 : 0 ≤ x9_3
                            · rw [if_pos c32] at H
                              have c32b0 : decide (0 ≤ x9_3) = true := decide_eq_true c32
                              clear c32
                              have H' := Aside0.mk H
                              clear H
                              obtain ⟨Ao33, co33, eo33⟩ := Kd.R_slice HO_5.out
                              subst eo33
                              have p236 : 0 ≤ (x9_3 : Int) := of_decide_eq_true (by first | (with_reducible assumption) | assumption)
                              have q236 : x9_3 < (t233.length : Int) := of_decide_eq_true (by first | (with_reducible assumption) | assumption)
                              obtain ⟨ad236, e236, hx236_0, hx236_1, hx236_2⟩ := at_T31 (Kd.R_reads' HO_7.out).2.2 x9_3 p236 q236
                              cases e236
                              replace p236 := eq_true p236
                              replace q236 := eq_true q236
                              have p237 : 0 ≤ (x9_3 : Int) := of_decide_eq_true (by first | (with_reducible assumption) | assumption)
                              have q237 : x9_3 < (t227.length : Int) := of_decide_eq_true (by first | (with_reducible assumption) | assumption)
                              obtain ⟨ad237, e237, hx237_0, hx237_1, hx237_2⟩ := at_T31 (Kd.R_reads' HO_5.out).2.2 x9_3 p237 q237
                              cases e237
                              replace p237 := eq_true p237
                              replace q237 := eq_true q237
                              go_wp2
                              repeat (go_quiet (fail); try go_wp2)
                              go_meet
                              case rel => exact ⟨_, ((!(((rd_T31 t233 x9_3).f0) == ((rd_T31 t227 x9_3).f0)) || (!(((rd_T31 t233 x9_3).f1) == ((rd_T31 t227 x9_3).f1)) || (!(((rd_T31 t233 x9_3).f2) == ((rd_T31 t227 x9_3).f2)))))), (by first | rfl | (simp; done) | (simp [*]; done)), H', ⟨by have := HJ2.out; have := HJ15.out; have := HK3.out; first | omega | exact Nat.le_refl _⟩, ⟨by (with_reducible repeat (first | apply Kd.R_alloc | apply Kd.R_drewN | apply Kd.R_drew)); exact HO_5.out⟩, ⟨by (with_reducible repeat (first | apply Kd.R_alloc | apply Kd.R_drewN | apply Kd.R_drew)); exact HO_6.out⟩, ⟨by (with_reducible repeat (first | apply Kd.R_alloc | apply Kd.R_drewN | apply Kd.R_drew)); exact HO_7.out⟩, ⟨by repeat (first | (with_reducible first | exact HB.out | apply below_alloc | apply pw_below_drewN | apply below_drew1) | exact HB.out)⟩⟩
                            · rw [if_neg c32] at H
                              exact absurd H (by simp)
                          · rw [if_neg c31] at H
                            have c31b0 : decide (x9_3 < (t227.length : Int)) = false := decide_eq_false c31
                            clear c31
                            (first | rw [c31b0] | (simp only [i64_w, i32_w]; rw [c31b0]) | skip)
                            have H' := Aside0.mk H
                            clear H
                            obtain ⟨Ao34, co34, eo34⟩ := Kd.R_slice HO_5.out
                            subst eo34
                            go_wp2
                            repeat (go_quiet (fail); try go_wp2)
                            go_meet
                            case rel => exact ⟨_, (false), (by first | rfl | (simp; done) | (simp [*]; done)), H', ⟨by have := HJ2.out; have := HJ15.out; have := HK3.out; first | omega | exact Nat.le_refl _⟩, ⟨by (with_reducible repeat (first | apply Kd.R_alloc | apply Kd.R_drewN | apply Kd.R_drew)); exact HO_5.out⟩, ⟨by (with_reducible repeat (first | apply Kd.R_alloc | apply Kd.R_drewN | apply Kd.R_drew)); exact HO_6.out⟩, ⟨by (with_reducible repeat (first | apply Kd.R_alloc | apply Kd.R_drewN | apply Kd.R_drew)); exact HO_7.out⟩, ⟨by repeat (first | (with_reducible first | exact HB.out | apply below_alloc | apply pw_below_drewN | apply below_drew1) | exact HB.out)⟩⟩
                        case rest =>
                          clear HC29
                          try clear c1
                          try clear c2
                          try clear p2
                          try clear q2
                          try clear hx2
                          try clear c3
                          try clear c4
                          try clear c4b0
                          try clear c4b1
                          try clear c5
                          try clear c5b0
                          try clear c5b1
                          try clear p6
                          try clear c7
                          try clear c8
                          try clear c11
                          try clear c11b0
                          try clear c11b1
                          try clear c11b2
                          try clear c14
                          try clear c14b0
                          try clear c14b1
                          try clear c14b2
                          try clear c20
                          try clear c20b0
                          try clear c20b1
                          try clear p23
                          try clear q23
                          try clear hx23
                          try clear c27
                          try clear c28
                          try clear c28b0
                          try clear c31
                          try clear c31b0
                          try clear c32
                          try clear c32b0
                          try clear hx236_0
                          try clear hx236_1
                          try clear hx236_2
                          try clear hx237_0
                          try clear hx237_1
                          try clear hx237_2
                          try clear p2
                          try clear p236
                          try clear p237
                          try clear p6
                          try clear q236
                          try clear q237
                          obtain ⟨kq, x70_28, rfl, HA, HJ28, HO_5, HO_6, HO_7, HB⟩ := hcut
                          cases kq with
                          | zero => exact absurd HA.out (by simp [entrepotlaw01_CursorJoin.j3])
                          | succ kj28 =>
                            have H := HA.out
                            clear HA
                            simp only [entrepotlaw01_CursorJoin.j3] at H
                            by_cases c35 : x70_28 = true
                            · subst c35
                              have H1 : (some false) = some r := by rw [if_pos rfl] at H; exact H
                              clear H
                              have H := H1
                              clear H1
                              obtain rfl := Option.some.inj H
                              go_wp2
                              repeat (go_quiet (fail); try go_wp2)
                              go_ret
                              exact ⟨by first | rfl | (simp [errW_none, errW_some] <;> rfl) | (simp [*, errW_none, errW_some] <;> rfl), by repeat (first | (with_reducible first | exact HB.out | apply below_alloc | apply pw_below_drewN | apply below_drew1) | exact HB.out)⟩
                            · replace c35 := Bool.eq_false_iff.mpr c35
                              subst c35
                              have H1 : (if x9_3 ≥ (t227.length : Int) then (if 0 ≤ (wrap64 (x9_3 - (t227.length : Int))) then (if (wrap64 (x9_3 - (t227.length : Int))) < (t230.length : Int) then (if 0 ≤ x9_3 then (if x9_3 < (t233.length : Int) then (if (!(((rd_T31 t233 x9_3).f0) == (wrap64 (((rd_T31 t230 (wrap64 (x9_3 - (t227.length : Int)))).f0) + (wrap64 ((a0.size : Int) + 1))))) || (!(((rd_T31 t233 x9_3).f1) == (wrap64 (((rd_T31 t230 (wrap64 (x9_3 - (t227.length : Int)))).f1) + (wrap64 ((a0.size : Int) + 1))))) || (!(((rd_T31 t233 x9_3).f2) == (wrap64 (((rd_T31 t230 (wrap64 (x9_3 - (t227.length : Int)))).f2) + (wrap64 ((a0.size : Int) + 1)))))))) = true then (some false) else (entrepotlaw01_CursorJoin.l0 kj28 t227 t230 t233 (wrap64 ((a0.size : Int) + 1)) (wrap64 (x9_3 + 1)))) else (none)) else (none)) else (none)) else (none)) else (entrepotlaw01_CursorJoin.l0 kj28 t227 t230 t233 (wrap64 ((a0.size : Int) + 1)) (wrap64 (x9_3 + 1)))) = some r := by rw [if_neg (show ¬ (false = true) by decide)] at H; exact H
                              clear H
                              have H := H1
                              clear H1
                              by_cases c36 : x9_3 ≥ (t227.length : Int)
                              · rw [if_pos c36] at H
                                have c36b0 : decide ((t227.length : Int) ≤ x9_3) = true := decide_eq_true c36
                                clear c36
                                obtain ⟨ji37, hji37⟩ : ∃ j_ : Int, (wrap64 (x9_3 - (t227.length : Int))) = j_ := ⟨_, rfl⟩
                                replace H : (if 0 ≤ (ji37) then (if (ji37) < (t230.length : Int) then (if 0 ≤ x9_3 then (if x9_3 < (t233.length : Int) then (if (!(((rd_T31 t233 x9_3).f0) == (wrap64 (((rd_T31 t230 (ji37)).f0) + (wrap64 ((a0.size : Int) + 1))))) || (!(((rd_T31 t233 x9_3).f1) == (wrap64 (((rd_T31 t230 (ji37)).f1) + (wrap64 ((a0.size : Int) + 1))))) || (!(((rd_T31 t233 x9_3).f2) == (wrap64 (((rd_T31 t230 (ji37)).f2) + (wrap64 ((a0.size : Int) + 1)))))))) = true then (some false) else (entrepotlaw01_CursorJoin.l0 kj28 t227 t230 t233 (wrap64 ((a0.size : Int) + 1)) (wrap64 (x9_3 + 1)))) else (none)) else (none)) else (none)) else (none)) = some r := by first | (rw [hji37] at H; exact H) | (simp only [hji37] at H ⊢; exact H)
                                have hji37w : (IntKind.i64.wrap (x9_3 - (t227.length : Int))) = ji37 := (i64_w _).trans hji37
                                by_cases c38 : 0 ≤ (ji37)
                                · rw [if_pos c38] at H
                                  have c38b0 : decide (0 ≤ (ji37)) = true := decide_eq_true c38
                                  clear c38
                                  by_cases c39 : (ji37) < (t230.length : Int)
                                  · rw [if_pos c39] at H
                                    have c39b0 : decide ((ji37) < (t230.length : Int)) = true := decide_eq_true c39
                                    clear c39
                                    by_cases c40 : 0 ≤ x9_3
                                    · rw [if_pos c40] at H
                                      have c40b0 : decide (0 ≤ x9_3) = true := decide_eq_true c40
                                      clear c40
                                      by_cases c41 : x9_3 < (t233.length : Int)
                                      · rw [if_pos c41] at H
                                        have c41b0 : decide (x9_3 < (t233.length : Int)) = true := decide_eq_true c41
                                        clear c41
                                        by_cases c42 : (!(((rd_T31 t233 x9_3).f0) == (wrap64 (((rd_T31 t230 (ji37)).f0) + (wrap64 ((a0.size : Int) + 1))))) || (!(((rd_T31 t233 x9_3).f1) == (wrap64 (((rd_T31 t230 (ji37)).f1) + (wrap64 ((a0.size : Int) + 1))))) || (!(((rd_T31 t233 x9_3).f2) == (wrap64 (((rd_T31 t230 (ji37)).f2) + (wrap64 ((a0.size : Int) + 1)))))))) = true
                                        · rw [if_pos c42] at H
                                          have c42b0 : (!(((rd_T31 t233 x9_3).f0) == (wrap64 (((rd_T31 t230 (ji37)).f0) + (wrap64 ((a0.size : Int) + 1))))) || (!(((rd_T31 t233 x9_3).f1) == (wrap64 (((rd_T31 t230 (ji37)).f1) + (wrap64 ((a0.size : Int) + 1))))) || (!(((rd_T31 t233 x9_3).f2) == (wrap64 (((rd_T31 t230 (ji37)).f2) + (wrap64 ((a0.size : Int) + 1)))))))) = true := c42
                                          clear c42
                                          obtain rfl := Option.some.inj H
                                          obtain ⟨Ao43, co43, eo43⟩ := Kd.R_slice HO_5.out
                                          subst eo43
                                          obtain ⟨Ao44, co44, eo44⟩ := Kd.R_slice HO_6.out
                                          subst eo44
                                          have p238 : 0 ≤ ((ji37) : Int) := of_decide_eq_true (by first | (with_reducible assumption) | assumption)
                                          have q238 : (ji37) < (t230.length : Int) := of_decide_eq_true (by first | (with_reducible assumption) | assumption)
                                          obtain ⟨ad238, e238, hx238_0, hx238_1, hx238_2⟩ := at_T31 (Kd.R_reads' HO_6.out).2.2 (ji37) p238 q238
                                          cases e238
                                          replace p238 := eq_true p238
                                          replace q238 := eq_true q238
                                          go_wp2_with (first | ((with_reducible refine gate_dst (N := 10) rfl ?_); (try (refine gate_guard (by rfl) ?_; dsimp only)); refine box_event ?hg (N := 10) ?hd (cs := #[.int .i64 0, .int .i64 0, .int .i64 0]) (t := 31) ?hr ?_; (case hd => rfl); (case hg => rfl); (case hr => first | (go_simp; done) | (go_simp; rfl)); intro gb239 hg w45 hbox hb; have n0_ := Aside0.mk (Kd.R_below (Kd.R_elderB (by (with_reducible repeat (first | apply Kd.R_alloc | apply Kd.R_drewN | apply Kd.R_drew)); exact HO_5.out) gb239 (Nat.le_of_eq hg.symm)) hb); have n1_ := Aside0.mk (Kd.R_below (Kd.R_elderB (by (with_reducible repeat (first | apply Kd.R_alloc | apply Kd.R_drewN | apply Kd.R_drew)); exact HO_6.out) gb239 (Nat.le_of_eq hg.symm)) hb); have n2_ := Aside0.mk (Kd.R_below (Kd.R_elderB (by (with_reducible repeat (first | apply Kd.R_alloc | apply Kd.R_drewN | apply Kd.R_drew)); exact HO_7.out) gb239 (Nat.le_of_eq hg.symm)) hb); have n3_ := Aside0.mk (below_step (by repeat (first | (with_reducible first | exact HB.out | apply below_alloc | apply pw_below_drewN | apply below_drew1) | exact HB.out)) hb); have n4_ := Aside0.mk (hbox); have n5_ := Aside0.mk ((by rw [hg]; exact (below_size (by repeat (first | (with_reducible first | exact HB.out | apply below_alloc | apply pw_below_drewN | apply below_drew1) | exact HB.out))) : w.heap.size ≤ gb239)); have n6_ := Aside0.mk ((by rw [hg]; exact (below_size (by repeat (first | (with_reducible first | exact HB.out | apply below_alloc | apply pw_below_drewN | apply below_drew1) | exact HB.out))) : w.heap.size ≤ gb239)); clear HO_5; clear HO_6; clear HO_7; clear HB; have HO_5 := n0_; have HO_6 := n1_; have HO_7 := n2_; have HB := n3_; have BK239 := n4_; have GW239 := n5_; have GE239 := n6_; clear n0_ n1_ n2_ n3_ n4_ n5_ n6_; clear hb hbox hg; have hcz46_0 : w45.cell? ⟨gb239, 0, none⟩ = some (.int .i64 0) := (blk_cell BK239.out 0).trans rfl; have hcz46_1 : w45.cell? ⟨gb239, 1, none⟩ = some (.int .i64 0) := (blk_cell BK239.out 1).trans rfl; have hcz46_2 : w45.cell? ⟨gb239, 2, none⟩ = some (.int .i64 0) := (blk_cell BK239.out 2).trans rfl; have hfz46_0 := blk_frozen BK239.out 0; have hfz46_1 := blk_frozen BK239.out 1; have hfz46_2 := blk_frozen BK239.out 2; have p240 : 0 ≤ (x9_3 : Int) := of_decide_eq_true (by first | (with_reducible assumption) | assumption); have q240 : x9_3 < (t233.length : Int) := of_decide_eq_true (by first | (with_reducible assumption) | assumption); obtain ⟨ad240, e240, hx240_0, hx240_1, hx240_2⟩ := at_T31 (Kd.R_reads' HO_7.out).2.2 x9_3 p240 q240; cases e240; have hn240_0 : ad240.block ≠ gb239 := (by first | exact Kd.own_blk (Kd.R_ne HO_7.out BK239.out (by decide)) | exact (HO_7.out.1 _ rfl).2); have hn240_1 : ad240.block ≠ gb239 := (by first | exact Kd.own_blk (Kd.R_ne HO_7.out BK239.out (by decide)) | exact (HO_7.out.1 _ rfl).2); have hn240_2 : ad240.block ≠ gb239 := (by first | exact Kd.own_blk (Kd.R_ne HO_7.out BK239.out (by decide)) | exact (HO_7.out.1 _ rfl).2); replace hx240_0 := (cell_far (p := ⟨gb239, 0, none⟩) (by first | (rw [add_block]; exact hn240_0) | (show (Addr.add _ _).block ≠ _; rw [add_block]; exact hn240_0) | exact hn240_0) (.int .i64 ((rd_T31 t230 (ji37)).f0))).trans hx240_0; replace hx240_1 := (cell_far (p := ⟨gb239, 0, none⟩) (by first | (rw [add_block]; exact hn240_0) | (show (Addr.add _ _).block ≠ _; rw [add_block]; exact hn240_0) | exact hn240_0) (.int .i64 ((rd_T31 t230 (ji37)).f0))).trans hx240_1; replace hx240_2 := (cell_far (p := ⟨gb239, 0, none⟩) (by first | (rw [add_block]; exact hn240_0) | (show (Addr.add _ _).block ≠ _; rw [add_block]; exact hn240_0) | exact hn240_0) (.int .i64 ((rd_T31 t230 (ji37)).f0))).trans hx240_2; replace hx240_0 := (cell_far (p := ⟨gb239, 1, none⟩) (by first | (rw [add_block]; exact hn240_1) | (show (Addr.add _ _).block ≠ _; rw [add_block]; exact hn240_1) | exact hn240_1) (.int .i64 ((rd_T31 t230 (ji37)).f1))).trans hx240_0; replace hx240_1 := (cell_far (p := ⟨gb239, 1, none⟩) (by first | (rw [add_block]; exact hn240_1) | (show (Addr.add _ _).block ≠ _; rw [add_block]; exact hn240_1) | exact hn240_1) (.int .i64 ((rd_T31 t230 (ji37)).f1))).trans hx240_1; replace hx240_2 := (cell_far (p := ⟨gb239, 1, none⟩) (by first | (rw [add_block]; exact hn240_1) | (show (Addr.add _ _).block ≠ _; rw [add_block]; exact hn240_1) | exact hn240_1) (.int .i64 ((rd_T31 t230 (ji37)).f1))).trans hx240_2; replace hx240_0 := (cell_far (p := ⟨gb239, 2, none⟩) (by first | (rw [add_block]; exact hn240_2) | (show (Addr.add _ _).block ≠ _; rw [add_block]; exact hn240_2) | exact hn240_2) (.int .i64 ((rd_T31 t230 (ji37)).f2))).trans hx240_0; replace hx240_1 := (cell_far (p := ⟨gb239, 2, none⟩) (by first | (rw [add_block]; exact hn240_2) | (show (Addr.add _ _).block ≠ _; rw [add_block]; exact hn240_2) | exact hn240_2) (.int .i64 ((rd_T31 t230 (ji37)).f2))).trans hx240_1; replace hx240_2 := (cell_far (p := ⟨gb239, 2, none⟩) (by first | (rw [add_block]; exact hn240_2) | (show (Addr.add _ _).block ≠ _; rw [add_block]; exact hn240_2) | exact hn240_2) (.int .i64 ((rd_T31 t230 (ji37)).f2))).trans hx240_2; (try have hy240_0 := fun (n_ : Nat) => (show (((((w45.drewN n_).setCell ⟨gb239, 0, none⟩ (.int .i64 ((rd_T31 t230 (ji37)).f0))).setCell ⟨gb239, 1, none⟩ (.int .i64 ((rd_T31 t230 (ji37)).f1))).setCell ⟨gb239, 2, none⟩ (.int .i64 ((rd_T31 t230 (ji37)).f2)))).cell? _ = some _ from hx240_0)); (try have hy240_1 := fun (n_ : Nat) => (show (((((w45.drewN n_).setCell ⟨gb239, 0, none⟩ (.int .i64 ((rd_T31 t230 (ji37)).f0))).setCell ⟨gb239, 1, none⟩ (.int .i64 ((rd_T31 t230 (ji37)).f1))).setCell ⟨gb239, 2, none⟩ (.int .i64 ((rd_T31 t230 (ji37)).f2)))).cell? _ = some _ from hx240_1)); (try have hy240_2 := fun (n_ : Nat) => (show (((((w45.drewN n_).setCell ⟨gb239, 0, none⟩ (.int .i64 ((rd_T31 t230 (ji37)).f0))).setCell ⟨gb239, 1, none⟩ (.int .i64 ((rd_T31 t230 (ji37)).f1))).setCell ⟨gb239, 2, none⟩ (.int .i64 ((rd_T31 t230 (ji37)).f2)))).cell? _ = some _ from hx240_2)); clear hn240_0; clear hn240_1; clear hn240_2; replace p240 := eq_true p240; replace q240 := eq_true q240))
                                          repeat (go_quiet (first | ((with_reducible refine gate_dst (N := 10) rfl ?_); (try (refine gate_guard (by rfl) ?_; dsimp only)); refine box_event ?hg (N := 10) ?hd (cs := #[.int .i64 0, .int .i64 0, .int .i64 0]) (t := 31) ?hr ?_; (case hd => rfl); (case hg => rfl); (case hr => first | (go_simp; done) | (go_simp; rfl)); intro gb239 hg w45 hbox hb; have n0_ := Aside0.mk (Kd.R_below (Kd.R_elderB (by (with_reducible repeat (first | apply Kd.R_alloc | apply Kd.R_drewN | apply Kd.R_drew)); exact HO_5.out) gb239 (Nat.le_of_eq hg.symm)) hb); have n1_ := Aside0.mk (Kd.R_below (Kd.R_elderB (by (with_reducible repeat (first | apply Kd.R_alloc | apply Kd.R_drewN | apply Kd.R_drew)); exact HO_6.out) gb239 (Nat.le_of_eq hg.symm)) hb); have n2_ := Aside0.mk (Kd.R_below (Kd.R_elderB (by (with_reducible repeat (first | apply Kd.R_alloc | apply Kd.R_drewN | apply Kd.R_drew)); exact HO_7.out) gb239 (Nat.le_of_eq hg.symm)) hb); have n3_ := Aside0.mk (below_step (by repeat (first | (with_reducible first | exact HB.out | apply below_alloc | apply pw_below_drewN | apply below_drew1) | exact HB.out)) hb); have n4_ := Aside0.mk (hbox); have n5_ := Aside0.mk ((by rw [hg]; exact (below_size (by repeat (first | (with_reducible first | exact HB.out | apply below_alloc | apply pw_below_drewN | apply below_drew1) | exact HB.out))) : w.heap.size ≤ gb239)); have n6_ := Aside0.mk ((by rw [hg]; exact (below_size (by repeat (first | (with_reducible first | exact HB.out | apply below_alloc | apply pw_below_drewN | apply below_drew1) | exact HB.out))) : w.heap.size ≤ gb239)); clear HO_5; clear HO_6; clear HO_7; clear HB; have HO_5 := n0_; have HO_6 := n1_; have HO_7 := n2_; have HB := n3_; have BK239 := n4_; have GW239 := n5_; have GE239 := n6_; clear n0_ n1_ n2_ n3_ n4_ n5_ n6_; clear hb hbox hg; have hcz46_0 : w45.cell? ⟨gb239, 0, none⟩ = some (.int .i64 0) := (blk_cell BK239.out 0).trans rfl; have hcz46_1 : w45.cell? ⟨gb239, 1, none⟩ = some (.int .i64 0) := (blk_cell BK239.out 1).trans rfl; have hcz46_2 : w45.cell? ⟨gb239, 2, none⟩ = some (.int .i64 0) := (blk_cell BK239.out 2).trans rfl; have hfz46_0 := blk_frozen BK239.out 0; have hfz46_1 := blk_frozen BK239.out 1; have hfz46_2 := blk_frozen BK239.out 2; have p240 : 0 ≤ (x9_3 : Int) := of_decide_eq_true (by first | (with_reducible assumption) | assumption); have q240 : x9_3 < (t233.length : Int) := of_decide_eq_true (by first | (with_reducible assumption) | assumption); obtain ⟨ad240, e240, hx240_0, hx240_1, hx240_2⟩ := at_T31 (Kd.R_reads' HO_7.out).2.2 x9_3 p240 q240; cases e240; have hn240_0 : ad240.block ≠ gb239 := (by first | exact Kd.own_blk (Kd.R_ne HO_7.out BK239.out (by decide)) | exact (HO_7.out.1 _ rfl).2); have hn240_1 : ad240.block ≠ gb239 := (by first | exact Kd.own_blk (Kd.R_ne HO_7.out BK239.out (by decide)) | exact (HO_7.out.1 _ rfl).2); have hn240_2 : ad240.block ≠ gb239 := (by first | exact Kd.own_blk (Kd.R_ne HO_7.out BK239.out (by decide)) | exact (HO_7.out.1 _ rfl).2); replace hx240_0 := (cell_far (p := ⟨gb239, 0, none⟩) (by first | (rw [add_block]; exact hn240_0) | (show (Addr.add _ _).block ≠ _; rw [add_block]; exact hn240_0) | exact hn240_0) (.int .i64 ((rd_T31 t230 (ji37)).f0))).trans hx240_0; replace hx240_1 := (cell_far (p := ⟨gb239, 0, none⟩) (by first | (rw [add_block]; exact hn240_0) | (show (Addr.add _ _).block ≠ _; rw [add_block]; exact hn240_0) | exact hn240_0) (.int .i64 ((rd_T31 t230 (ji37)).f0))).trans hx240_1; replace hx240_2 := (cell_far (p := ⟨gb239, 0, none⟩) (by first | (rw [add_block]; exact hn240_0) | (show (Addr.add _ _).block ≠ _; rw [add_block]; exact hn240_0) | exact hn240_0) (.int .i64 ((rd_T31 t230 (ji37)).f0))).trans hx240_2; replace hx240_0 := (cell_far (p := ⟨gb239, 1, none⟩) (by first | (rw [add_block]; exact hn240_1) | (show (Addr.add _ _).block ≠ _; rw [add_block]; exact hn240_1) | exact hn240_1) (.int .i64 ((rd_T31 t230 (ji37)).f1))).trans hx240_0; replace hx240_1 := (cell_far (p := ⟨gb239, 1, none⟩) (by first | (rw [add_block]; exact hn240_1) | (show (Addr.add _ _).block ≠ _; rw [add_block]; exact hn240_1) | exact hn240_1) (.int .i64 ((rd_T31 t230 (ji37)).f1))).trans hx240_1; replace hx240_2 := (cell_far (p := ⟨gb239, 1, none⟩) (by first | (rw [add_block]; exact hn240_1) | (show (Addr.add _ _).block ≠ _; rw [add_block]; exact hn240_1) | exact hn240_1) (.int .i64 ((rd_T31 t230 (ji37)).f1))).trans hx240_2; replace hx240_0 := (cell_far (p := ⟨gb239, 2, none⟩) (by first | (rw [add_block]; exact hn240_2) | (show (Addr.add _ _).block ≠ _; rw [add_block]; exact hn240_2) | exact hn240_2) (.int .i64 ((rd_T31 t230 (ji37)).f2))).trans hx240_0; replace hx240_1 := (cell_far (p := ⟨gb239, 2, none⟩) (by first | (rw [add_block]; exact hn240_2) | (show (Addr.add _ _).block ≠ _; rw [add_block]; exact hn240_2) | exact hn240_2) (.int .i64 ((rd_T31 t230 (ji37)).f2))).trans hx240_1; replace hx240_2 := (cell_far (p := ⟨gb239, 2, none⟩) (by first | (rw [add_block]; exact hn240_2) | (show (Addr.add _ _).block ≠ _; rw [add_block]; exact hn240_2) | exact hn240_2) (.int .i64 ((rd_T31 t230 (ji37)).f2))).trans hx240_2; (try have hy240_0 := fun (n_ : Nat) => (show (((((w45.drewN n_).setCell ⟨gb239, 0, none⟩ (.int .i64 ((rd_T31 t230 (ji37)).f0))).setCell ⟨gb239, 1, none⟩ (.int .i64 ((rd_T31 t230 (ji37)).f1))).setCell ⟨gb239, 2, none⟩ (.int .i64 ((rd_T31 t230 (ji37)).f2)))).cell? _ = some _ from hx240_0)); (try have hy240_1 := fun (n_ : Nat) => (show (((((w45.drewN n_).setCell ⟨gb239, 0, none⟩ (.int .i64 ((rd_T31 t230 (ji37)).f0))).setCell ⟨gb239, 1, none⟩ (.int .i64 ((rd_T31 t230 (ji37)).f1))).setCell ⟨gb239, 2, none⟩ (.int .i64 ((rd_T31 t230 (ji37)).f2)))).cell? _ = some _ from hx240_1)); (try have hy240_2 := fun (n_ : Nat) => (show (((((w45.drewN n_).setCell ⟨gb239, 0, none⟩ (.int .i64 ((rd_T31 t230 (ji37)).f0))).setCell ⟨gb239, 1, none⟩ (.int .i64 ((rd_T31 t230 (ji37)).f1))).setCell ⟨gb239, 2, none⟩ (.int .i64 ((rd_T31 t230 (ji37)).f2)))).cell? _ = some _ from hx240_2)); clear hn240_0; clear hn240_1; clear hn240_2; replace p240 := eq_true p240; replace q240 := eq_true q240)); try go_wp2_with (first | ((with_reducible refine gate_dst (N := 10) rfl ?_); (try (refine gate_guard (by rfl) ?_; dsimp only)); refine box_event ?hg (N := 10) ?hd (cs := #[.int .i64 0, .int .i64 0, .int .i64 0]) (t := 31) ?hr ?_; (case hd => rfl); (case hg => rfl); (case hr => first | (go_simp; done) | (go_simp; rfl)); intro gb239 hg w45 hbox hb; have n0_ := Aside0.mk (Kd.R_below (Kd.R_elderB (by (with_reducible repeat (first | apply Kd.R_alloc | apply Kd.R_drewN | apply Kd.R_drew)); exact HO_5.out) gb239 (Nat.le_of_eq hg.symm)) hb); have n1_ := Aside0.mk (Kd.R_below (Kd.R_elderB (by (with_reducible repeat (first | apply Kd.R_alloc | apply Kd.R_drewN | apply Kd.R_drew)); exact HO_6.out) gb239 (Nat.le_of_eq hg.symm)) hb); have n2_ := Aside0.mk (Kd.R_below (Kd.R_elderB (by (with_reducible repeat (first | apply Kd.R_alloc | apply Kd.R_drewN | apply Kd.R_drew)); exact HO_7.out) gb239 (Nat.le_of_eq hg.symm)) hb); have n3_ := Aside0.mk (below_step (by repeat (first | (with_reducible first | exact HB.out | apply below_alloc | apply pw_below_drewN | apply below_drew1) | exact HB.out)) hb); have n4_ := Aside0.mk (hbox); have n5_ := Aside0.mk ((by rw [hg]; exact (below_size (by repeat (first | (with_reducible first | exact HB.out | apply below_alloc | apply pw_below_drewN | apply below_drew1) | exact HB.out))) : w.heap.size ≤ gb239)); have n6_ := Aside0.mk ((by rw [hg]; exact (below_size (by repeat (first | (with_reducible first | exact HB.out | apply below_alloc | apply pw_below_drewN | apply below_drew1) | exact HB.out))) : w.heap.size ≤ gb239)); clear HO_5; clear HO_6; clear HO_7; clear HB; have HO_5 := n0_; have HO_6 := n1_; have HO_7 := n2_; have HB := n3_; have BK239 := n4_; have GW239 := n5_; have GE239 := n6_; clear n0_ n1_ n2_ n3_ n4_ n5_ n6_; clear hb hbox hg; have hcz46_0 : w45.cell? ⟨gb239, 0, none⟩ = some (.int .i64 0) := (blk_cell BK239.out 0).trans rfl; have hcz46_1 : w45.cell? ⟨gb239, 1, none⟩ = some (.int .i64 0) := (blk_cell BK239.out 1).trans rfl; have hcz46_2 : w45.cell? ⟨gb239, 2, none⟩ = some (.int .i64 0) := (blk_cell BK239.out 2).trans rfl; have hfz46_0 := blk_frozen BK239.out 0; have hfz46_1 := blk_frozen BK239.out 1; have hfz46_2 := blk_frozen BK239.out 2; have p240 : 0 ≤ (x9_3 : Int) := of_decide_eq_true (by first | (with_reducible assumption) | assumption); have q240 : x9_3 < (t233.length : Int) := of_decide_eq_true (by first | (with_reducible assumption) | assumption); obtain ⟨ad240, e240, hx240_0, hx240_1, hx240_2⟩ := at_T31 (Kd.R_reads' HO_7.out).2.2 x9_3 p240 q240; cases e240; have hn240_0 : ad240.block ≠ gb239 := (by first | exact Kd.own_blk (Kd.R_ne HO_7.out BK239.out (by decide)) | exact (HO_7.out.1 _ rfl).2); have hn240_1 : ad240.block ≠ gb239 := (by first | exact Kd.own_blk (Kd.R_ne HO_7.out BK239.out (by decide)) | exact (HO_7.out.1 _ rfl).2); have hn240_2 : ad240.block ≠ gb239 := (by first | exact Kd.own_blk (Kd.R_ne HO_7.out BK239.out (by decide)) | exact (HO_7.out.1 _ rfl).2); replace hx240_0 := (cell_far (p := ⟨gb239, 0, none⟩) (by first | (rw [add_block]; exact hn240_0) | (show (Addr.add _ _).block ≠ _; rw [add_block]; exact hn240_0) | exact hn240_0) (.int .i64 ((rd_T31 t230 (ji37)).f0))).trans hx240_0; replace hx240_1 := (cell_far (p := ⟨gb239, 0, none⟩) (by first | (rw [add_block]; exact hn240_0) | (show (Addr.add _ _).block ≠ _; rw [add_block]; exact hn240_0) | exact hn240_0) (.int .i64 ((rd_T31 t230 (ji37)).f0))).trans hx240_1; replace hx240_2 := (cell_far (p := ⟨gb239, 0, none⟩) (by first | (rw [add_block]; exact hn240_0) | (show (Addr.add _ _).block ≠ _; rw [add_block]; exact hn240_0) | exact hn240_0) (.int .i64 ((rd_T31 t230 (ji37)).f0))).trans hx240_2; replace hx240_0 := (cell_far (p := ⟨gb239, 1, none⟩) (by first | (rw [add_block]; exact hn240_1) | (show (Addr.add _ _).block ≠ _; rw [add_block]; exact hn240_1) | exact hn240_1) (.int .i64 ((rd_T31 t230 (ji37)).f1))).trans hx240_0; replace hx240_1 := (cell_far (p := ⟨gb239, 1, none⟩) (by first | (rw [add_block]; exact hn240_1) | (show (Addr.add _ _).block ≠ _; rw [add_block]; exact hn240_1) | exact hn240_1) (.int .i64 ((rd_T31 t230 (ji37)).f1))).trans hx240_1; replace hx240_2 := (cell_far (p := ⟨gb239, 1, none⟩) (by first | (rw [add_block]; exact hn240_1) | (show (Addr.add _ _).block ≠ _; rw [add_block]; exact hn240_1) | exact hn240_1) (.int .i64 ((rd_T31 t230 (ji37)).f1))).trans hx240_2; replace hx240_0 := (cell_far (p := ⟨gb239, 2, none⟩) (by first | (rw [add_block]; exact hn240_2) | (show (Addr.add _ _).block ≠ _; rw [add_block]; exact hn240_2) | exact hn240_2) (.int .i64 ((rd_T31 t230 (ji37)).f2))).trans hx240_0; replace hx240_1 := (cell_far (p := ⟨gb239, 2, none⟩) (by first | (rw [add_block]; exact hn240_2) | (show (Addr.add _ _).block ≠ _; rw [add_block]; exact hn240_2) | exact hn240_2) (.int .i64 ((rd_T31 t230 (ji37)).f2))).trans hx240_1; replace hx240_2 := (cell_far (p := ⟨gb239, 2, none⟩) (by first | (rw [add_block]; exact hn240_2) | (show (Addr.add _ _).block ≠ _; rw [add_block]; exact hn240_2) | exact hn240_2) (.int .i64 ((rd_T31 t230 (ji37)).f2))).trans hx240_2; (try have hy240_0 := fun (n_ : Nat) => (show (((((w45.drewN n_).setCell ⟨gb239, 0, none⟩ (.int .i64 ((rd_T31 t230 (ji37)).f0))).setCell ⟨gb239, 1, none⟩ (.int .i64 ((rd_T31 t230 (ji37)).f1))).setCell ⟨gb239, 2, none⟩ (.int .i64 ((rd_T31 t230 (ji37)).f2)))).cell? _ = some _ from hx240_0)); (try have hy240_1 := fun (n_ : Nat) => (show (((((w45.drewN n_).setCell ⟨gb239, 0, none⟩ (.int .i64 ((rd_T31 t230 (ji37)).f0))).setCell ⟨gb239, 1, none⟩ (.int .i64 ((rd_T31 t230 (ji37)).f1))).setCell ⟨gb239, 2, none⟩ (.int .i64 ((rd_T31 t230 (ji37)).f2)))).cell? _ = some _ from hx240_1)); (try have hy240_2 := fun (n_ : Nat) => (show (((((w45.drewN n_).setCell ⟨gb239, 0, none⟩ (.int .i64 ((rd_T31 t230 (ji37)).f0))).setCell ⟨gb239, 1, none⟩ (.int .i64 ((rd_T31 t230 (ji37)).f1))).setCell ⟨gb239, 2, none⟩ (.int .i64 ((rd_T31 t230 (ji37)).f2)))).cell? _ = some _ from hx240_2)); clear hn240_0; clear hn240_1; clear hn240_2; replace p240 := eq_true p240; replace q240 := eq_true q240)))
                                          go_ret
                                          exact ⟨by first | rfl | (simp [errW_none, errW_some] <;> rfl) | (simp only [← hji37]; first | rfl | (simp [errW_none, errW_some] <;> rfl)) | (simp [*, errW_none, errW_some] <;> rfl), by repeat (first | (with_reducible first | exact HB.out | apply below_alloc | apply pw_below_drewN | apply below_drew1 | refine below_set ?_ GE239.out) | exact HB.out)⟩
                                        · rw [if_neg c42] at H
                                          have c42b0 : (!(((rd_T31 t233 x9_3).f0) == (wrap64 (((rd_T31 t230 (ji37)).f0) + (wrap64 ((a0.size : Int) + 1))))) || (!(((rd_T31 t233 x9_3).f1) == (wrap64 (((rd_T31 t230 (ji37)).f1) + (wrap64 ((a0.size : Int) + 1))))) || (!(((rd_T31 t233 x9_3).f2) == (wrap64 (((rd_T31 t230 (ji37)).f2) + (wrap64 ((a0.size : Int) + 1)))))))) = false := by simpa using c42
                                          clear c42
                                          have H' := Aside0.mk H
                                          clear H
                                          obtain ⟨Ao47, co47, eo47⟩ := Kd.R_slice HO_5.out
                                          subst eo47
                                          obtain ⟨Ao48, co48, eo48⟩ := Kd.R_slice HO_6.out
                                          subst eo48
                                          have p238 : 0 ≤ ((ji37) : Int) := of_decide_eq_true (by first | (with_reducible assumption) | assumption)
                                          have q238 : (ji37) < (t230.length : Int) := of_decide_eq_true (by first | (with_reducible assumption) | assumption)
                                          obtain ⟨ad238, e238, hx238_0, hx238_1, hx238_2⟩ := at_T31 (Kd.R_reads' HO_6.out).2.2 (ji37) p238 q238
                                          cases e238
                                          replace p238 := eq_true p238
                                          replace q238 := eq_true q238
                                          go_wp2_with (first | ((with_reducible refine gate_dst (N := 10) rfl ?_); (try (refine gate_guard (by rfl) ?_; dsimp only)); refine box_event ?hg (N := 10) ?hd (cs := #[.int .i64 0, .int .i64 0, .int .i64 0]) (t := 31) ?hr ?_; (case hd => rfl); (case hg => rfl); (case hr => first | (go_simp; done) | (go_simp; rfl)); intro gb239 hg w49 hbox hb; have n0_ := Aside0.mk (Kd.R_below (Kd.R_elderB (by (with_reducible repeat (first | apply Kd.R_alloc | apply Kd.R_drewN | apply Kd.R_drew)); exact HO_5.out) gb239 (Nat.le_of_eq hg.symm)) hb); have n1_ := Aside0.mk (Kd.R_below (Kd.R_elderB (by (with_reducible repeat (first | apply Kd.R_alloc | apply Kd.R_drewN | apply Kd.R_drew)); exact HO_6.out) gb239 (Nat.le_of_eq hg.symm)) hb); have n2_ := Aside0.mk (Kd.R_below (Kd.R_elderB (by (with_reducible repeat (first | apply Kd.R_alloc | apply Kd.R_drewN | apply Kd.R_drew)); exact HO_7.out) gb239 (Nat.le_of_eq hg.symm)) hb); have n3_ := Aside0.mk (below_step (by repeat (first | (with_reducible first | exact HB.out | apply below_alloc | apply pw_below_drewN | apply below_drew1) | exact HB.out)) hb); have n4_ := Aside0.mk (hbox); have n5_ := Aside0.mk ((by rw [hg]; exact (below_size (by repeat (first | (with_reducible first | exact HB.out | apply below_alloc | apply pw_below_drewN | apply below_drew1) | exact HB.out))) : w.heap.size ≤ gb239)); have n6_ := Aside0.mk ((by rw [hg]; exact (below_size (by repeat (first | (with_reducible first | exact HB.out | apply below_alloc | apply pw_below_drewN | apply below_drew1) | exact HB.out))) : w.heap.size ≤ gb239)); clear HO_5; clear HO_6; clear HO_7; clear HB; have HO_5 := n0_; have HO_6 := n1_; have HO_7 := n2_; have HB := n3_; have BK239 := n4_; have GW239 := n5_; have GE239 := n6_; clear n0_ n1_ n2_ n3_ n4_ n5_ n6_; clear hb hbox hg; have hcz50_0 : w49.cell? ⟨gb239, 0, none⟩ = some (.int .i64 0) := (blk_cell BK239.out 0).trans rfl; have hcz50_1 : w49.cell? ⟨gb239, 1, none⟩ = some (.int .i64 0) := (blk_cell BK239.out 1).trans rfl; have hcz50_2 : w49.cell? ⟨gb239, 2, none⟩ = some (.int .i64 0) := (blk_cell BK239.out 2).trans rfl; have hfz50_0 := blk_frozen BK239.out 0; have hfz50_1 := blk_frozen BK239.out 1; have hfz50_2 := blk_frozen BK239.out 2; have p240 : 0 ≤ (x9_3 : Int) := of_decide_eq_true (by first | (with_reducible assumption) | assumption); have q240 : x9_3 < (t233.length : Int) := of_decide_eq_true (by first | (with_reducible assumption) | assumption); obtain ⟨ad240, e240, hx240_0, hx240_1, hx240_2⟩ := at_T31 (Kd.R_reads' HO_7.out).2.2 x9_3 p240 q240; cases e240; have hn240_0 : ad240.block ≠ gb239 := (by first | exact Kd.own_blk (Kd.R_ne HO_7.out BK239.out (by decide)) | exact (HO_7.out.1 _ rfl).2); have hn240_1 : ad240.block ≠ gb239 := (by first | exact Kd.own_blk (Kd.R_ne HO_7.out BK239.out (by decide)) | exact (HO_7.out.1 _ rfl).2); have hn240_2 : ad240.block ≠ gb239 := (by first | exact Kd.own_blk (Kd.R_ne HO_7.out BK239.out (by decide)) | exact (HO_7.out.1 _ rfl).2); replace hx240_0 := (cell_far (p := ⟨gb239, 0, none⟩) (by first | (rw [add_block]; exact hn240_0) | (show (Addr.add _ _).block ≠ _; rw [add_block]; exact hn240_0) | exact hn240_0) (.int .i64 ((rd_T31 t230 (ji37)).f0))).trans hx240_0; replace hx240_1 := (cell_far (p := ⟨gb239, 0, none⟩) (by first | (rw [add_block]; exact hn240_0) | (show (Addr.add _ _).block ≠ _; rw [add_block]; exact hn240_0) | exact hn240_0) (.int .i64 ((rd_T31 t230 (ji37)).f0))).trans hx240_1; replace hx240_2 := (cell_far (p := ⟨gb239, 0, none⟩) (by first | (rw [add_block]; exact hn240_0) | (show (Addr.add _ _).block ≠ _; rw [add_block]; exact hn240_0) | exact hn240_0) (.int .i64 ((rd_T31 t230 (ji37)).f0))).trans hx240_2; replace hx240_0 := (cell_far (p := ⟨gb239, 1, none⟩) (by first | (rw [add_block]; exact hn240_1) | (show (Addr.add _ _).block ≠ _; rw [add_block]; exact hn240_1) | exact hn240_1) (.int .i64 ((rd_T31 t230 (ji37)).f1))).trans hx240_0; replace hx240_1 := (cell_far (p := ⟨gb239, 1, none⟩) (by first | (rw [add_block]; exact hn240_1) | (show (Addr.add _ _).block ≠ _; rw [add_block]; exact hn240_1) | exact hn240_1) (.int .i64 ((rd_T31 t230 (ji37)).f1))).trans hx240_1; replace hx240_2 := (cell_far (p := ⟨gb239, 1, none⟩) (by first | (rw [add_block]; exact hn240_1) | (show (Addr.add _ _).block ≠ _; rw [add_block]; exact hn240_1) | exact hn240_1) (.int .i64 ((rd_T31 t230 (ji37)).f1))).trans hx240_2; replace hx240_0 := (cell_far (p := ⟨gb239, 2, none⟩) (by first | (rw [add_block]; exact hn240_2) | (show (Addr.add _ _).block ≠ _; rw [add_block]; exact hn240_2) | exact hn240_2) (.int .i64 ((rd_T31 t230 (ji37)).f2))).trans hx240_0; replace hx240_1 := (cell_far (p := ⟨gb239, 2, none⟩) (by first | (rw [add_block]; exact hn240_2) | (show (Addr.add _ _).block ≠ _; rw [add_block]; exact hn240_2) | exact hn240_2) (.int .i64 ((rd_T31 t230 (ji37)).f2))).trans hx240_1; replace hx240_2 := (cell_far (p := ⟨gb239, 2, none⟩) (by first | (rw [add_block]; exact hn240_2) | (show (Addr.add _ _).block ≠ _; rw [add_block]; exact hn240_2) | exact hn240_2) (.int .i64 ((rd_T31 t230 (ji37)).f2))).trans hx240_2; (try have hy240_0 := fun (n_ : Nat) => (show (((((w49.drewN n_).setCell ⟨gb239, 0, none⟩ (.int .i64 ((rd_T31 t230 (ji37)).f0))).setCell ⟨gb239, 1, none⟩ (.int .i64 ((rd_T31 t230 (ji37)).f1))).setCell ⟨gb239, 2, none⟩ (.int .i64 ((rd_T31 t230 (ji37)).f2)))).cell? _ = some _ from hx240_0)); (try have hy240_1 := fun (n_ : Nat) => (show (((((w49.drewN n_).setCell ⟨gb239, 0, none⟩ (.int .i64 ((rd_T31 t230 (ji37)).f0))).setCell ⟨gb239, 1, none⟩ (.int .i64 ((rd_T31 t230 (ji37)).f1))).setCell ⟨gb239, 2, none⟩ (.int .i64 ((rd_T31 t230 (ji37)).f2)))).cell? _ = some _ from hx240_1)); (try have hy240_2 := fun (n_ : Nat) => (show (((((w49.drewN n_).setCell ⟨gb239, 0, none⟩ (.int .i64 ((rd_T31 t230 (ji37)).f0))).setCell ⟨gb239, 1, none⟩ (.int .i64 ((rd_T31 t230 (ji37)).f1))).setCell ⟨gb239, 2, none⟩ (.int .i64 ((rd_T31 t230 (ji37)).f2)))).cell? _ = some _ from hx240_2)); clear hn240_0; clear hn240_1; clear hn240_2; replace p240 := eq_true p240; replace q240 := eq_true q240))
                                          repeat (go_quiet (first | ((with_reducible refine gate_dst (N := 10) rfl ?_); (try (refine gate_guard (by rfl) ?_; dsimp only)); refine box_event ?hg (N := 10) ?hd (cs := #[.int .i64 0, .int .i64 0, .int .i64 0]) (t := 31) ?hr ?_; (case hd => rfl); (case hg => rfl); (case hr => first | (go_simp; done) | (go_simp; rfl)); intro gb239 hg w49 hbox hb; have n0_ := Aside0.mk (Kd.R_below (Kd.R_elderB (by (with_reducible repeat (first | apply Kd.R_alloc | apply Kd.R_drewN | apply Kd.R_drew)); exact HO_5.out) gb239 (Nat.le_of_eq hg.symm)) hb); have n1_ := Aside0.mk (Kd.R_below (Kd.R_elderB (by (with_reducible repeat (first | apply Kd.R_alloc | apply Kd.R_drewN | apply Kd.R_drew)); exact HO_6.out) gb239 (Nat.le_of_eq hg.symm)) hb); have n2_ := Aside0.mk (Kd.R_below (Kd.R_elderB (by (with_reducible repeat (first | apply Kd.R_alloc | apply Kd.R_drewN | apply Kd.R_drew)); exact HO_7.out) gb239 (Nat.le_of_eq hg.symm)) hb); have n3_ := Aside0.mk (below_step (by repeat (first | (with_reducible first | exact HB.out | apply below_alloc | apply pw_below_drewN | apply below_drew1) | exact HB.out)) hb); have n4_ := Aside0.mk (hbox); have n5_ := Aside0.mk ((by rw [hg]; exact (below_size (by repeat (first | (with_reducible first | exact HB.out | apply below_alloc | apply pw_below_drewN | apply below_drew1) | exact HB.out))) : w.heap.size ≤ gb239)); have n6_ := Aside0.mk ((by rw [hg]; exact (below_size (by repeat (first | (with_reducible first | exact HB.out | apply below_alloc | apply pw_below_drewN | apply below_drew1) | exact HB.out))) : w.heap.size ≤ gb239)); clear HO_5; clear HO_6; clear HO_7; clear HB; have HO_5 := n0_; have HO_6 := n1_; have HO_7 := n2_; have HB := n3_; have BK239 := n4_; have GW239 := n5_; have GE239 := n6_; clear n0_ n1_ n2_ n3_ n4_ n5_ n6_; clear hb hbox hg; have hcz50_0 : w49.cell? ⟨gb239, 0, none⟩ = some (.int .i64 0) := (blk_cell BK239.out 0).trans rfl; have hcz50_1 : w49.cell? ⟨gb239, 1, none⟩ = some (.int .i64 0) := (blk_cell BK239.out 1).trans rfl; have hcz50_2 : w49.cell? ⟨gb239, 2, none⟩ = some (.int .i64 0) := (blk_cell BK239.out 2).trans rfl; have hfz50_0 := blk_frozen BK239.out 0; have hfz50_1 := blk_frozen BK239.out 1; have hfz50_2 := blk_frozen BK239.out 2; have p240 : 0 ≤ (x9_3 : Int) := of_decide_eq_true (by first | (with_reducible assumption) | assumption); have q240 : x9_3 < (t233.length : Int) := of_decide_eq_true (by first | (with_reducible assumption) | assumption); obtain ⟨ad240, e240, hx240_0, hx240_1, hx240_2⟩ := at_T31 (Kd.R_reads' HO_7.out).2.2 x9_3 p240 q240; cases e240; have hn240_0 : ad240.block ≠ gb239 := (by first | exact Kd.own_blk (Kd.R_ne HO_7.out BK239.out (by decide)) | exact (HO_7.out.1 _ rfl).2); have hn240_1 : ad240.block ≠ gb239 := (by first | exact Kd.own_blk (Kd.R_ne HO_7.out BK239.out (by decide)) | exact (HO_7.out.1 _ rfl).2); have hn240_2 : ad240.block ≠ gb239 := (by first | exact Kd.own_blk (Kd.R_ne HO_7.out BK239.out (by decide)) | exact (HO_7.out.1 _ rfl).2); replace hx240_0 := (cell_far (p := ⟨gb239, 0, none⟩) (by first | (rw [add_block]; exact hn240_0) | (show (Addr.add _ _).block ≠ _; rw [add_block]; exact hn240_0) | exact hn240_0) (.int .i64 ((rd_T31 t230 (ji37)).f0))).trans hx240_0; replace hx240_1 := (cell_far (p := ⟨gb239, 0, none⟩) (by first | (rw [add_block]; exact hn240_0) | (show (Addr.add _ _).block ≠ _; rw [add_block]; exact hn240_0) | exact hn240_0) (.int .i64 ((rd_T31 t230 (ji37)).f0))).trans hx240_1; replace hx240_2 := (cell_far (p := ⟨gb239, 0, none⟩) (by first | (rw [add_block]; exact hn240_0) | (show (Addr.add _ _).block ≠ _; rw [add_block]; exact hn240_0) | exact hn240_0) (.int .i64 ((rd_T31 t230 (ji37)).f0))).trans hx240_2; replace hx240_0 := (cell_far (p := ⟨gb239, 1, none⟩) (by first | (rw [add_block]; exact hn240_1) | (show (Addr.add _ _).block ≠ _; rw [add_block]; exact hn240_1) | exact hn240_1) (.int .i64 ((rd_T31 t230 (ji37)).f1))).trans hx240_0; replace hx240_1 := (cell_far (p := ⟨gb239, 1, none⟩) (by first | (rw [add_block]; exact hn240_1) | (show (Addr.add _ _).block ≠ _; rw [add_block]; exact hn240_1) | exact hn240_1) (.int .i64 ((rd_T31 t230 (ji37)).f1))).trans hx240_1; replace hx240_2 := (cell_far (p := ⟨gb239, 1, none⟩) (by first | (rw [add_block]; exact hn240_1) | (show (Addr.add _ _).block ≠ _; rw [add_block]; exact hn240_1) | exact hn240_1) (.int .i64 ((rd_T31 t230 (ji37)).f1))).trans hx240_2; replace hx240_0 := (cell_far (p := ⟨gb239, 2, none⟩) (by first | (rw [add_block]; exact hn240_2) | (show (Addr.add _ _).block ≠ _; rw [add_block]; exact hn240_2) | exact hn240_2) (.int .i64 ((rd_T31 t230 (ji37)).f2))).trans hx240_0; replace hx240_1 := (cell_far (p := ⟨gb239, 2, none⟩) (by first | (rw [add_block]; exact hn240_2) | (show (Addr.add _ _).block ≠ _; rw [add_block]; exact hn240_2) | exact hn240_2) (.int .i64 ((rd_T31 t230 (ji37)).f2))).trans hx240_1; replace hx240_2 := (cell_far (p := ⟨gb239, 2, none⟩) (by first | (rw [add_block]; exact hn240_2) | (show (Addr.add _ _).block ≠ _; rw [add_block]; exact hn240_2) | exact hn240_2) (.int .i64 ((rd_T31 t230 (ji37)).f2))).trans hx240_2; (try have hy240_0 := fun (n_ : Nat) => (show (((((w49.drewN n_).setCell ⟨gb239, 0, none⟩ (.int .i64 ((rd_T31 t230 (ji37)).f0))).setCell ⟨gb239, 1, none⟩ (.int .i64 ((rd_T31 t230 (ji37)).f1))).setCell ⟨gb239, 2, none⟩ (.int .i64 ((rd_T31 t230 (ji37)).f2)))).cell? _ = some _ from hx240_0)); (try have hy240_1 := fun (n_ : Nat) => (show (((((w49.drewN n_).setCell ⟨gb239, 0, none⟩ (.int .i64 ((rd_T31 t230 (ji37)).f0))).setCell ⟨gb239, 1, none⟩ (.int .i64 ((rd_T31 t230 (ji37)).f1))).setCell ⟨gb239, 2, none⟩ (.int .i64 ((rd_T31 t230 (ji37)).f2)))).cell? _ = some _ from hx240_1)); (try have hy240_2 := fun (n_ : Nat) => (show (((((w49.drewN n_).setCell ⟨gb239, 0, none⟩ (.int .i64 ((rd_T31 t230 (ji37)).f0))).setCell ⟨gb239, 1, none⟩ (.int .i64 ((rd_T31 t230 (ji37)).f1))).setCell ⟨gb239, 2, none⟩ (.int .i64 ((rd_T31 t230 (ji37)).f2)))).cell? _ = some _ from hx240_2)); clear hn240_0; clear hn240_1; clear hn240_2; replace p240 := eq_true p240; replace q240 := eq_true q240)); try go_wp2_with (first | ((with_reducible refine gate_dst (N := 10) rfl ?_); (try (refine gate_guard (by rfl) ?_; dsimp only)); refine box_event ?hg (N := 10) ?hd (cs := #[.int .i64 0, .int .i64 0, .int .i64 0]) (t := 31) ?hr ?_; (case hd => rfl); (case hg => rfl); (case hr => first | (go_simp; done) | (go_simp; rfl)); intro gb239 hg w49 hbox hb; have n0_ := Aside0.mk (Kd.R_below (Kd.R_elderB (by (with_reducible repeat (first | apply Kd.R_alloc | apply Kd.R_drewN | apply Kd.R_drew)); exact HO_5.out) gb239 (Nat.le_of_eq hg.symm)) hb); have n1_ := Aside0.mk (Kd.R_below (Kd.R_elderB (by (with_reducible repeat (first | apply Kd.R_alloc | apply Kd.R_drewN | apply Kd.R_drew)); exact HO_6.out) gb239 (Nat.le_of_eq hg.symm)) hb); have n2_ := Aside0.mk (Kd.R_below (Kd.R_elderB (by (with_reducible repeat (first | apply Kd.R_alloc | apply Kd.R_drewN | apply Kd.R_drew)); exact HO_7.out) gb239 (Nat.le_of_eq hg.symm)) hb); have n3_ := Aside0.mk (below_step (by repeat (first | (with_reducible first | exact HB.out | apply below_alloc | apply pw_below_drewN | apply below_drew1) | exact HB.out)) hb); have n4_ := Aside0.mk (hbox); have n5_ := Aside0.mk ((by rw [hg]; exact (below_size (by repeat (first | (with_reducible first | exact HB.out | apply below_alloc | apply pw_below_drewN | apply below_drew1) | exact HB.out))) : w.heap.size ≤ gb239)); have n6_ := Aside0.mk ((by rw [hg]; exact (below_size (by repeat (first | (with_reducible first | exact HB.out | apply below_alloc | apply pw_below_drewN | apply below_drew1) | exact HB.out))) : w.heap.size ≤ gb239)); clear HO_5; clear HO_6; clear HO_7; clear HB; have HO_5 := n0_; have HO_6 := n1_; have HO_7 := n2_; have HB := n3_; have BK239 := n4_; have GW239 := n5_; have GE239 := n6_; clear n0_ n1_ n2_ n3_ n4_ n5_ n6_; clear hb hbox hg; have hcz50_0 : w49.cell? ⟨gb239, 0, none⟩ = some (.int .i64 0) := (blk_cell BK239.out 0).trans rfl; have hcz50_1 : w49.cell? ⟨gb239, 1, none⟩ = some (.int .i64 0) := (blk_cell BK239.out 1).trans rfl; have hcz50_2 : w49.cell? ⟨gb239, 2, none⟩ = some (.int .i64 0) := (blk_cell BK239.out 2).trans rfl; have hfz50_0 := blk_frozen BK239.out 0; have hfz50_1 := blk_frozen BK239.out 1; have hfz50_2 := blk_frozen BK239.out 2; have p240 : 0 ≤ (x9_3 : Int) := of_decide_eq_true (by first | (with_reducible assumption) | assumption); have q240 : x9_3 < (t233.length : Int) := of_decide_eq_true (by first | (with_reducible assumption) | assumption); obtain ⟨ad240, e240, hx240_0, hx240_1, hx240_2⟩ := at_T31 (Kd.R_reads' HO_7.out).2.2 x9_3 p240 q240; cases e240; have hn240_0 : ad240.block ≠ gb239 := (by first | exact Kd.own_blk (Kd.R_ne HO_7.out BK239.out (by decide)) | exact (HO_7.out.1 _ rfl).2); have hn240_1 : ad240.block ≠ gb239 := (by first | exact Kd.own_blk (Kd.R_ne HO_7.out BK239.out (by decide)) | exact (HO_7.out.1 _ rfl).2); have hn240_2 : ad240.block ≠ gb239 := (by first | exact Kd.own_blk (Kd.R_ne HO_7.out BK239.out (by decide)) | exact (HO_7.out.1 _ rfl).2); replace hx240_0 := (cell_far (p := ⟨gb239, 0, none⟩) (by first | (rw [add_block]; exact hn240_0) | (show (Addr.add _ _).block ≠ _; rw [add_block]; exact hn240_0) | exact hn240_0) (.int .i64 ((rd_T31 t230 (ji37)).f0))).trans hx240_0; replace hx240_1 := (cell_far (p := ⟨gb239, 0, none⟩) (by first | (rw [add_block]; exact hn240_0) | (show (Addr.add _ _).block ≠ _; rw [add_block]; exact hn240_0) | exact hn240_0) (.int .i64 ((rd_T31 t230 (ji37)).f0))).trans hx240_1; replace hx240_2 := (cell_far (p := ⟨gb239, 0, none⟩) (by first | (rw [add_block]; exact hn240_0) | (show (Addr.add _ _).block ≠ _; rw [add_block]; exact hn240_0) | exact hn240_0) (.int .i64 ((rd_T31 t230 (ji37)).f0))).trans hx240_2; replace hx240_0 := (cell_far (p := ⟨gb239, 1, none⟩) (by first | (rw [add_block]; exact hn240_1) | (show (Addr.add _ _).block ≠ _; rw [add_block]; exact hn240_1) | exact hn240_1) (.int .i64 ((rd_T31 t230 (ji37)).f1))).trans hx240_0; replace hx240_1 := (cell_far (p := ⟨gb239, 1, none⟩) (by first | (rw [add_block]; exact hn240_1) | (show (Addr.add _ _).block ≠ _; rw [add_block]; exact hn240_1) | exact hn240_1) (.int .i64 ((rd_T31 t230 (ji37)).f1))).trans hx240_1; replace hx240_2 := (cell_far (p := ⟨gb239, 1, none⟩) (by first | (rw [add_block]; exact hn240_1) | (show (Addr.add _ _).block ≠ _; rw [add_block]; exact hn240_1) | exact hn240_1) (.int .i64 ((rd_T31 t230 (ji37)).f1))).trans hx240_2; replace hx240_0 := (cell_far (p := ⟨gb239, 2, none⟩) (by first | (rw [add_block]; exact hn240_2) | (show (Addr.add _ _).block ≠ _; rw [add_block]; exact hn240_2) | exact hn240_2) (.int .i64 ((rd_T31 t230 (ji37)).f2))).trans hx240_0; replace hx240_1 := (cell_far (p := ⟨gb239, 2, none⟩) (by first | (rw [add_block]; exact hn240_2) | (show (Addr.add _ _).block ≠ _; rw [add_block]; exact hn240_2) | exact hn240_2) (.int .i64 ((rd_T31 t230 (ji37)).f2))).trans hx240_1; replace hx240_2 := (cell_far (p := ⟨gb239, 2, none⟩) (by first | (rw [add_block]; exact hn240_2) | (show (Addr.add _ _).block ≠ _; rw [add_block]; exact hn240_2) | exact hn240_2) (.int .i64 ((rd_T31 t230 (ji37)).f2))).trans hx240_2; (try have hy240_0 := fun (n_ : Nat) => (show (((((w49.drewN n_).setCell ⟨gb239, 0, none⟩ (.int .i64 ((rd_T31 t230 (ji37)).f0))).setCell ⟨gb239, 1, none⟩ (.int .i64 ((rd_T31 t230 (ji37)).f1))).setCell ⟨gb239, 2, none⟩ (.int .i64 ((rd_T31 t230 (ji37)).f2)))).cell? _ = some _ from hx240_0)); (try have hy240_1 := fun (n_ : Nat) => (show (((((w49.drewN n_).setCell ⟨gb239, 0, none⟩ (.int .i64 ((rd_T31 t230 (ji37)).f0))).setCell ⟨gb239, 1, none⟩ (.int .i64 ((rd_T31 t230 (ji37)).f1))).setCell ⟨gb239, 2, none⟩ (.int .i64 ((rd_T31 t230 (ji37)).f2)))).cell? _ = some _ from hx240_1)); (try have hy240_2 := fun (n_ : Nat) => (show (((((w49.drewN n_).setCell ⟨gb239, 0, none⟩ (.int .i64 ((rd_T31 t230 (ji37)).f0))).setCell ⟨gb239, 1, none⟩ (.int .i64 ((rd_T31 t230 (ji37)).f1))).setCell ⟨gb239, 2, none⟩ (.int .i64 ((rd_T31 t230 (ji37)).f2)))).cell? _ = some _ from hx240_2)); clear hn240_0; clear hn240_1; clear hn240_2; replace p240 := eq_true p240; replace q240 := eq_true q240)))
                                          go_roundg kj28
                                          case measure => have := HJ2.out; have := HJ15.out; have := HK3.out; have := HJ28.out; omega
                                          case rel => exact ⟨(wrap64 (x9_3 + 1)), (by first | rfl | (simp; done) | (simp [*]; done)), H', ⟨by have := HJ2.out; have := HJ15.out; have := HK3.out; have := HJ28.out; omega⟩, ⟨by (with_reducible repeat (first | apply Kd.R_alloc | apply Kd.R_drewN | apply Kd.R_drew)); exact Kd.R_mono (Kd.R_far (p := ⟨gb239, 2, none⟩) (Kd.R_far (p := ⟨gb239, 1, none⟩) (Kd.R_far (p := ⟨gb239, 0, none⟩) (Kd.R_mono HO_5.out (fun k_ hk => (⟨hk, hk.2⟩ : _ ∧ k_ ≠ gb239))) (fun _ hk => hk.2) (.int .i64 ((rd_T31 t230 (ji37)).f0))) (fun _ hk => hk.2) (.int .i64 ((rd_T31 t230 (ji37)).f1))) (fun _ hk => hk.2) (.int .i64 ((rd_T31 t230 (ji37)).f2))) (fun _ hk => ⟨hk.1.1.1, hk.1.1.2⟩)⟩, ⟨by (with_reducible repeat (first | apply Kd.R_alloc | apply Kd.R_drewN | apply Kd.R_drew)); exact Kd.R_mono (Kd.R_far (p := ⟨gb239, 2, none⟩) (Kd.R_far (p := ⟨gb239, 1, none⟩) (Kd.R_far (p := ⟨gb239, 0, none⟩) (Kd.R_mono HO_6.out (fun k_ hk => (⟨hk, hk.2⟩ : _ ∧ k_ ≠ gb239))) (fun _ hk => hk.2) (.int .i64 ((rd_T31 t230 (ji37)).f0))) (fun _ hk => hk.2) (.int .i64 ((rd_T31 t230 (ji37)).f1))) (fun _ hk => hk.2) (.int .i64 ((rd_T31 t230 (ji37)).f2))) (fun _ hk => ⟨hk.1.1.1, hk.1.1.2⟩)⟩, ⟨by (with_reducible repeat (first | apply Kd.R_alloc | apply Kd.R_drewN | apply Kd.R_drew)); exact Kd.R_mono (Kd.R_far (p := ⟨gb239, 2, none⟩) (Kd.R_far (p := ⟨gb239, 1, none⟩) (Kd.R_far (p := ⟨gb239, 0, none⟩) (Kd.R_mono HO_7.out (fun k_ hk => (⟨hk, hk.2⟩ : _ ∧ k_ ≠ gb239))) (fun _ hk => hk.2) (.int .i64 ((rd_T31 t230 (ji37)).f0))) (fun _ hk => hk.2) (.int .i64 ((rd_T31 t230 (ji37)).f1))) (fun _ hk => hk.2) (.int .i64 ((rd_T31 t230 (ji37)).f2))) (fun _ hk => ⟨hk.1.1.1, hk.1.1.2⟩)⟩, ⟨by repeat (first | (with_reducible first | exact HB.out | apply below_alloc | apply pw_below_drewN | apply below_drew1 | refine below_set ?_ GE239.out) | exact HB.out)⟩⟩
                                      · rw [if_neg c41] at H
                                        exact absurd H (by simp)
                                    · rw [if_neg c40] at H
                                      exact absurd H (by simp)
                                  · rw [if_neg c39] at H
                                    exact absurd H (by simp)
                                · rw [if_neg c38] at H
                                  exact absurd H (by simp)
                              · rw [if_neg c36] at H
                                have c36b0 : decide ((t227.length : Int) ≤ x9_3) = false := decide_eq_false c36
                                clear c36
                                have H' := Aside0.mk H
                                clear H
                                obtain ⟨Ao51, co51, eo51⟩ := Kd.R_slice HO_5.out
                                subst eo51
                                go_wp2
                                repeat (go_quiet (fail); try go_wp2)
                                go_roundg kj28
                                case measure => have := HJ2.out; have := HJ15.out; have := HK3.out; have := HJ28.out; omega
                                case rel => exact ⟨(wrap64 (x9_3 + 1)), (by first | rfl | (simp; done) | (simp [*]; done)), H', ⟨by have := HJ2.out; have := HJ15.out; have := HK3.out; have := HJ28.out; omega⟩, ⟨by (with_reducible repeat (first | apply Kd.R_alloc | apply Kd.R_drewN | apply Kd.R_drew)); exact HO_5.out⟩, ⟨by (with_reducible repeat (first | apply Kd.R_alloc | apply Kd.R_drewN | apply Kd.R_drew)); exact HO_6.out⟩, ⟨by (with_reducible repeat (first | apply Kd.R_alloc | apply Kd.R_drewN | apply Kd.R_drew)); exact HO_7.out⟩, ⟨by repeat (first | (with_reducible first | exact HB.out | apply below_alloc | apply pw_below_drewN | apply below_drew1) | exact HB.out)⟩⟩
                      · rw [if_neg c28] at H
                        have c28b0 : decide (x9_3 < (t233.length : Int)) = false := decide_eq_false c28
                        clear c28
                        obtain rfl := Option.some.inj H
                        obtain ⟨Ao52, co52, eo52⟩ := Kd.R_slice HO_7.out
                        subst eo52
                        go_wp2
                        repeat (go_quiet (fail); try go_wp2)
                        go_ret
                        exact ⟨by first | rfl | (simp [errW_none, errW_some] <;> rfl) | (simp [*, errW_none, errW_some] <;> rfl), by repeat (first | (with_reducible first | exact HB.out | apply below_alloc | apply pw_below_drewN | apply below_drew1) | exact HB.out)⟩
          · rw [if_neg c14] at H
            exact absurd H (by simp)
        · rw [if_neg c11] at H
          exact absurd H (by simp)

/-- THE ONE PURE STATEMENT of entrepotlaw01_CursorJoin: yours. -/
def entrepotlaw01_CursorJoin.Pure : Prop := ∀ (a0 : ByteArray) (a1 : ByteArray), a0.size ≤ 140737488351232 → a1.size ≤ 140737488351232 → ∃ k, entrepotlaw01_CursorJoin.f k a0 a1 = some true
theorem entrepotlaw01_CursorJoin.walk (P : entrepotlaw01_CursorJoin.Pure) (a0 : ByteArray) (a1 : ByteArray) (w : World) (w0 : a0.size ≤ 140737488351232) (w1 : a1.size ≤ 140737488351232) :
    Calls Tryd.prog 7 #[.string a0, .string a1] w fun e w' => e = .returned (.bool true) ∧ Below w.heap.size w w' := by
  obtain ⟨k, h⟩ := P a0 a1 w0 w1
  refine (entrepotlaw01_CursorJoin.calls k a0 a1 true w h).mono ?_
  rintro e w' ⟨rfl, hd⟩
  exact ⟨rfl, hd⟩

end Go.Proofs.YtfdeffjdhpdfeaaDoor.PAll
