-- Written by a program out of the translation, for several roots at once (set All). Not trusted: Lean checks it.
import Derived.Test.YtfdeffjdhpdfeaaDoorPAllx0
import Derived.Test.YtfdeffjdhpdfeaaDoorPAllx3
import Derived.Test.YtfdeffjdhpdfeaaDoorGivenD
namespace Go.Proofs.YtfdeffjdhpdfeaaDoor.PAll
open Go.RowKit Go.Proofs.YtfdeffjdhpdfeaaDoorW.PrintWords Go.Proofs.YtfdeffjdhpdfeaaDoorW.PrintLast Go.Proofs.YtfdeffjdhpdfeaaDoorW.PrintMore
attribute [local go_sem] max2_int min2_int max_two min_two max_three min_three max_four min_four   -- for this text's walks alone
set_option linter.unusedVariables false
set_option linter.unusedSimpArgs false

/-! ### entrepotlaw01_CursorCover: function 6 -/
mutual
def entrepotlaw01_CursorCover.j0 : Nat → ByteArray → Bool → Option (Bool)
  | 0, _, _ => none
  | k + 1, x0, x16 => if x16 = true then ((entrepotlaw01_shown.f).bind fun t206 => (some t206)) else ((cursor_Lines.f x0).bind fun t207 => (entrepotlaw01_CursorCover.l0 k x0 t207 0 0))
def entrepotlaw01_CursorCover.l0 : Nat → ByteArray → List (S31) → Int → Int → Option (Bool)
  | 0, _, _, _, _ => none
  | k + 1, x0, x3, x4, x5 => if x5 < (x3.length : Int) then (if 0 ≤ x5 then (if ((rd_T31 x3 x5).f0) = x4 then (if ((rd_T31 x3 x5).f1) < x4 then (entrepotlaw01_CursorCover.j2 k x0 x3 x5 true) else (if ((rd_T31 x3 x5).f2) < ((rd_T31 x3 x5).f1) then (entrepotlaw01_CursorCover.j2 k x0 x3 x5 true) else (if ((rd_T31 x3 x5).f2) ≤ x4 then (entrepotlaw01_CursorCover.j2 k x0 x3 x5 true) else (if ((rd_T31 x3 x5).f2) > (x0.size : Int) then (entrepotlaw01_CursorCover.j2 k x0 x3 x5 true) else (entrepotlaw01_CursorCover.j2 k x0 x3 x5 (decide ((wrap64 (((rd_T31 x3 x5).f2) - ((rd_T31 x3 x5).f1))) > 2))))))) else (entrepotlaw01_CursorCover.j2 k x0 x3 x5 true)) else (none)) else (some (x4 == (x0.size : Int)))
def entrepotlaw01_CursorCover.j2 : Nat → ByteArray → List (S31) → Int → Bool → Option (Bool)
  | 0, _, _, _, _ => none
  | k + 1, x0, x3, x5, x87 => if x87 = true then (some false) else (if 0 ≤ x5 then (if x5 < (x3.length : Int) then ((cursor_Where.f x0 ((rd_T31 x3 x5).f0)).bind fun bt219 => (if bt219.1 = (wrap64 (x5 + 1)) then (if bt219.2.1 = 1 then (entrepotlaw01_CursorCover.j3 k x0 x3 x5 (bt219.2.2 != 0)) else (entrepotlaw01_CursorCover.j3 k x0 x3 x5 true)) else (entrepotlaw01_CursorCover.j3 k x0 x3 x5 true))) else (none)) else (none))
def entrepotlaw01_CursorCover.j3 : Nat → ByteArray → List (S31) → Int → Bool → Option (Bool)
  | 0, _, _, _, _ => none
  | k + 1, x0, x3, x5, x110 => if x110 = true then (some false) else (if 0 ≤ x5 then (if x5 < (x3.length : Int) then (entrepotlaw01_CursorCover.l1 k x0 x3 x5 ((rd_T31 x3 x5).f0)) else (none)) else (none))
def entrepotlaw01_CursorCover.l1 : Nat → ByteArray → List (S31) → Int → Int → Option (Bool)
  | 0, _, _, _, _ => none
  | k + 1, x0, x3, x5, x9 => if 0 ≤ x5 then (if x5 < (x3.length : Int) then (if x9 < ((rd_T31 x3 x5).f1) then (if 0 ≤ x9 then (if x9 < (x0.size : Int) then (if (bt x0 x9) = 10 then (some false) else (entrepotlaw01_CursorCover.l1 k x0 x3 x5 (wrap64 (x9 + 1)))) else (none)) else (none)) else (entrepotlaw01_CursorCover.l0 k x0 x3 ((rd_T31 x3 x5).f2) (wrap64 (x5 + 1)))) else (none)) else (none)
end
def entrepotlaw01_CursorCover.f (k : Nat) (a0 : ByteArray) : Option (Bool) := if (a0.size : Int) > 2000 then (entrepotlaw01_CursorCover.j0 k a0 true) else ((entrepotlaw01_shown.f).bind fun t205 => (entrepotlaw01_CursorCover.j0 k a0 (!t205)))
theorem entrepotlaw01_CursorCover.mono_l : ∀ k, (∀ y0 y1, LeO (entrepotlaw01_CursorCover.j0 k y0 y1) (entrepotlaw01_CursorCover.j0 (k + 1) y0 y1)) ∧ (∀ y0 y1 y2 y3, LeO (entrepotlaw01_CursorCover.l0 k y0 y1 y2 y3) (entrepotlaw01_CursorCover.l0 (k + 1) y0 y1 y2 y3)) ∧ (∀ y0 y1 y2 y3, LeO (entrepotlaw01_CursorCover.j2 k y0 y1 y2 y3) (entrepotlaw01_CursorCover.j2 (k + 1) y0 y1 y2 y3)) ∧ (∀ y0 y1 y2 y3, LeO (entrepotlaw01_CursorCover.j3 k y0 y1 y2 y3) (entrepotlaw01_CursorCover.j3 (k + 1) y0 y1 y2 y3)) ∧ (∀ y0 y1 y2 y3, LeO (entrepotlaw01_CursorCover.l1 k y0 y1 y2 y3) (entrepotlaw01_CursorCover.l1 (k + 1) y0 y1 y2 y3))
  | 0 => ⟨fun _ _ r h => by simp [entrepotlaw01_CursorCover.j0] at h, fun _ _ _ _ r h => by simp [entrepotlaw01_CursorCover.l0] at h, fun _ _ _ _ r h => by simp [entrepotlaw01_CursorCover.j2] at h, fun _ _ _ _ r h => by simp [entrepotlaw01_CursorCover.j3] at h, fun _ _ _ _ r h => by simp [entrepotlaw01_CursorCover.l1] at h⟩
  | k + 1 => by
    obtain ⟨ih0, ih1, ih2, ih3, ih4⟩ := entrepotlaw01_CursorCover.mono_l k
    refine ⟨?_, ?_, ?_, ?_, ?_⟩
    · intro y0 y1
      unfold entrepotlaw01_CursorCover.j0
      repeat' first
      | (with_reducible exact ih0 _ _)
      | (with_reducible exact ih1 _ _ _ _)
      | (with_reducible exact ih2 _ _ _ _)
      | (with_reducible exact ih3 _ _ _ _)
      | (with_reducible exact ih4 _ _ _ _)
      | (with_reducible exact LeO.refl _)
      | (with_reducible exact LeO.none _)
      | (with_reducible refine LeO.ite ?_ ?_)
      | (with_reducible refine LeO.bind ?_ (fun _ => ?_))
      | exact ih0 _ _
      | exact ih1 _ _ _ _
      | exact ih2 _ _ _ _
      | exact ih3 _ _ _ _
      | exact ih4 _ _ _ _
      | exact LeO.none _
      | refine LeO.ite ?_ ?_
      | refine LeO.bind ?_ (fun _ => ?_)
    · intro y0 y1 y2 y3
      unfold entrepotlaw01_CursorCover.l0
      repeat' first
      | (with_reducible exact ih0 _ _)
      | (with_reducible exact ih1 _ _ _ _)
      | (with_reducible exact ih2 _ _ _ _)
      | (with_reducible exact ih3 _ _ _ _)
      | (with_reducible exact ih4 _ _ _ _)
      | (with_reducible exact LeO.refl _)
      | (with_reducible exact LeO.none _)
      | (with_reducible refine LeO.ite ?_ ?_)
      | (with_reducible refine LeO.bind ?_ (fun _ => ?_))
      | exact ih0 _ _
      | exact ih1 _ _ _ _
      | exact ih2 _ _ _ _
      | exact ih3 _ _ _ _
      | exact ih4 _ _ _ _
      | exact LeO.none _
      | refine LeO.ite ?_ ?_
      | refine LeO.bind ?_ (fun _ => ?_)
    · intro y0 y1 y2 y3
      unfold entrepotlaw01_CursorCover.j2
      repeat' first
      | (with_reducible exact ih0 _ _)
      | (with_reducible exact ih1 _ _ _ _)
      | (with_reducible exact ih2 _ _ _ _)
      | (with_reducible exact ih3 _ _ _ _)
      | (with_reducible exact ih4 _ _ _ _)
      | (with_reducible exact LeO.refl _)
      | (with_reducible exact LeO.none _)
      | (with_reducible refine LeO.ite ?_ ?_)
      | (with_reducible refine LeO.bind ?_ (fun _ => ?_))
      | exact ih0 _ _
      | exact ih1 _ _ _ _
      | exact ih2 _ _ _ _
      | exact ih3 _ _ _ _
      | exact ih4 _ _ _ _
      | exact LeO.none _
      | refine LeO.ite ?_ ?_
      | refine LeO.bind ?_ (fun _ => ?_)
    · intro y0 y1 y2 y3
      unfold entrepotlaw01_CursorCover.j3
      repeat' first
      | (with_reducible exact ih0 _ _)
      | (with_reducible exact ih1 _ _ _ _)
      | (with_reducible exact ih2 _ _ _ _)
      | (with_reducible exact ih3 _ _ _ _)
      | (with_reducible exact ih4 _ _ _ _)
      | (with_reducible exact LeO.refl _)
      | (with_reducible exact LeO.none _)
      | (with_reducible refine LeO.ite ?_ ?_)
      | (with_reducible refine LeO.bind ?_ (fun _ => ?_))
      | exact ih0 _ _
      | exact ih1 _ _ _ _
      | exact ih2 _ _ _ _
      | exact ih3 _ _ _ _
      | exact ih4 _ _ _ _
      | exact LeO.none _
      | refine LeO.ite ?_ ?_
      | refine LeO.bind ?_ (fun _ => ?_)
    · intro y0 y1 y2 y3
      unfold entrepotlaw01_CursorCover.l1
      repeat' first
      | (with_reducible exact ih0 _ _)
      | (with_reducible exact ih1 _ _ _ _)
      | (with_reducible exact ih2 _ _ _ _)
      | (with_reducible exact ih3 _ _ _ _)
      | (with_reducible exact ih4 _ _ _ _)
      | (with_reducible exact LeO.refl _)
      | (with_reducible exact LeO.none _)
      | (with_reducible refine LeO.ite ?_ ?_)
      | (with_reducible refine LeO.bind ?_ (fun _ => ?_))
      | exact ih0 _ _
      | exact ih1 _ _ _ _
      | exact ih2 _ _ _ _
      | exact ih3 _ _ _ _
      | exact ih4 _ _ _ _
      | exact LeO.none _
      | refine LeO.ite ?_ ?_
      | refine LeO.bind ?_ (fun _ => ?_)
theorem entrepotlaw01_CursorCover.mono : ∀ a0 k, LeO (entrepotlaw01_CursorCover.f k a0) (entrepotlaw01_CursorCover.f (k + 1) a0) := by
  intro a0 k
  obtain ⟨ih0, ih1, ih2, ih3, ih4⟩ := entrepotlaw01_CursorCover.mono_l k
  unfold entrepotlaw01_CursorCover.f
  repeat' first
      | (with_reducible exact ih0 _ _)
      | (with_reducible exact ih1 _ _ _ _)
      | (with_reducible exact ih2 _ _ _ _)
      | (with_reducible exact ih3 _ _ _ _)
      | (with_reducible exact ih4 _ _ _ _)
      | (with_reducible exact LeO.refl _)
      | (with_reducible exact LeO.none _)
      | (with_reducible refine LeO.ite ?_ ?_)
      | (with_reducible refine LeO.bind ?_ (fun _ => ?_))
      | exact ih0 _ _
      | exact ih1 _ _ _ _
      | exact ih2 _ _ _ _
      | exact ih3 _ _ _ _
      | exact ih4 _ _ _ _
      | exact LeO.none _
      | refine LeO.ite ?_ ?_
      | refine LeO.bind ?_ (fun _ => ?_)
set_option maxHeartbeats 8000000 in
set_option maxRecDepth 100000 in
theorem entrepotlaw01_CursorCover.calls (k : Nat) (a0 : ByteArray) (r : Bool) (w : World) (h : entrepotlaw01_CursorCover.f k a0 = some r) :
    Calls Tryd.prog 6 #[.string a0] w fun e w' => e = .returned (.bool r) ∧ Below w.heap.size w w' := by
  have HB := Aside0.mk (Below.refl w.heap.size w)
  have H : (if (a0.size : Int) > 2000 then (entrepotlaw01_CursorCover.j0 k a0 true) else ((entrepotlaw01_shown.f).bind fun t205 => (entrepotlaw01_CursorCover.j0 k a0 (!t205)))) = some r := h
  clear h
  have HC2 := Aside0.mk H
  clear H
  go_enter Tryd.func6, Tryd.ntmps6
  go_upto_region 1 with (fail)
  repeat (go_quiet (fail); go_upto_region 1 with (fail))
  go_cut [16] (fun v16 wc => ∃ (kq : Nat) (x16_1 : Bool), v16 = .bool x16_1 ∧ Aside0 (entrepotlaw01_CursorCover.j0 kq a0 x16_1 = some r) ∧ Aside0 (kq ≤ k) ∧ Aside0 (Below w.heap.size w wc))
  case first =>
    have H := HC2.out
    clear HC2
    by_cases c3 : (a0.size : Int) > 2000
    · rw [if_pos c3] at H
      have c3b0 : decide (2000 < (a0.size : Int)) = true := decide_eq_true c3
      have c3b1 : decide (2000 < a0.size) = true := decide_eq_true (by omega)
      clear c3
      (first | rw [c3b0] | (simp only [i64_w, i32_w]; rw [c3b0]) | skip)
      have H' := Aside0.mk H
      clear H
      go_wp2
      repeat (go_quiet (fail); try go_wp2)
      go_meet
      case rel => exact ⟨_, (true), (by first | rfl | (simp; done) | (simp [*]; done)), H', ⟨by first | omega | exact Nat.le_refl _⟩, ⟨by repeat (first | (with_reducible first | exact HB.out | apply below_alloc | apply pw_below_drewN | apply below_drew1) | exact HB.out)⟩⟩
    · rw [if_neg c3] at H
      have c3b0 : decide (2000 < (a0.size : Int)) = false := decide_eq_false c3
      have c3b1 : decide (2000 < a0.size) = false := decide_eq_false (by omega)
      clear c3
      (first | rw [c3b0] | (simp only [i64_w, i32_w]; rw [c3b0]) | skip)
      replace H := Option.bind_eq_some_iff.mp H
      obtain ⟨t205, A40, H⟩ := H
      replace H : (entrepotlaw01_CursorCover.j0 k a0 (!t205)) = some r := H
      have A4 := Aside0.mk A40
      clear A40
      have H' := Aside0.mk H
      clear H
      go_wp2_with (first | (go_at_call 9; (with_reducible refine (entrepotlaw01_shown.calls  t205 _ A4.out).mono ?_); rintro e w5 ⟨rfl, hb⟩; have n0_ := Aside0.mk (below_step (by repeat (first | (with_reducible first | exact HB.out | apply below_alloc | apply pw_below_drewN | apply below_drew1) | exact HB.out)) hb); clear HB; have HB := n0_; clear n0_; (try clear hb); (try clear hb2); (try clear hk); (try clear hi)))
      repeat (go_quiet (first | (go_at_call 9; (with_reducible refine (entrepotlaw01_shown.calls  t205 _ A4.out).mono ?_); rintro e w5 ⟨rfl, hb⟩; have n0_ := Aside0.mk (below_step (by repeat (first | (with_reducible first | exact HB.out | apply below_alloc | apply pw_below_drewN | apply below_drew1) | exact HB.out)) hb); clear HB; have HB := n0_; clear n0_; (try clear hb); (try clear hb2); (try clear hk); (try clear hi))); try go_wp2_with (first | (go_at_call 9; (with_reducible refine (entrepotlaw01_shown.calls  t205 _ A4.out).mono ?_); rintro e w5 ⟨rfl, hb⟩; have n0_ := Aside0.mk (below_step (by repeat (first | (with_reducible first | exact HB.out | apply below_alloc | apply pw_below_drewN | apply below_drew1) | exact HB.out)) hb); clear HB; have HB := n0_; clear n0_; (try clear hb); (try clear hb2); (try clear hk); (try clear hi))))
      go_meet
      case rel => exact ⟨_, (!t205), (by first | rfl | (simp; done) | (simp [*]; done)), H', ⟨by first | omega | exact Nat.le_refl _⟩, ⟨by repeat (first | (with_reducible first | exact HB.out | apply below_alloc | apply pw_below_drewN | apply below_drew1) | exact HB.out)⟩⟩
  case rest =>
    clear HC2
    try clear p2
    try clear c3
    try clear c3b0
    try clear c3b1
    obtain ⟨kq, x16_1, rfl, HA, HJ1, HB⟩ := hcut
    cases kq with
    | zero => exact absurd HA.out (by simp [entrepotlaw01_CursorCover.j0])
    | succ kj1 =>
      have H := HA.out
      clear HA
      simp only [entrepotlaw01_CursorCover.j0] at H
      by_cases c6 : x16_1 = true
      · subst c6
        have H1 : ((entrepotlaw01_shown.f).bind fun t206 => (some t206)) = some r := by rw [if_pos rfl] at H; exact H
        clear H
        have H := H1
        clear H1
        replace H := Option.bind_eq_some_iff.mp H
        obtain ⟨t206, A70, H⟩ := H
        replace H : (some t206) = some r := H
        have A7 := Aside0.mk A70
        clear A70
        obtain rfl := Option.some.inj H
        go_wp2_with (first | (go_at_call 9; (with_reducible refine (entrepotlaw01_shown.calls  t206 _ A7.out).mono ?_); rintro e w8 ⟨rfl, hb⟩; have n0_ := Aside0.mk (below_step (by repeat (first | (with_reducible first | exact HB.out | apply below_alloc | apply pw_below_drewN | apply below_drew1) | exact HB.out)) hb); clear HB; have HB := n0_; clear n0_; (try clear hb); (try clear hb2); (try clear hk); (try clear hi)))
        repeat (go_quiet (first | (go_at_call 9; (with_reducible refine (entrepotlaw01_shown.calls  t206 _ A7.out).mono ?_); rintro e w8 ⟨rfl, hb⟩; have n0_ := Aside0.mk (below_step (by repeat (first | (with_reducible first | exact HB.out | apply below_alloc | apply pw_below_drewN | apply below_drew1) | exact HB.out)) hb); clear HB; have HB := n0_; clear n0_; (try clear hb); (try clear hb2); (try clear hk); (try clear hi))); try go_wp2_with (first | (go_at_call 9; (with_reducible refine (entrepotlaw01_shown.calls  t206 _ A7.out).mono ?_); rintro e w8 ⟨rfl, hb⟩; have n0_ := Aside0.mk (below_step (by repeat (first | (with_reducible first | exact HB.out | apply below_alloc | apply pw_below_drewN | apply below_drew1) | exact HB.out)) hb); clear HB; have HB := n0_; clear n0_; (try clear hb); (try clear hb2); (try clear hk); (try clear hi))))
        go_ret
        exact ⟨by first | rfl | (simp [errW_none, errW_some] <;> rfl) | (simp [*, errW_none, errW_some] <;> rfl), by repeat (first | (with_reducible first | exact HB.out | apply below_alloc | apply pw_below_drewN | apply below_drew1) | exact HB.out)⟩
      · replace c6 := Bool.eq_false_iff.mpr c6
        subst c6
        have H1 : ((cursor_Lines.f a0).bind fun t207 => (entrepotlaw01_CursorCover.l0 kj1 a0 t207 0 0)) = some r := by rw [if_neg (show ¬ (false = true) by decide)] at H; exact H
        clear H
        have H := H1
        clear H1
        replace H := Option.bind_eq_some_iff.mp H
        obtain ⟨t207, A90, H⟩ := H
        replace H : (entrepotlaw01_CursorCover.l0 kj1 a0 t207 0 0) = some r := H
        have A9 := Aside0.mk A90
        clear A90
        have H' := Aside0.mk H
        clear H
        go_wp2_with (first | (go_at_call 10; (with_reducible refine (cursor_Lines.calls a0 t207 _ A9.out).mono ?_); rintro e w10 ⟨v208, rfl, ho0, hb⟩; have n0_ := Aside0.mk (Kd.R_lower ho0 (below_size (by repeat (first | (with_reducible first | exact HB.out | apply below_alloc | apply pw_below_drewN | apply below_drew1) | exact HB.out)))); have n1_ := Aside0.mk (below_step (by repeat (first | (with_reducible first | exact HB.out | apply below_alloc | apply pw_below_drewN | apply below_drew1) | exact HB.out)) hb); clear HB; have HO209 := n0_; have HB := n1_; clear n0_ n1_; (try clear hb); (try clear hb2); (try clear hk); (try clear hi); (try clear ho0)))
        repeat (go_quiet (first | (go_at_call 10; (with_reducible refine (cursor_Lines.calls a0 t207 _ A9.out).mono ?_); rintro e w10 ⟨v208, rfl, ho0, hb⟩; have n0_ := Aside0.mk (Kd.R_lower ho0 (below_size (by repeat (first | (with_reducible first | exact HB.out | apply below_alloc | apply pw_below_drewN | apply below_drew1) | exact HB.out)))); have n1_ := Aside0.mk (below_step (by repeat (first | (with_reducible first | exact HB.out | apply below_alloc | apply pw_below_drewN | apply below_drew1) | exact HB.out)) hb); clear HB; have HO209 := n0_; have HB := n1_; clear n0_ n1_; (try clear hb); (try clear hb2); (try clear hk); (try clear hi); (try clear ho0))); try go_wp2_with (first | (go_at_call 10; (with_reducible refine (cursor_Lines.calls a0 t207 _ A9.out).mono ?_); rintro e w10 ⟨v208, rfl, ho0, hb⟩; have n0_ := Aside0.mk (Kd.R_lower ho0 (below_size (by repeat (first | (with_reducible first | exact HB.out | apply below_alloc | apply pw_below_drewN | apply below_drew1) | exact HB.out)))); have n1_ := Aside0.mk (below_step (by repeat (first | (with_reducible first | exact HB.out | apply below_alloc | apply pw_below_drewN | apply below_drew1) | exact HB.out)) hb); clear HB; have HO209 := n0_; have HB := n1_; clear n0_ n1_; (try clear hb); (try clear hb2); (try clear hk); (try clear hi); (try clear ho0))))
        go_loopg [4, 5] kj1 (fun kq v4 v5 w' => ∃ (x4_2 : Int) (x5_2 : Int), v4 = .int .i64 x4_2 ∧ v5 = .int .i64 x5_2 ∧ Aside0 (entrepotlaw01_CursorCover.l0 kq a0 t207 x4_2 x5_2 = some r) ∧ Aside0 (kq ≤ kj1) ∧ Aside0 (Kd.R k31 31 w' w.heap.size (fun _ => True) v208 t207) ∧ Aside0 (Below w.heap.size w w'))
        case atStart => exact ⟨(0), (0), (by first | rfl | (simp; done) | (simp [*]; done)), (by first | rfl | (simp; done) | (simp [*]; done)), H', ⟨Nat.le_refl _⟩, ⟨by (with_reducible repeat (first | apply Kd.R_alloc | apply Kd.R_drewN | apply Kd.R_drew)); exact HO209.out⟩, ⟨by repeat (first | (with_reducible first | exact HB.out | apply below_alloc | apply pw_below_drewN | apply below_drew1) | exact HB.out)⟩⟩
        case round =>
          clear H'
          try clear p2
          try clear c3
          try clear c3b0
          try clear c3b1
          try clear c6
          try clear p2
          obtain ⟨x4_2, x5_2, rfl, rfl, HA, HK2, HO_3, HB⟩ := hrel
          cases gk with
          | zero => exact absurd HA.out (by simp [entrepotlaw01_CursorCover.l0])
          | succ k2 =>
            have H := HA.out
            clear HA
            simp only [entrepotlaw01_CursorCover.l0] at H
            by_cases c11 : x5_2 < (t207.length : Int)
            · rw [if_pos c11] at H
              have c11b0 : decide (x5_2 < (t207.length : Int)) = true := decide_eq_true c11
              clear c11
              have HC12 := Aside0.mk H
              clear H
              obtain ⟨Ao13, co13, eo13⟩ := Kd.R_slice HO_3.out
              subst eo13
              go_upto_region 8 with (fail)
              repeat (go_quiet (fail); go_upto_region 8 with (fail))
              go_cut [87] (fun v87 wc => ∃ (kq : Nat) (x87_11 : Bool), v87 = .bool x87_11 ∧ Aside0 (entrepotlaw01_CursorCover.j2 kq a0 t207 x5_2 x87_11 = some r) ∧ Aside0 (kq ≤ k2) ∧ Aside0 (Kd.R k31 31 wc w.heap.size (fun _ => True) (.slice Ao13 t207.length co13) t207) ∧ Aside0 (Below w.heap.size w wc))
              case first =>
                have H := HC12.out
                clear HC12
                by_cases c14 : 0 ≤ x5_2
                · rw [if_pos c14] at H
                  have c14b0 : decide (0 ≤ x5_2) = true := decide_eq_true c14
                  clear c14
                  (first | rw [c14b0] | (simp only [i64_w, i32_w]; rw [c14b0]) | skip)
                  by_cases c15 : ((rd_T31 t207 x5_2).f0) = x4_2
                  · rw [if_pos c15] at H
                    have c15b0 : (((rd_T31 t207 x5_2).f0) == x4_2) = true := beq_iff_eq.mpr c15
                    have c15b1 : (((rd_T31 t207 x5_2).f0) != x4_2) = false := bne_eq_false_iff_eq.mpr c15
                    clear c15
                    by_cases c16 : ((rd_T31 t207 x5_2).f1) < x4_2
                    · rw [if_pos c16] at H
                      have c16b0 : decide (((rd_T31 t207 x5_2).f1) < x4_2) = true := decide_eq_true c16
                      clear c16
                      have H' := Aside0.mk H
                      clear H
                      have p210 : 0 ≤ (x5_2 : Int) := of_decide_eq_true (by first | (with_reducible assumption) | assumption)
                      have q210 : x5_2 < (t207.length : Int) := of_decide_eq_true (by first | (with_reducible assumption) | assumption)
                      obtain ⟨ad210, e210, hx210_0, hx210_1, hx210_2⟩ := at_T31 (Kd.R_reads' HO_3.out).2.2 x5_2 p210 q210
                      cases e210
                      replace p210 := eq_true p210
                      replace q210 := eq_true q210
                      have p211 : 0 ≤ (x5_2 : Int) := of_decide_eq_true (by first | (with_reducible assumption) | assumption)
                      have q211 : x5_2 < (t207.length : Int) := of_decide_eq_true (by first | (with_reducible assumption) | assumption)
                      obtain ⟨ad211, e211, hx211_0, hx211_1, hx211_2⟩ := at_T31 (Kd.R_reads' HO_3.out).2.2 x5_2 p211 q211
                      obtain rfl : ad210 = ad211 := (by injection e211)
                      replace p211 := eq_true p211
                      replace q211 := eq_true q211
                      go_wp2
                      repeat (go_quiet (fail); try go_wp2)
                      go_meet
                      case rel => exact ⟨_, (true), (by first | rfl | (simp; done) | (simp [*]; done)), H', ⟨by have := HJ1.out; have := HK2.out; first | omega | exact Nat.le_refl _⟩, ⟨by (with_reducible repeat (first | apply Kd.R_alloc | apply Kd.R_drewN | apply Kd.R_drew)); exact HO_3.out⟩, ⟨by repeat (first | (with_reducible first | exact HB.out | apply below_alloc | apply pw_below_drewN | apply below_drew1) | exact HB.out)⟩⟩
                    · rw [if_neg c16] at H
                      have c16b0 : decide (((rd_T31 t207 x5_2).f1) < x4_2) = false := decide_eq_false c16
                      clear c16
                      by_cases c17 : ((rd_T31 t207 x5_2).f2) < ((rd_T31 t207 x5_2).f1)
                      · rw [if_pos c17] at H
                        have c17b0 : decide (((rd_T31 t207 x5_2).f2) < ((rd_T31 t207 x5_2).f1)) = true := decide_eq_true c17
                        clear c17
                        have H' := Aside0.mk H
                        clear H
                        have p210 : 0 ≤ (x5_2 : Int) := of_decide_eq_true (by first | (with_reducible assumption) | assumption)
                        have q210 : x5_2 < (t207.length : Int) := of_decide_eq_true (by first | (with_reducible assumption) | assumption)
                        obtain ⟨ad210, e210, hx210_0, hx210_1, hx210_2⟩ := at_T31 (Kd.R_reads' HO_3.out).2.2 x5_2 p210 q210
                        cases e210
                        replace p210 := eq_true p210
                        replace q210 := eq_true q210
                        have p211 : 0 ≤ (x5_2 : Int) := of_decide_eq_true (by first | (with_reducible assumption) | assumption)
                        have q211 : x5_2 < (t207.length : Int) := of_decide_eq_true (by first | (with_reducible assumption) | assumption)
                        obtain ⟨ad211, e211, hx211_0, hx211_1, hx211_2⟩ := at_T31 (Kd.R_reads' HO_3.out).2.2 x5_2 p211 q211
                        obtain rfl : ad210 = ad211 := (by injection e211)
                        replace p211 := eq_true p211
                        replace q211 := eq_true q211
                        have p212 : 0 ≤ (x5_2 : Int) := of_decide_eq_true (by first | (with_reducible assumption) | assumption)
                        have q212 : x5_2 < (t207.length : Int) := of_decide_eq_true (by first | (with_reducible assumption) | assumption)
                        obtain ⟨ad212, e212, hx212_0, hx212_1, hx212_2⟩ := at_T31 (Kd.R_reads' HO_3.out).2.2 x5_2 p212 q212
                        obtain rfl : ad210 = ad212 := (by injection e212)
                        replace p212 := eq_true p212
                        replace q212 := eq_true q212
                        have p213 : 0 ≤ (x5_2 : Int) := of_decide_eq_true (by first | (with_reducible assumption) | assumption)
                        have q213 : x5_2 < (t207.length : Int) := of_decide_eq_true (by first | (with_reducible assumption) | assumption)
                        obtain ⟨ad213, e213, hx213_0, hx213_1, hx213_2⟩ := at_T31 (Kd.R_reads' HO_3.out).2.2 x5_2 p213 q213
                        obtain rfl : ad210 = ad213 := (by injection e213)
                        replace p213 := eq_true p213
                        replace q213 := eq_true q213
                        go_wp2
                        repeat (go_quiet (fail); try go_wp2)
                        go_meet
                        case rel => exact ⟨_, (true), (by first | rfl | (simp; done) | (simp [*]; done)), H', ⟨by have := HJ1.out; have := HK2.out; first | omega | exact Nat.le_refl _⟩, ⟨by (with_reducible repeat (first | apply Kd.R_alloc | apply Kd.R_drewN | apply Kd.R_drew)); exact HO_3.out⟩, ⟨by repeat (first | (with_reducible first | exact HB.out | apply below_alloc | apply pw_below_drewN | apply below_drew1) | exact HB.out)⟩⟩
                      · rw [if_neg c17] at H
                        have c17b0 : decide (((rd_T31 t207 x5_2).f2) < ((rd_T31 t207 x5_2).f1)) = false := decide_eq_false c17
                        clear c17
                        by_cases c18 : ((rd_T31 t207 x5_2).f2) ≤ x4_2
                        · rw [if_pos c18] at H
                          have c18b0 : decide (((rd_T31 t207 x5_2).f2) ≤ x4_2) = true := decide_eq_true c18
                          clear c18
                          have H' := Aside0.mk H
                          clear H
                          have p210 : 0 ≤ (x5_2 : Int) := of_decide_eq_true (by first | (with_reducible assumption) | assumption)
                          have q210 : x5_2 < (t207.length : Int) := of_decide_eq_true (by first | (with_reducible assumption) | assumption)
                          obtain ⟨ad210, e210, hx210_0, hx210_1, hx210_2⟩ := at_T31 (Kd.R_reads' HO_3.out).2.2 x5_2 p210 q210
                          cases e210
                          replace p210 := eq_true p210
                          replace q210 := eq_true q210
                          have p211 : 0 ≤ (x5_2 : Int) := of_decide_eq_true (by first | (with_reducible assumption) | assumption)
                          have q211 : x5_2 < (t207.length : Int) := of_decide_eq_true (by first | (with_reducible assumption) | assumption)
                          obtain ⟨ad211, e211, hx211_0, hx211_1, hx211_2⟩ := at_T31 (Kd.R_reads' HO_3.out).2.2 x5_2 p211 q211
                          obtain rfl : ad210 = ad211 := (by injection e211)
                          replace p211 := eq_true p211
                          replace q211 := eq_true q211
                          have p212 : 0 ≤ (x5_2 : Int) := of_decide_eq_true (by first | (with_reducible assumption) | assumption)
                          have q212 : x5_2 < (t207.length : Int) := of_decide_eq_true (by first | (with_reducible assumption) | assumption)
                          obtain ⟨ad212, e212, hx212_0, hx212_1, hx212_2⟩ := at_T31 (Kd.R_reads' HO_3.out).2.2 x5_2 p212 q212
                          obtain rfl : ad210 = ad212 := (by injection e212)
                          replace p212 := eq_true p212
                          replace q212 := eq_true q212
                          have p213 : 0 ≤ (x5_2 : Int) := of_decide_eq_true (by first | (with_reducible assumption) | assumption)
                          have q213 : x5_2 < (t207.length : Int) := of_decide_eq_true (by first | (with_reducible assumption) | assumption)
                          obtain ⟨ad213, e213, hx213_0, hx213_1, hx213_2⟩ := at_T31 (Kd.R_reads' HO_3.out).2.2 x5_2 p213 q213
                          obtain rfl : ad210 = ad213 := (by injection e213)
                          replace p213 := eq_true p213
                          replace q213 := eq_true q213
                          have p214 : 0 ≤ (x5_2 : Int) := of_decide_eq_true (by first | (with_reducible assumption) | assumption)
                          have q214 : x5_2 < (t207.length : Int) := of_decide_eq_true (by first | (with_reducible assumption) | assumption)
                          obtain ⟨ad214, e214, hx214_0, hx214_1, hx214_2⟩ := at_T31 (Kd.R_reads' HO_3.out).2.2 x5_2 p214 q214
                          obtain rfl : ad210 = ad214 := (by injection e214)
                          replace p214 := eq_true p214
                          replace q214 := eq_true q214
                          go_wp2
                          repeat (go_quiet (fail); try go_wp2)
                          go_meet
                          case rel => exact ⟨_, (true), (by first | rfl | (simp; done) | (simp [*]; done)), H', ⟨by have := HJ1.out; have := HK2.out; first | omega | exact Nat.le_refl _⟩, ⟨by (with_reducible repeat (first | apply Kd.R_alloc | apply Kd.R_drewN | apply Kd.R_drew)); exact HO_3.out⟩, ⟨by repeat (first | (with_reducible first | exact HB.out | apply below_alloc | apply pw_below_drewN | apply below_drew1) | exact HB.out)⟩⟩
                        · rw [if_neg c18] at H
                          have c18b0 : decide (((rd_T31 t207 x5_2).f2) ≤ x4_2) = false := decide_eq_false c18
                          clear c18
                          by_cases c19 : ((rd_T31 t207 x5_2).f2) > (a0.size : Int)
                          · rw [if_pos c19] at H
                            have c19b0 : decide ((a0.size : Int) < ((rd_T31 t207 x5_2).f2)) = true := decide_eq_true c19
                            clear c19
                            have H' := Aside0.mk H
                            clear H
                            have p210 : 0 ≤ (x5_2 : Int) := of_decide_eq_true (by first | (with_reducible assumption) | assumption)
                            have q210 : x5_2 < (t207.length : Int) := of_decide_eq_true (by first | (with_reducible assumption) | assumption)
                            obtain ⟨ad210, e210, hx210_0, hx210_1, hx210_2⟩ := at_T31 (Kd.R_reads' HO_3.out).2.2 x5_2 p210 q210
                            cases e210
                            replace p210 := eq_true p210
                            replace q210 := eq_true q210
                            have p211 : 0 ≤ (x5_2 : Int) := of_decide_eq_true (by first | (with_reducible assumption) | assumption)
                            have q211 : x5_2 < (t207.length : Int) := of_decide_eq_true (by first | (with_reducible assumption) | assumption)
                            obtain ⟨ad211, e211, hx211_0, hx211_1, hx211_2⟩ := at_T31 (Kd.R_reads' HO_3.out).2.2 x5_2 p211 q211
                            obtain rfl : ad210 = ad211 := (by injection e211)
                            replace p211 := eq_true p211
                            replace q211 := eq_true q211
                            have p212 : 0 ≤ (x5_2 : Int) := of_decide_eq_true (by first | (with_reducible assumption) | assumption)
                            have q212 : x5_2 < (t207.length : Int) := of_decide_eq_true (by first | (with_reducible assumption) | assumption)
                            obtain ⟨ad212, e212, hx212_0, hx212_1, hx212_2⟩ := at_T31 (Kd.R_reads' HO_3.out).2.2 x5_2 p212 q212
                            obtain rfl : ad210 = ad212 := (by injection e212)
                            replace p212 := eq_true p212
                            replace q212 := eq_true q212
                            have p213 : 0 ≤ (x5_2 : Int) := of_decide_eq_true (by first | (with_reducible assumption) | assumption)
                            have q213 : x5_2 < (t207.length : Int) := of_decide_eq_true (by first | (with_reducible assumption) | assumption)
                            obtain ⟨ad213, e213, hx213_0, hx213_1, hx213_2⟩ := at_T31 (Kd.R_reads' HO_3.out).2.2 x5_2 p213 q213
                            obtain rfl : ad210 = ad213 := (by injection e213)
                            replace p213 := eq_true p213
                            replace q213 := eq_true q213
                            have p214 : 0 ≤ (x5_2 : Int) := of_decide_eq_true (by first | (with_reducible assumption) | assumption)
                            have q214 : x5_2 < (t207.length : Int) := of_decide_eq_true (by first | (with_reducible assumption) | assumption)
                            obtain ⟨ad214, e214, hx214_0, hx214_1, hx214_2⟩ := at_T31 (Kd.R_reads' HO_3.out).2.2 x5_2 p214 q214
                            obtain rfl : ad210 = ad214 := (by injection e214)
                            replace p214 := eq_true p214
                            replace q214 := eq_true q214
                            have p215 : 0 ≤ (x5_2 : Int) := of_decide_eq_true (by first | (with_reducible assumption) | assumption)
                            have q215 : x5_2 < (t207.length : Int) := of_decide_eq_true (by first | (with_reducible assumption) | assumption)
                            obtain ⟨ad215, e215, hx215_0, hx215_1, hx215_2⟩ := at_T31 (Kd.R_reads' HO_3.out).2.2 x5_2 p215 q215
                            obtain rfl : ad210 = ad215 := (by injection e215)
                            replace p215 := eq_true p215
                            replace q215 := eq_true q215
                            go_wp2
                            repeat (go_quiet (fail); try go_wp2)
                            go_meet
                            case rel => exact ⟨_, (true), (by first | rfl | (simp; done) | (simp [*]; done)), H', ⟨by have := HJ1.out; have := HK2.out; first | omega | exact Nat.le_refl _⟩, ⟨by (with_reducible repeat (first | apply Kd.R_alloc | apply Kd.R_drewN | apply Kd.R_drew)); exact HO_3.out⟩, ⟨by repeat (first | (with_reducible first | exact HB.out | apply below_alloc | apply pw_below_drewN | apply below_drew1) | exact HB.out)⟩⟩
                          · rw [if_neg c19] at H
                            have c19b0 : decide ((a0.size : Int) < ((rd_T31 t207 x5_2).f2)) = false := decide_eq_false c19
                            clear c19
                            have H' := Aside0.mk H
                            clear H
                            have p210 : 0 ≤ (x5_2 : Int) := of_decide_eq_true (by first | (with_reducible assumption) | assumption)
                            have q210 : x5_2 < (t207.length : Int) := of_decide_eq_true (by first | (with_reducible assumption) | assumption)
                            obtain ⟨ad210, e210, hx210_0, hx210_1, hx210_2⟩ := at_T31 (Kd.R_reads' HO_3.out).2.2 x5_2 p210 q210
                            cases e210
                            replace p210 := eq_true p210
                            replace q210 := eq_true q210
                            have p211 : 0 ≤ (x5_2 : Int) := of_decide_eq_true (by first | (with_reducible assumption) | assumption)
                            have q211 : x5_2 < (t207.length : Int) := of_decide_eq_true (by first | (with_reducible assumption) | assumption)
                            obtain ⟨ad211, e211, hx211_0, hx211_1, hx211_2⟩ := at_T31 (Kd.R_reads' HO_3.out).2.2 x5_2 p211 q211
                            obtain rfl : ad210 = ad211 := (by injection e211)
                            replace p211 := eq_true p211
                            replace q211 := eq_true q211
                            have p212 : 0 ≤ (x5_2 : Int) := of_decide_eq_true (by first | (with_reducible assumption) | assumption)
                            have q212 : x5_2 < (t207.length : Int) := of_decide_eq_true (by first | (with_reducible assumption) | assumption)
                            obtain ⟨ad212, e212, hx212_0, hx212_1, hx212_2⟩ := at_T31 (Kd.R_reads' HO_3.out).2.2 x5_2 p212 q212
                            obtain rfl : ad210 = ad212 := (by injection e212)
                            replace p212 := eq_true p212
                            replace q212 := eq_true q212
                            have p213 : 0 ≤ (x5_2 : Int) := of_decide_eq_true (by first | (with_reducible assumption) | assumption)
                            have q213 : x5_2 < (t207.length : Int) := of_decide_eq_true (by first | (with_reducible assumption) | assumption)
                            obtain ⟨ad213, e213, hx213_0, hx213_1, hx213_2⟩ := at_T31 (Kd.R_reads' HO_3.out).2.2 x5_2 p213 q213
                            obtain rfl : ad210 = ad213 := (by injection e213)
                            replace p213 := eq_true p213
                            replace q213 := eq_true q213
                            have p214 : 0 ≤ (x5_2 : Int) := of_decide_eq_true (by first | (with_reducible assumption) | assumption)
                            have q214 : x5_2 < (t207.length : Int) := of_decide_eq_true (by first | (with_reducible assumption) | assumption)
                            obtain ⟨ad214, e214, hx214_0, hx214_1, hx214_2⟩ := at_T31 (Kd.R_reads' HO_3.out).2.2 x5_2 p214 q214
                            obtain rfl : ad210 = ad214 := (by injection e214)
                            replace p214 := eq_true p214
                            replace q214 := eq_true q214
                            have p215 : 0 ≤ (x5_2 : Int) := of_decide_eq_true (by first | (with_reducible assumption) | assumption)
                            have q215 : x5_2 < (t207.length : Int) := of_decide_eq_true (by first | (with_reducible assumption) | assumption)
                            obtain ⟨ad215, e215, hx215_0, hx215_1, hx215_2⟩ := at_T31 (Kd.R_reads' HO_3.out).2.2 x5_2 p215 q215
                            obtain rfl : ad210 = ad215 := (by injection e215)
                            replace p215 := eq_true p215
                            replace q215 := eq_true q215
                            have p216 : 0 ≤ (x5_2 : Int) := of_decide_eq_true (by first | (with_reducible assumption) | assumption)
                            have q216 : x5_2 < (t207.length : Int) := of_decide_eq_true (by first | (with_reducible assumption) | assumption)
                            obtain ⟨ad216, e216, hx216_0, hx216_1, hx216_2⟩ := at_T31 (Kd.R_reads' HO_3.out).2.2 x5_2 p216 q216
                            obtain rfl : ad210 = ad216 := (by injection e216)
                            replace p216 := eq_true p216
                            replace q216 := eq_true q216
                            have p217 : 0 ≤ (x5_2 : Int) := of_decide_eq_true (by first | (with_reducible assumption) | assumption)
                            have q217 : x5_2 < (t207.length : Int) := of_decide_eq_true (by first | (with_reducible assumption) | assumption)
                            obtain ⟨ad217, e217, hx217_0, hx217_1, hx217_2⟩ := at_T31 (Kd.R_reads' HO_3.out).2.2 x5_2 p217 q217
                            obtain rfl : ad210 = ad217 := (by injection e217)
                            replace p217 := eq_true p217
                            replace q217 := eq_true q217
                            go_wp2
                            repeat (go_quiet (fail); try go_wp2)
                            go_meet
                            case rel => exact ⟨_, (decide ((wrap64 (((rd_T31 t207 x5_2).f2) - ((rd_T31 t207 x5_2).f1))) > 2)), (by first | rfl | (simp; done) | (simp [*]; done)), H', ⟨by have := HJ1.out; have := HK2.out; first | omega | exact Nat.le_refl _⟩, ⟨by (with_reducible repeat (first | apply Kd.R_alloc | apply Kd.R_drewN | apply Kd.R_drew)); exact HO_3.out⟩, ⟨by repeat (first | (with_reducible first | exact HB.out | apply below_alloc | apply pw_below_drewN | apply below_drew1) | exact HB.out)⟩⟩
                  · rw [if_neg c15] at H
                    have c15b0 : (((rd_T31 t207 x5_2).f0) == x4_2) = false := beq_eq_false_iff_ne.mpr c15
                    have c15b1 : (((rd_T31 t207 x5_2).f0) != x4_2) = true := bne_iff_ne.mpr c15
                    have H' := Aside0.mk H
                    clear H
                    have p210 : 0 ≤ (x5_2 : Int) := of_decide_eq_true (by first | (with_reducible assumption) | assumption)
                    have q210 : x5_2 < (t207.length : Int) := of_decide_eq_true (by first | (with_reducible assumption) | assumption)
                    obtain ⟨ad210, e210, hx210_0, hx210_1, hx210_2⟩ := at_T31 (Kd.R_reads' HO_3.out).2.2 x5_2 p210 q210
                    cases e210
                    replace p210 := eq_true p210
                    replace q210 := eq_true q210
                    go_wp2
                    repeat (go_quiet (fail); try go_wp2)
                    go_meet
                    case rel => exact ⟨_, (true), (by first | rfl | (simp; done) | (simp [*]; done)), H', ⟨by have := HJ1.out; have := HK2.out; first | omega | exact Nat.le_refl _⟩, ⟨by (with_reducible repeat (first | apply Kd.R_alloc | apply Kd.R_drewN | apply Kd.R_drew)); exact HO_3.out⟩, ⟨by repeat (first | (with_reducible first | exact HB.out | apply below_alloc | apply pw_below_drewN | apply below_drew1) | exact HB.out)⟩⟩
                · rw [if_neg c14] at H
                  exact absurd H (by simp)
              case rest =>
                clear HC12
                try clear c1
                try clear p2
                try clear q2
                try clear hx2
                try clear c3
                try clear c3b0
                try clear c3b1
                try clear c6
                try clear p6
                try clear c11
                try clear c11b0
                try clear c14
                try clear c14b0
                try clear c15
                try clear c15b0
                try clear c15b1
                try clear c16
                try clear c16b0
                try clear c17
                try clear c17b0
                try clear c18
                try clear c18b0
                try clear c19
                try clear c19b0
                try clear hx210_0
                try clear hx210_1
                try clear hx210_2
                try clear hx211_0
                try clear hx211_1
                try clear hx211_2
                try clear hx212_0
                try clear hx212_1
                try clear hx212_2
                try clear hx213_0
                try clear hx213_1
                try clear hx213_2
                try clear hx214_0
                try clear hx214_1
                try clear hx214_2
                try clear hx215_0
                try clear hx215_1
                try clear hx215_2
                try clear hx216_0
                try clear hx216_1
                try clear hx216_2
                try clear hx217_0
                try clear hx217_1
                try clear hx217_2
                try clear p2
                try clear p210
                try clear p211
                try clear p212
                try clear p213
                try clear p214
                try clear p215
                try clear p216
                try clear p217
                try clear q210
                try clear q211
                try clear q212
                try clear q213
                try clear q214
                try clear q215
                try clear q216
                try clear q217
                obtain ⟨kq, x87_11, rfl, HA, HJ11, HO_3, HB⟩ := hcut
                cases kq with
                | zero => exact absurd HA.out (by simp [entrepotlaw01_CursorCover.j2])
                | succ kj11 =>
                  have H := HA.out
                  clear HA
                  simp only [entrepotlaw01_CursorCover.j2] at H
                  by_cases c20 : x87_11 = true
                  · subst c20
                    have H1 : (some false) = some r := by rw [if_pos rfl] at H; exact H
                    clear H
                    have H := H1
                    clear H1
                    obtain rfl := Option.some.inj H
                    go_wp2
                    repeat (go_quiet (fail); try go_wp2)
                    go_ret
                    exact ⟨by first | rfl | (simp [errW_none, errW_some] <;> rfl) | (simp [*, errW_none, errW_some] <;> rfl), by repeat (first | (with_reducible first | exact HB.out | apply below_alloc | apply pw_below_drewN | apply below_drew1) | exact HB.out)⟩
                  · replace c20 := Bool.eq_false_iff.mpr c20
                    subst c20
                    have H1 : (if 0 ≤ x5_2 then (if x5_2 < (t207.length : Int) then ((cursor_Where.f a0 ((rd_T31 t207 x5_2).f0)).bind fun bt219 => (if bt219.1 = (wrap64 (x5_2 + 1)) then (if bt219.2.1 = 1 then (entrepotlaw01_CursorCover.j3 kj11 a0 t207 x5_2 (bt219.2.2 != 0)) else (entrepotlaw01_CursorCover.j3 kj11 a0 t207 x5_2 true)) else (entrepotlaw01_CursorCover.j3 kj11 a0 t207 x5_2 true))) else (none)) else (none)) = some r := by rw [if_neg (show ¬ (false = true) by decide)] at H; exact H
                    clear H
                    have H := H1
                    clear H1
                    by_cases c21 : 0 ≤ x5_2
                    · rw [if_pos c21] at H
                      have c21b0 : decide (0 ≤ x5_2) = true := decide_eq_true c21
                      clear c21
                      by_cases c22 : x5_2 < (t207.length : Int)
                      · rw [if_pos c22] at H
                        have c22b0 : decide (x5_2 < (t207.length : Int)) = true := decide_eq_true c22
                        clear c22
                        replace H := Option.bind_eq_some_iff.mp H
                        obtain ⟨⟨t219, t220, t221⟩, A230, H⟩ := H
                        replace H : (if t219 = (wrap64 (x5_2 + 1)) then (if t220 = 1 then (entrepotlaw01_CursorCover.j3 kj11 a0 t207 x5_2 (t221 != 0)) else (entrepotlaw01_CursorCover.j3 kj11 a0 t207 x5_2 true)) else (entrepotlaw01_CursorCover.j3 kj11 a0 t207 x5_2 true)) = some r := H
                        have A23 := Aside0.mk A230
                        clear A230
                        have HC24 := Aside0.mk H
                        clear H
                        have p218 : 0 ≤ (x5_2 : Int) := of_decide_eq_true (by first | (with_reducible assumption) | assumption)
                        have q218 : x5_2 < (t207.length : Int) := of_decide_eq_true (by first | (with_reducible assumption) | assumption)
                        obtain ⟨ad218, e218, hx218_0, hx218_1, hx218_2⟩ := at_T31 (Kd.R_reads' HO_3.out).2.2 x5_2 p218 q218
                        cases e218
                        replace p218 := eq_true p218
                        replace q218 := eq_true q218
                        go_upto_region 11 with (first | (go_at_call 18; (with_reducible refine (cursor_Where.calls a0 ((rd_T31 t207 x5_2).f0) t219 t220 t221 _ A23.out).mono ?_); rintro e w25 ⟨rfl, hb⟩; have n0_ := Aside0.mk (Kd.R_below (by (with_reducible repeat (first | apply Kd.R_alloc | apply Kd.R_drewN | apply Kd.R_drew)); exact HO_3.out) hb); have n1_ := Aside0.mk (below_step (by repeat (first | (with_reducible first | exact HB.out | apply below_alloc | apply pw_below_drewN | apply below_drew1) | exact HB.out)) hb); clear HO_3; clear HB; have HO_3 := n0_; have HB := n1_; clear n0_ n1_; (try clear hb); (try clear hb2); (try clear hk); (try clear hi)))
                        repeat (go_quiet (first | (go_at_call 18; (with_reducible refine (cursor_Where.calls a0 ((rd_T31 t207 x5_2).f0) t219 t220 t221 _ A23.out).mono ?_); rintro e w25 ⟨rfl, hb⟩; have n0_ := Aside0.mk (Kd.R_below (by (with_reducible repeat (first | apply Kd.R_alloc | apply Kd.R_drewN | apply Kd.R_drew)); exact HO_3.out) hb); have n1_ := Aside0.mk (below_step (by repeat (first | (with_reducible first | exact HB.out | apply below_alloc | apply pw_below_drewN | apply below_drew1) | exact HB.out)) hb); clear HO_3; clear HB; have HO_3 := n0_; have HB := n1_; clear n0_ n1_; (try clear hb); (try clear hb2); (try clear hk); (try clear hi))); go_upto_region 11 with (first | (go_at_call 18; (with_reducible refine (cursor_Where.calls a0 ((rd_T31 t207 x5_2).f0) t219 t220 t221 _ A23.out).mono ?_); rintro e w25 ⟨rfl, hb⟩; have n0_ := Aside0.mk (Kd.R_below (by (with_reducible repeat (first | apply Kd.R_alloc | apply Kd.R_drewN | apply Kd.R_drew)); exact HO_3.out) hb); have n1_ := Aside0.mk (below_step (by repeat (first | (with_reducible first | exact HB.out | apply below_alloc | apply pw_below_drewN | apply below_drew1) | exact HB.out)) hb); clear HO_3; clear HB; have HO_3 := n0_; have HB := n1_; clear n0_ n1_; (try clear hb); (try clear hb2); (try clear hk); (try clear hi))))
                        (try simp only [Act.put, List.setIfInBounds_toArray, List.set_cons_zero, List.set_cons_succ])
                        go_cut [110] (fun v110 wc => ∃ (kq : Nat) (x110_23 : Bool), v110 = .bool x110_23 ∧ Aside0 (entrepotlaw01_CursorCover.j3 kq a0 t207 x5_2 x110_23 = some r) ∧ Aside0 (kq ≤ kj11) ∧ Aside0 (Kd.R k31 31 wc w.heap.size (fun _ => True) (.slice (some ad218) t207.length co13) t207) ∧ Aside0 (Below w.heap.size w wc))
                        case first =>
                          have H := HC24.out
                          clear HC24
                          by_cases c26 : t219 = (wrap64 (x5_2 + 1))
                          · rw [if_pos c26] at H
                            have c26b0 : (t219 == (wrap64 (x5_2 + 1))) = true := beq_iff_eq.mpr c26
                            have c26b1 : (t219 != (wrap64 (x5_2 + 1))) = false := bne_eq_false_iff_eq.mpr c26
                            clear c26
                            (first | rw [c26b0] | (simp only [i64_w, i32_w]; rw [c26b0]) | skip)
                            by_cases c27 : t220 = 1
                            · rw [if_pos c27] at H
                              have c27b0 : (t220 == 1) = true := beq_iff_eq.mpr c27
                              have c27b1 : (t220 != 1) = false := bne_eq_false_iff_eq.mpr c27
                              clear c27
                              have H' := Aside0.mk H
                              clear H
                              go_wp2
                              repeat (go_quiet (fail); try go_wp2)
                              go_meet
                              case rel => exact ⟨_, ((t221 != 0)), (by first | rfl | (simp; done) | (simp [*]; done)), H', ⟨by have := HJ1.out; have := HK2.out; have := HJ11.out; first | omega | exact Nat.le_refl _⟩, ⟨by (with_reducible repeat (first | apply Kd.R_alloc | apply Kd.R_drewN | apply Kd.R_drew)); exact HO_3.out⟩, ⟨by repeat (first | (with_reducible first | exact HB.out | apply below_alloc | apply pw_below_drewN | apply below_drew1) | exact HB.out)⟩⟩
                            · rw [if_neg c27] at H
                              have c27b0 : (t220 == 1) = false := beq_eq_false_iff_ne.mpr c27
                              have c27b1 : (t220 != 1) = true := bne_iff_ne.mpr c27
                              have H' := Aside0.mk H
                              clear H
                              go_wp2
                              repeat (go_quiet (fail); try go_wp2)
                              go_meet
                              case rel => exact ⟨_, (true), (by first | rfl | (simp; done) | (simp [*]; done)), H', ⟨by have := HJ1.out; have := HK2.out; have := HJ11.out; first | omega | exact Nat.le_refl _⟩, ⟨by (with_reducible repeat (first | apply Kd.R_alloc | apply Kd.R_drewN | apply Kd.R_drew)); exact HO_3.out⟩, ⟨by repeat (first | (with_reducible first | exact HB.out | apply below_alloc | apply pw_below_drewN | apply below_drew1) | exact HB.out)⟩⟩
                          · rw [if_neg c26] at H
                            have c26b0 : (t219 == (wrap64 (x5_2 + 1))) = false := beq_eq_false_iff_ne.mpr c26
                            have c26b1 : (t219 != (wrap64 (x5_2 + 1))) = true := bne_iff_ne.mpr c26
                            (first | rw [c26b0] | (simp only [i64_w, i32_w]; rw [c26b0]) | skip)
                            have H' := Aside0.mk H
                            clear H
                            go_wp2
                            repeat (go_quiet (fail); try go_wp2)
                            go_meet
                            case rel => exact ⟨_, (true), (by first | rfl | (simp; done) | (simp [*]; done)), H', ⟨by have := HJ1.out; have := HK2.out; have := HJ11.out; first | omega | exact Nat.le_refl _⟩, ⟨by (with_reducible repeat (first | apply Kd.R_alloc | apply Kd.R_drewN | apply Kd.R_drew)); exact HO_3.out⟩, ⟨by repeat (first | (with_reducible first | exact HB.out | apply below_alloc | apply pw_below_drewN | apply below_drew1) | exact HB.out)⟩⟩
                        case rest =>
                          clear HC24
                          try clear c1
                          try clear c2
                          try clear p2
                          try clear q2
                          try clear hx2
                          try clear c3
                          try clear c3b0
                          try clear c3b1
                          try clear c6
                          try clear p6
                          try clear c11
                          try clear c11b0
                          try clear c14
                          try clear c14b0
                          try clear c15
                          try clear c15b0
                          try clear c15b1
                          try clear c16
                          try clear c16b0
                          try clear c17
                          try clear c17b0
                          try clear c18
                          try clear c18b0
                          try clear c19
                          try clear c19b0
                          try clear c20
                          try clear c21
                          try clear c21b0
                          try clear p21
                          try clear q21
                          try clear hx21
                          try clear c22
                          try clear c22b0
                          try clear c26
                          try clear c26b0
                          try clear c26b1
                          try clear c27
                          try clear c27b0
                          try clear c27b1
                          try clear hx210_0
                          try clear hx210_1
                          try clear hx210_2
                          try clear hx211_0
                          try clear hx211_1
                          try clear hx211_2
                          try clear hx212_0
                          try clear hx212_1
                          try clear hx212_2
                          try clear hx213_0
                          try clear hx213_1
                          try clear hx213_2
                          try clear hx214_0
                          try clear hx214_1
                          try clear hx214_2
                          try clear hx215_0
                          try clear hx215_1
                          try clear hx215_2
                          try clear hx216_0
                          try clear hx216_1
                          try clear hx216_2
                          try clear hx217_0
                          try clear hx217_1
                          try clear hx217_2
                          try clear hx218_0
                          try clear hx218_1
                          try clear hx218_2
                          try clear p2
                          try clear p210
                          try clear p211
                          try clear p212
                          try clear p213
                          try clear p214
                          try clear p215
                          try clear p216
                          try clear p217
                          try clear p218
                          try clear p6
                          try clear q2
                          try clear q210
                          try clear q211
                          try clear q212
                          try clear q213
                          try clear q214
                          try clear q215
                          try clear q216
                          try clear q217
                          try clear q218
                          obtain ⟨kq, x110_23, rfl, HA, HJ23, HO_3, HB⟩ := hcut
                          cases kq with
                          | zero => exact absurd HA.out (by simp [entrepotlaw01_CursorCover.j3])
                          | succ kj23 =>
                            have H := HA.out
                            clear HA
                            simp only [entrepotlaw01_CursorCover.j3] at H
                            by_cases c28 : x110_23 = true
                            · subst c28
                              have H1 : (some false) = some r := by rw [if_pos rfl] at H; exact H
                              clear H
                              have H := H1
                              clear H1
                              obtain rfl := Option.some.inj H
                              go_wp2
                              repeat (go_quiet (fail); try go_wp2)
                              go_ret
                              exact ⟨by first | rfl | (simp [errW_none, errW_some] <;> rfl) | (simp [*, errW_none, errW_some] <;> rfl), by repeat (first | (with_reducible first | exact HB.out | apply below_alloc | apply pw_below_drewN | apply below_drew1) | exact HB.out)⟩
                            · replace c28 := Bool.eq_false_iff.mpr c28
                              subst c28
                              have H1 : (if 0 ≤ x5_2 then (if x5_2 < (t207.length : Int) then (entrepotlaw01_CursorCover.l1 kj23 a0 t207 x5_2 ((rd_T31 t207 x5_2).f0)) else (none)) else (none)) = some r := by rw [if_neg (show ¬ (false = true) by decide)] at H; exact H
                              clear H
                              have H := H1
                              clear H1
                              by_cases c29 : 0 ≤ x5_2
                              · rw [if_pos c29] at H
                                have c29b0 : decide (0 ≤ x5_2) = true := decide_eq_true c29
                                clear c29
                                by_cases c30 : x5_2 < (t207.length : Int)
                                · rw [if_pos c30] at H
                                  have c30b0 : decide (x5_2 < (t207.length : Int)) = true := decide_eq_true c30
                                  clear c30
                                  have H' := Aside0.mk H
                                  clear H
                                  have p222 : 0 ≤ (x5_2 : Int) := of_decide_eq_true (by first | (with_reducible assumption) | assumption)
                                  have q222 : x5_2 < (t207.length : Int) := of_decide_eq_true (by first | (with_reducible assumption) | assumption)
                                  obtain ⟨ad222, e222, hx222_0, hx222_1, hx222_2⟩ := at_T31 (Kd.R_reads' HO_3.out).2.2 x5_2 p222 q222
                                  obtain rfl : ad218 = ad222 := (by injection e222)
                                  replace p222 := eq_true p222
                                  replace q222 := eq_true q222
                                  go_wp2
                                  repeat (go_quiet (fail); try go_wp2)
                                  go_loopg [9] kj23 (fun kq v9 w' => ∃ (x9_5 : Int), v9 = .int .i64 x9_5 ∧ Aside0 (entrepotlaw01_CursorCover.l1 kq a0 t207 x5_2 x9_5 = some r) ∧ Aside0 (kq ≤ kj23) ∧ Aside0 (Kd.R k31 31 w' w.heap.size (fun _ => True) (.slice (some ad218) t207.length co13) t207) ∧ Aside0 (Below w.heap.size w w'))
                                  case atStart => exact ⟨((rd_T31 t207 x5_2).f0), (by first | rfl | (simp; done) | (simp [*]; done)), H', ⟨Nat.le_refl _⟩, ⟨by (with_reducible repeat (first | apply Kd.R_alloc | apply Kd.R_drewN | apply Kd.R_drew)); exact HO_3.out⟩, ⟨by repeat (first | (with_reducible first | exact HB.out | apply below_alloc | apply pw_below_drewN | apply below_drew1) | exact HB.out)⟩⟩
                                  case round =>
                                    clear H'
                                    try clear c1
                                    try clear c2
                                    try clear p2
                                    try clear q2
                                    try clear hx2
                                    try clear c3
                                    try clear c3b0
                                    try clear c3b1
                                    try clear c6
                                    try clear p6
                                    try clear c11
                                    try clear c11b0
                                    try clear c14
                                    try clear c14b0
                                    try clear c15
                                    try clear c15b0
                                    try clear c15b1
                                    try clear c16
                                    try clear c16b0
                                    try clear c17
                                    try clear c17b0
                                    try clear c18
                                    try clear c18b0
                                    try clear c19
                                    try clear c19b0
                                    try clear c20
                                    try clear c21
                                    try clear c21b0
                                    try clear p21
                                    try clear q21
                                    try clear hx21
                                    try clear c22
                                    try clear c22b0
                                    try clear p22
                                    try clear q22
                                    try clear hx22
                                    try clear c26
                                    try clear c26b0
                                    try clear c26b1
                                    try clear c27
                                    try clear c27b0
                                    try clear c27b1
                                    try clear c28
                                    try clear c29
                                    try clear c29b0
                                    try clear c30
                                    try clear c30b0
                                    try clear hx210_0
                                    try clear hx210_1
                                    try clear hx210_2
                                    try clear hx211_0
                                    try clear hx211_1
                                    try clear hx211_2
                                    try clear hx212_0
                                    try clear hx212_1
                                    try clear hx212_2
                                    try clear hx213_0
                                    try clear hx213_1
                                    try clear hx213_2
                                    try clear hx214_0
                                    try clear hx214_1
                                    try clear hx214_2
                                    try clear hx215_0
                                    try clear hx215_1
                                    try clear hx215_2
                                    try clear hx216_0
                                    try clear hx216_1
                                    try clear hx216_2
                                    try clear hx217_0
                                    try clear hx217_1
                                    try clear hx217_2
                                    try clear hx218_0
                                    try clear hx218_1
                                    try clear hx218_2
                                    try clear hx222_0
                                    try clear hx222_1
                                    try clear hx222_2
                                    try clear p2
                                    try clear p21
                                    try clear p210
                                    try clear p211
                                    try clear p212
                                    try clear p213
                                    try clear p214
                                    try clear p215
                                    try clear p216
                                    try clear p217
                                    try clear p218
                                    try clear p222
                                    try clear p6
                                    try clear q2
                                    try clear q21
                                    try clear q210
                                    try clear q211
                                    try clear q212
                                    try clear q213
                                    try clear q214
                                    try clear q215
                                    try clear q216
                                    try clear q217
                                    try clear q218
                                    try clear q222
                                    obtain ⟨x9_5, rfl, HA, HK5, HO_3, HB⟩ := hrel
                                    cases gk with
                                    | zero => exact absurd HA.out (by simp [entrepotlaw01_CursorCover.l1])
                                    | succ k5 =>
                                      have H := HA.out
                                      clear HA
                                      simp only [entrepotlaw01_CursorCover.l1] at H
                                      by_cases c31 : 0 ≤ x5_2
                                      · rw [if_pos c31] at H
                                        have c31b0 : decide (0 ≤ x5_2) = true := decide_eq_true c31
                                        clear c31
                                        by_cases c32 : x5_2 < (t207.length : Int)
                                        · rw [if_pos c32] at H
                                          have c32b0 : decide (x5_2 < (t207.length : Int)) = true := decide_eq_true c32
                                          clear c32
                                          by_cases c33 : x9_5 < ((rd_T31 t207 x5_2).f1)
                                          · rw [if_pos c33] at H
                                            have c33b0 : decide (x9_5 < ((rd_T31 t207 x5_2).f1)) = true := decide_eq_true c33
                                            clear c33
                                            by_cases c34 : 0 ≤ x9_5
                                            · rw [if_pos c34] at H
                                              have c34b0 : decide (0 ≤ x9_5) = true := decide_eq_true c34
                                              clear c34
                                              by_cases c35 : x9_5 < (a0.size : Int)
                                              · rw [if_pos c35] at H
                                                have c35b0 : decide (x9_5 < (a0.size : Int)) = true := decide_eq_true c35
                                                clear c35
                                                by_cases c37 : (bt a0 x9_5) = 10
                                                · rw [if_pos c37] at H
                                                  have c37b0 : ((bt a0 x9_5) == 10) = true := beq_iff_eq.mpr c37
                                                  have c37b1 : ((bt a0 x9_5) != 10) = false := bne_eq_false_iff_eq.mpr c37
                                                  clear c37
                                                  obtain rfl := Option.some.inj H
                                                  have p223 : 0 ≤ (x5_2 : Int) := of_decide_eq_true (by first | (with_reducible assumption) | assumption)
                                                  have q223 : x5_2 < (t207.length : Int) := of_decide_eq_true (by first | (with_reducible assumption) | assumption)
                                                  obtain ⟨ad223, e223, hx223_0, hx223_1, hx223_2⟩ := at_T31 (Kd.R_reads' HO_3.out).2.2 x5_2 p223 q223
                                                  obtain rfl : ad218 = ad223 := (by injection e223)
                                                  replace p223 := eq_true p223
                                                  replace q223 := eq_true q223
                                                  have p36 : 0 ≤ (x9_5 : Int) := of_decide_eq_true (by first | (with_reducible assumption) | assumption)
                                                  have q36 : x9_5 < (a0.size : Int) := of_decide_eq_true (by first | (with_reducible assumption) | assumption)
                                                  have hx36 := bt_at a0 x9_5
                                                  replace p36 := eq_true p36
                                                  replace q36 := eq_true q36
                                                  go_wp2
                                                  repeat (go_quiet (fail); try go_wp2)
                                                  go_ret
                                                  exact ⟨by first | rfl | (simp [errW_none, errW_some] <;> rfl) | (simp [*, errW_none, errW_some] <;> rfl), by repeat (first | (with_reducible first | exact HB.out | apply below_alloc | apply pw_below_drewN | apply below_drew1) | exact HB.out)⟩
                                                · rw [if_neg c37] at H
                                                  have c37b0 : ((bt a0 x9_5) == 10) = false := beq_eq_false_iff_ne.mpr c37
                                                  have c37b1 : ((bt a0 x9_5) != 10) = true := bne_iff_ne.mpr c37
                                                  have H' := Aside0.mk H
                                                  clear H
                                                  have p223 : 0 ≤ (x5_2 : Int) := of_decide_eq_true (by first | (with_reducible assumption) | assumption)
                                                  have q223 : x5_2 < (t207.length : Int) := of_decide_eq_true (by first | (with_reducible assumption) | assumption)
                                                  obtain ⟨ad223, e223, hx223_0, hx223_1, hx223_2⟩ := at_T31 (Kd.R_reads' HO_3.out).2.2 x5_2 p223 q223
                                                  obtain rfl : ad218 = ad223 := (by injection e223)
                                                  replace p223 := eq_true p223
                                                  replace q223 := eq_true q223
                                                  have p36 : 0 ≤ (x9_5 : Int) := of_decide_eq_true (by first | (with_reducible assumption) | assumption)
                                                  have q36 : x9_5 < (a0.size : Int) := of_decide_eq_true (by first | (with_reducible assumption) | assumption)
                                                  have hx36 := bt_at a0 x9_5
                                                  replace p36 := eq_true p36
                                                  replace q36 := eq_true q36
                                                  go_wp2
                                                  repeat (go_quiet (fail); try go_wp2)
                                                  go_roundg k5
                                                  case measure => have := HJ1.out; have := HK2.out; have := HJ11.out; have := HJ23.out; have := HK5.out; omega
                                                  case rel => exact ⟨(wrap64 (x9_5 + 1)), (by first | rfl | (simp; done) | (simp [*]; done)), H', ⟨by have := HJ1.out; have := HK2.out; have := HJ11.out; have := HJ23.out; have := HK5.out; omega⟩, ⟨by (with_reducible repeat (first | apply Kd.R_alloc | apply Kd.R_drewN | apply Kd.R_drew)); exact HO_3.out⟩, ⟨by repeat (first | (with_reducible first | exact HB.out | apply below_alloc | apply pw_below_drewN | apply below_drew1) | exact HB.out)⟩⟩
                                              · rw [if_neg c35] at H
                                                exact absurd H (by simp)
                                            · rw [if_neg c34] at H
                                              exact absurd H (by simp)
                                          · rw [if_neg c33] at H
                                            have c33b0 : decide (x9_5 < ((rd_T31 t207 x5_2).f1)) = false := decide_eq_false c33
                                            clear c33
                                            have H' := Aside0.mk H
                                            clear H
                                            have p223 : 0 ≤ (x5_2 : Int) := of_decide_eq_true (by first | (with_reducible assumption) | assumption)
                                            have q223 : x5_2 < (t207.length : Int) := of_decide_eq_true (by first | (with_reducible assumption) | assumption)
                                            obtain ⟨ad223, e223, hx223_0, hx223_1, hx223_2⟩ := at_T31 (Kd.R_reads' HO_3.out).2.2 x5_2 p223 q223
                                            obtain rfl : ad218 = ad223 := (by injection e223)
                                            replace p223 := eq_true p223
                                            replace q223 := eq_true q223
                                            have p224 : 0 ≤ (x5_2 : Int) := of_decide_eq_true (by first | (with_reducible assumption) | assumption)
                                            have q224 : x5_2 < (t207.length : Int) := of_decide_eq_true (by first | (with_reducible assumption) | assumption)
                                            obtain ⟨ad224, e224, hx224_0, hx224_1, hx224_2⟩ := at_T31 (Kd.R_reads' HO_3.out).2.2 x5_2 p224 q224
                                            obtain rfl : ad218 = ad224 := (by injection e224)
                                            replace p224 := eq_true p224
                                            replace q224 := eq_true q224
                                            go_wp2
                                            repeat (go_quiet (fail); try go_wp2)
                                            go_roundg k5
                                            case measure => have := HJ1.out; have := HK2.out; have := HJ11.out; have := HJ23.out; have := HK5.out; omega
                                            case rel => exact ⟨((rd_T31 t207 x5_2).f2), (wrap64 (x5_2 + 1)), (by first | rfl | (simp; done) | (simp [*]; done)), (by first | rfl | (simp; done) | (simp [*]; done)), H', ⟨by have := HJ1.out; have := HK2.out; have := HJ11.out; have := HJ23.out; have := HK5.out; omega⟩, ⟨by (with_reducible repeat (first | apply Kd.R_alloc | apply Kd.R_drewN | apply Kd.R_drew)); exact HO_3.out⟩, ⟨by repeat (first | (with_reducible first | exact HB.out | apply below_alloc | apply pw_below_drewN | apply below_drew1) | exact HB.out)⟩⟩
                                        · rw [if_neg c32] at H
                                          exact absurd H (by simp)
                                      · rw [if_neg c31] at H
                                        exact absurd H (by simp)
                                · rw [if_neg c30] at H
                                  exact absurd H (by simp)
                              · rw [if_neg c29] at H
                                exact absurd H (by simp)
                      · rw [if_neg c22] at H
                        exact absurd H (by simp)
                    · rw [if_neg c21] at H
                      exact absurd H (by simp)
            · rw [if_neg c11] at H
              have c11b0 : decide (x5_2 < (t207.length : Int)) = false := decide_eq_false c11
              clear c11
              obtain rfl := Option.some.inj H
              obtain ⟨Ao38, co38, eo38⟩ := Kd.R_slice HO_3.out
              subst eo38
              go_wp2
              repeat (go_quiet (fail); try go_wp2)
              go_ret
              exact ⟨by first | rfl | (simp [errW_none, errW_some] <;> rfl) | (simp [*, errW_none, errW_some] <;> rfl), by repeat (first | (with_reducible first | exact HB.out | apply below_alloc | apply pw_below_drewN | apply below_drew1) | exact HB.out)⟩

/-- THE ONE PURE STATEMENT of entrepotlaw01_CursorCover: yours. -/
def entrepotlaw01_CursorCover.Pure : Prop := ∀ (a0 : ByteArray), a0.size ≤ 140737488351232 → ∃ k, entrepotlaw01_CursorCover.f k a0 = some true
theorem entrepotlaw01_CursorCover.walk (P : entrepotlaw01_CursorCover.Pure) (a0 : ByteArray) (w : World) (w0 : a0.size ≤ 140737488351232) :
    Calls Tryd.prog 6 #[.string a0] w fun e w' => e = .returned (.bool true) ∧ Below w.heap.size w w' := by
  obtain ⟨k, h⟩ := P a0 w0
  refine (entrepotlaw01_CursorCover.calls k a0 true w h).mono ?_
  rintro e w' ⟨rfl, hd⟩
  exact ⟨rfl, hd⟩

end Go.Proofs.YtfdeffjdhpdfeaaDoor.PAll
