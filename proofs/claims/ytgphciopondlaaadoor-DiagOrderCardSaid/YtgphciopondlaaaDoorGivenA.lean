/- compare of diag, walked by hand: its closure. Conditions: none. -/
import Derived.Test.YtgphciopondlaaaDoorPAllx0
import Derived.Test.YtgphciopondlaaaDoorPlain
import Derived.Test.YtgphciopondlaaaDoorShelf
import Derived.WalkKit
import Derived.StillTailTactics
import Derived.Deep.QuietTactic
import Derived.BigQuiet
import Derived.Shelf.SlSortCmp.QuietGrown
namespace Go.Proofs.YtgphciopondlaaaDoor
set_option linter.unusedVariables false
set_option linter.unusedSimpArgs false
open Go.RowKit Go.Sort Go.Lib Go.Proofs.YtgphciopondlaaaDoor.PAll Go.Proofs.YtgphciopondlaaaDoorW.PrintWords Go.Proofs.YtgphciopondlaaaDoorW.PrintLast

theorem cmpI_lib (x y : Int) : Lib.compareInt x y = Dg.cmpI x y := rfl
theorem cmp_calls (x y : Int) (W : World) : Calls Tryd.prog 43 #[.int .i64 x, .int .i64 y] W fun e w' => e = .returned (.int .i64 (Dg.cmpI x y)) ∧ w' = W := by
  have h := AnyG.cmp_Compare_int Tryd.laysCmp x y W
  exact h
theorem cmpE_calls (x y : Int) (W : World) : Calls Tryd.prog 44 #[.int .i64 x, .int .i64 y] W fun e w' => e = .returned (.int .i64 (Dg.cmpI x y)) ∧ w' = W := by
  have h := AnyG.cmp_Compare_int Tryd.laysCmpE x y W
  exact h
set_option maxHeartbeats 1000000 in
theorem or_calls (x y : Int) (b : Nat) (w : World) (h0 : w.cell? ⟨b, 0, none⟩ = some (.int .i64 x)) (h1 : w.cell? ⟨b, 1, none⟩ = some (.int .i64 y)) :
    Calls Tryd.prog 42 #[.slice (some ⟨b, 0, none⟩) 2 2] w fun e w' => e = .returned (.int .i64 (if x ≠ 0 then x else y)) ∧ w' = w := by
  by_cases hx : x = 0
  · subst hx
    have e : (if (0 : Int) ≠ 0 then 0 else y) = y := by simp
    rw [e]
    by_cases hy : y = 0
    · subst hy
      go_enter Tryd.func42, Tryd.ntmps42
      go_wp2
      go_loop [2, 5, 8] (fun s2 s5 s8 => ∃ i : Nat, i ≤ 2 ∧ s8 = .int .i64 i ∧ s2 = .int .i64 0) (fun _ _ s8 => 2 - (intOf s8).toNat)
      case atStart => exact ⟨0, by omega, rfl, rfl⟩
      case round =>
        obtain ⟨i, hi, rfl, rfl⟩ := hrel
        rcases (show i = 0 ∨ i = 1 ∨ i = 2 by omega) with rfl | rfl | rfl
        · go_wp2
          go_round
          case rel => exact ⟨1, by omega, rfl, rfl⟩
          case measure => simp [intOf]
        · go_wp2
          go_round
          case rel => exact ⟨2, by omega, rfl, rfl⟩
          case measure => simp [intOf]
        · go_wp2
          go_ret
          exact ⟨rfl, rfl⟩
    · have hy' : (y != 0) = true := by simpa using hy
      have hy'' : (y == 0) = false := by simpa using hy
      go_enter Tryd.func42, Tryd.ntmps42
      go_wp2
      go_loop [2, 5, 8] (fun s2 s5 s8 => ∃ i : Nat, i ≤ 1 ∧ s8 = .int .i64 i ∧ s2 = .int .i64 0) (fun _ _ s8 => 2 - (intOf s8).toNat)
      case atStart => exact ⟨0, by omega, rfl, rfl⟩
      case round =>
        obtain ⟨i, hi, rfl, rfl⟩ := hrel
        rcases (show i = 0 ∨ i = 1 by omega) with rfl | rfl
        · go_wp2
          go_round
          case rel => exact ⟨1, by omega, rfl, rfl⟩
          case measure => simp [intOf]
        · go_wp2
          go_ret
          exact ⟨rfl, rfl⟩
  · have e : (if x ≠ 0 then x else y) = x := by simp [hx]
    rw [e]
    have hx' : (x != 0) = true := by simpa using hx
    have hx'' : (x == 0) = false := by simpa using hx
    go_enter Tryd.func42, Tryd.ntmps42
    go_wp2
    go_loop [2, 5, 8] (fun s2 s5 s8 => s8 = .int .i64 0 ∧ s2 = .int .i64 0) (fun _ _ s8 => 2 - (intOf s8).toNat)
    case atStart => exact ⟨rfl, rfl⟩
    case round =>
      obtain ⟨rfl, rfl⟩ := hrel
      go_wp2
      go_ret
      exact ⟨rfl, rfl⟩
set_option maxRecDepth 100000 in
set_option maxHeartbeats 1000000 in
theorem than_calls (x y : Dg.D) (W : World) : Calls Tryd.prog 35 #[.agg #[.int .i64 x.1, .int .i64 x.2], .agg #[.int .i64 y.1, .int .i64 y.2]] W fun e w' => e = .returned (.int .i64 (Dg.cmpD x y)) ∧ ∃ q os', w' = grow (W.drewN q) os' := by
  obtain ⟨x1, x2⟩ := x
  obtain ⟨y1, y2⟩ := y
  have c1 := fun w' => cmp_calls x1 y1 w'
  have c2 := fun w' => cmpE_calls x2 y2 w'
  have hr : Dg.cmpD (x1, x2) (y1, y2) = if Dg.cmpI x1 y1 ≠ 0 then Dg.cmpI x1 y1 else Dg.cmpI x2 y2 := rfl
  rw [hr]
  have co := fun b w' h0 h1 => or_calls (Dg.cmpI x1 y1) (Dg.cmpI x2 y2) b w' h0 h1
  generalize Dg.cmpI x1 y1 = r1 at *
  generalize Dg.cmpI x2 y2 = r2 at *
  generalize (if r1 ≠ 0 then r1 else r2) = r at *
  replace c1 := Aside0.mk c1
  replace c2 := Aside0.mk c2
  replace co := Aside0.mk co
  go_enter Tryd.func35, Tryd.ntmps35
  go_wp2_with fail
  obtain ⟨W1, hW1⟩ : ∃ W1, (W.alloc (.cells #[.int .i64 x1, .int .i64 x2] 59)).alloc (.cells #[.int .i64 y1, .int .i64 y2] 59) = W1 := ⟨_, rfl⟩
  rw [hW1]
  have f : W1.drew.cell? ⟨W.heap.size, 0, none⟩ = some (.int .i64 x1) ∧ W1.drew.cell? ⟨W.heap.size, 1, none⟩ = some (.int .i64 x2) ∧ W1.drew.cell? ⟨W.heap.size + 1, 0, none⟩ = some (.int .i64 y1) ∧ W1.drew.cell? ⟨W.heap.size + 1, 1, none⟩ = some (.int .i64 y2) := by
    rw [← hW1]
    refine ⟨?_, ?_, ?_, ?_⟩ <;> simp [go_sem]
  have hg : ∃ q os', W1.drew = grow (W.drewN q) os' := ⟨1, _, by rw [← hW1, alloc_eq_grow, alloc_eq_grow, grow_grow]; rfl⟩
  replace hg := Aside0.mk hg
  obtain ⟨f0, f1, f2, f3⟩ := f
  refine wp_region_still_tail 10 (by kernel_rfl) (by kernel_rfl) ?_
  change wpStill _ _ W1.drew _ _ _
  change wpStill _ _ W1.drew (fun a' => wpList _ _ _ _ a' W1.drew) _ _
  generalize W1.drew = W2 at *
  clear hW1
  simp only [List.take_succ_cons, List.take_zero, List.drop_succ_cons, List.drop_zero]
  still_step
  still_step
  still_step
  still_step
  still_call (c1.out _)
  still_step
  still_step
  still_step
  still_step
  still_call (c2.out _)
  refine wpStill_nil ?_
  go_wp2_with (go_at_call 42; refine (co.out _ _ (by simp [go_sem]) (by simp [go_sem])).mono ?_; rintro e w' ⟨rfl, rfl⟩)
  go_ret
  obtain ⟨q, os', h⟩ := hg.out
  exact ⟨rfl, q, _, by rw [h, alloc_eq_grow, grow_grow]⟩
def enc (x : Dg.D) : List Value := [.int .i64 x.1, .int .i64 x.2]
set_option maxRecDepth 100000 in
set_option maxHeartbeats 1000000 in
theorem compare_calls (x y : Dg.D) (W : World) : Calls Tryd.prog 25 #[.agg (enc x).toArray, .agg (enc y).toArray] W fun e w' => e = .returned (.int .i64 (Dg.cmpD x y)) ∧ ∃ q os', w' = grow (W.drewN q) os' := by
  have c1 := fun w' => than_calls x y w'
  obtain ⟨x1, x2⟩ := x
  obtain ⟨y1, y2⟩ := y
  generalize Dg.cmpD (x1, x2) (y1, y2) = r at *
  replace c1 := Aside0.mk c1
  unfold enc
  go_enter Tryd.func25, Tryd.ntmps25
  go_wp2_with (go_at_call 35; refine (c1.out _).mono ?_; rintro e w' ⟨rfl, q, os', rfl⟩)
  go_ret
  exact ⟨rfl, q, _, by rw [alloc_eq_grow, alloc_eq_grow, grow_grow]; exact grow_grow (W.drewN q) _ _⟩
end Go.Proofs.YtgphciopondlaaaDoor
