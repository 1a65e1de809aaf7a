-- Written by a program out of the translation, for several roots at once (set All). Not trusted: Lean checks it.
import Derived.Test.YtbcahalbjegjgaaDoorPAllx0
import Derived.Test.YtbcahalbjegjgaaDoorPAllx1
import Derived.Test.YtbcahalbjegjgaaDoorPAllx2
import Derived.Test.YtbcahalbjegjgaaDoorPAllx3
import Derived.Test.YtbcahalbjegjgaaDoorGiven
namespace Go.Proofs.YtbcahalbjegjgaaDoor.PAll
open Go.RowKit Go.Proofs.YtbcahalbjegjgaaDoorW.PrintWords Go.Proofs.YtbcahalbjegjgaaDoorW.PrintLast Go.Proofs.YtbcahalbjegjgaaDoorW.PrintMore
attribute [local go_sem] max2_int min2_int max_two min_two max_three min_three max_four min_four   -- for this text's walks alone
set_option linter.unusedVariables false
set_option linter.unusedSimpArgs false

/-! ### entrepotlaw21_PackBack: function 7 -/
mutual
def entrepotlaw21_PackBack.j0 : Nat → Int → ByteArray → ByteArray → ByteArray → Bool → Option (Bool)
  | 0, _, _, _, _, _ => none
  | k + 1, x0, x1, x2, x3, x40 => if x40 = true then ((entrepotlaw21_shown.f k).bind fun t206 => (some t206)) else (if x0 ≥ 0 then ((pack_PutUint.f k x0).bind fun t207 => (if x2.size + t207.size ≤ 9223372036854775807 then (if (x2 ++ t207).size + x3.size ≤ 9223372036854775807 then ((pack_GetUint.f ((x2 ++ t207) ++ x3) (x2.size : Int)).bind fun bt208 => (if bt208.1 = x0 then (if bt208.2.1 = (wrap64 ((((x2 ++ t207) ++ x3).size : Int) - (x3.size : Int))) then (if bt208.2.2 = 0 then (entrepotlaw21_PackBack.j1 k x0 x1 x2 x3 (x2.size : Int)) else (some false)) else (some false)) else (some false))) else (none)) else (none))) else (entrepotlaw21_PackBack.j1 k x0 x1 x2 x3 (x2.size : Int)))
def entrepotlaw21_PackBack.j1 : Nat → Int → ByteArray → ByteArray → ByteArray → Int → Option (Bool)
  | 0, _, _, _, _, _ => none
  | k + 1, x0, x1, x2, x3, x9 => if x0 ≥ (-2305843009213693952) then (entrepotlaw21_PackBack.j2 k x0 x1 x2 x3 x9 (decide (x0 ≤ 2305843009213693951))) else (entrepotlaw21_PackBack.j2 k x0 x1 x2 x3 x9 false)
def entrepotlaw21_PackBack.j2 : Nat → Int → ByteArray → ByteArray → ByteArray → Int → Bool → Option (Bool)
  | 0, _, _, _, _, _, _ => none
  | k + 1, x0, x1, x2, x3, x9, x80 => if x80 = true then ((pack_PutInt.f k x0).bind fun t211 => (if x2.size + t211.size ≤ 9223372036854775807 then (if (x2 ++ t211).size + x3.size ≤ 9223372036854775807 then ((pack_GetInt.f ((x2 ++ t211) ++ x3) x9).bind fun bt212 => (if bt212.1 = x0 then (if bt212.2.1 = (wrap64 ((((x2 ++ t211) ++ x3).size : Int) - (x3.size : Int))) then (if bt212.2.2 = 0 then (entrepotlaw21_PackBack.j3 k x1 x2 x3 x9) else (some false)) else (some false)) else (some false))) else (none)) else (none))) else (entrepotlaw21_PackBack.j3 k x1 x2 x3 x9)
def entrepotlaw21_PackBack.j3 : Nat → ByteArray → ByteArray → ByteArray → Int → Option (Bool)
  | 0, _, _, _, _ => none
  | k + 1, x1, x2, x3, x9 => (pack_PutText.f k x1).bind fun t215 => (if x2.size + t215.size ≤ 9223372036854775807 then (if (x2 ++ t215).size + x3.size ≤ 9223372036854775807 then ((pack_GetText.f ((x2 ++ t215) ++ x3) x9).bind fun bt216 => ((pack_Seal.f ((x2 ++ t215) ++ x3)).bind fun t219 => ((pack_Open.f t219).bind fun bt220 => (if bt216.1.toList = x1.toList then (if bt216.2.1 = (wrap64 ((((x2 ++ t215) ++ x3).size : Int) - (x3.size : Int))) then (if bt216.2.2 = 0 then (if bt220.1.toList = ((x2 ++ t215) ++ x3).toList then (some (bt220.2 == 0)) else (some false)) else (some false)) else (some false)) else (some false))))) else (none)) else (none))
end
def entrepotlaw21_PackBack.f (k : Nat) (a0 : Int) (a1 : ByteArray) (a2 : ByteArray) (a3 : ByteArray) : Option (Bool) := if (a1.size : Int) > 300 then (entrepotlaw21_PackBack.j0 k a0 a1 a2 a3 true) else (if (a2.size : Int) > 50 then (entrepotlaw21_PackBack.j0 k a0 a1 a2 a3 true) else (if (a3.size : Int) > 50 then (entrepotlaw21_PackBack.j0 k a0 a1 a2 a3 true) else ((entrepotlaw21_shown.f k).bind fun t205 => (entrepotlaw21_PackBack.j0 k a0 a1 a2 a3 (!t205)))))
theorem entrepotlaw21_PackBack.mono_l : ∀ k, (∀ y0 y1 y2 y3 y4, LeO (entrepotlaw21_PackBack.j0 k y0 y1 y2 y3 y4) (entrepotlaw21_PackBack.j0 (k + 1) y0 y1 y2 y3 y4)) ∧ (∀ y0 y1 y2 y3 y4, LeO (entrepotlaw21_PackBack.j1 k y0 y1 y2 y3 y4) (entrepotlaw21_PackBack.j1 (k + 1) y0 y1 y2 y3 y4)) ∧ (∀ y0 y1 y2 y3 y4 y5, LeO (entrepotlaw21_PackBack.j2 k y0 y1 y2 y3 y4 y5) (entrepotlaw21_PackBack.j2 (k + 1) y0 y1 y2 y3 y4 y5)) ∧ (∀ y0 y1 y2 y3, LeO (entrepotlaw21_PackBack.j3 k y0 y1 y2 y3) (entrepotlaw21_PackBack.j3 (k + 1) y0 y1 y2 y3))
  | 0 => ⟨fun _ _ _ _ _ r h => by simp [entrepotlaw21_PackBack.j0] at h, fun _ _ _ _ _ r h => by simp [entrepotlaw21_PackBack.j1] at h, fun _ _ _ _ _ _ r h => by simp [entrepotlaw21_PackBack.j2] at h, fun _ _ _ _ r h => by simp [entrepotlaw21_PackBack.j3] at h⟩
  | k + 1 => by
    obtain ⟨ih0, ih1, ih2, ih3⟩ := entrepotlaw21_PackBack.mono_l k
    refine ⟨?_, ?_, ?_, ?_⟩
    · intro y0 y1 y2 y3 y4
      unfold entrepotlaw21_PackBack.j0
      repeat' first
      | (with_reducible exact ih0 _ _ _ _ _)
      | (with_reducible exact ih1 _ _ _ _ _)
      | (with_reducible exact ih2 _ _ _ _ _ _)
      | (with_reducible exact ih3 _ _ _ _)
      | (with_reducible exact entrepotlaw21_shown.mono _)
      | (with_reducible exact pack_PutInt.mono _ _)
      | (with_reducible exact pack_PutText.mono _ _)
      | (with_reducible exact pack_PutUint.mono _ _)
      | (with_reducible exact LeO.refl _)
      | (with_reducible exact LeO.none _)
      | (with_reducible refine LeO.ite ?_ ?_)
      | (with_reducible refine LeO.bind ?_ (fun _ => ?_))
      | exact ih0 _ _ _ _ _
      | exact ih1 _ _ _ _ _
      | exact ih2 _ _ _ _ _ _
      | exact ih3 _ _ _ _
      | exact entrepotlaw21_shown.mono _
      | exact pack_PutInt.mono _ _
      | exact pack_PutText.mono _ _
      | exact pack_PutUint.mono _ _
      | exact LeO.none _
      | refine LeO.ite ?_ ?_
      | refine LeO.bind ?_ (fun _ => ?_)
    · intro y0 y1 y2 y3 y4
      unfold entrepotlaw21_PackBack.j1
      repeat' first
      | (with_reducible exact ih0 _ _ _ _ _)
      | (with_reducible exact ih1 _ _ _ _ _)
      | (with_reducible exact ih2 _ _ _ _ _ _)
      | (with_reducible exact ih3 _ _ _ _)
      | (with_reducible exact entrepotlaw21_shown.mono _)
      | (with_reducible exact pack_PutInt.mono _ _)
      | (with_reducible exact pack_PutText.mono _ _)
      | (with_reducible exact pack_PutUint.mono _ _)
      | (with_reducible exact LeO.refl _)
      | (with_reducible exact LeO.none _)
      | (with_reducible refine LeO.ite ?_ ?_)
      | (with_reducible refine LeO.bind ?_ (fun _ => ?_))
      | exact ih0 _ _ _ _ _
      | exact ih1 _ _ _ _ _
      | exact ih2 _ _ _ _ _ _
      | exact ih3 _ _ _ _
      | exact entrepotlaw21_shown.mono _
      | exact pack_PutInt.mono _ _
      | exact pack_PutText.mono _ _
      | exact pack_PutUint.mono _ _
      | exact LeO.none _
      | refine LeO.ite ?_ ?_
      | refine LeO.bind ?_ (fun _ => ?_)
    · intro y0 y1 y2 y3 y4 y5
      unfold entrepotlaw21_PackBack.j2
      repeat' first
      | (with_reducible exact ih0 _ _ _ _ _)
      | (with_reducible exact ih1 _ _ _ _ _)
      | (with_reducible exact ih2 _ _ _ _ _ _)
      | (with_reducible exact ih3 _ _ _ _)
      | (with_reducible exact entrepotlaw21_shown.mono _)
      | (with_reducible exact pack_PutInt.mono _ _)
      | (with_reducible exact pack_PutText.mono _ _)
      | (with_reducible exact pack_PutUint.mono _ _)
      | (with_reducible exact LeO.refl _)
      | (with_reducible exact LeO.none _)
      | (with_reducible refine LeO.ite ?_ ?_)
      | (with_reducible refine LeO.bind ?_ (fun _ => ?_))
      | exact ih0 _ _ _ _ _
      | exact ih1 _ _ _ _ _
      | exact ih2 _ _ _ _ _ _
      | exact ih3 _ _ _ _
      | exact entrepotlaw21_shown.mono _
      | exact pack_PutInt.mono _ _
      | exact pack_PutText.mono _ _
      | exact pack_PutUint.mono _ _
      | exact LeO.none _
      | refine LeO.ite ?_ ?_
      | refine LeO.bind ?_ (fun _ => ?_)
    · intro y0 y1 y2 y3
      unfold entrepotlaw21_PackBack.j3
      repeat' first
      | (with_reducible exact ih0 _ _ _ _ _)
      | (with_reducible exact ih1 _ _ _ _ _)
      | (with_reducible exact ih2 _ _ _ _ _ _)
      | (with_reducible exact ih3 _ _ _ _)
      | (with_reducible exact entrepotlaw21_shown.mono _)
      | (with_reducible exact pack_PutInt.mono _ _)
      | (with_reducible exact pack_PutText.mono _ _)
      | (with_reducible exact pack_PutUint.mono _ _)
      | (with_reducible exact LeO.refl _)
      | (with_reducible exact LeO.none _)
      | (with_reducible refine LeO.ite ?_ ?_)
      | (with_reducible refine LeO.bind ?_ (fun _ => ?_))
      | exact ih0 _ _ _ _ _
      | exact ih1 _ _ _ _ _
      | exact ih2 _ _ _ _ _ _
      | exact ih3 _ _ _ _
      | exact entrepotlaw21_shown.mono _
      | exact pack_PutInt.mono _ _
      | exact pack_PutText.mono _ _
      | exact pack_PutUint.mono _ _
      | exact LeO.none _
      | refine LeO.ite ?_ ?_
      | refine LeO.bind ?_ (fun _ => ?_)
theorem entrepotlaw21_PackBack.mono : ∀ a0 a1 a2 a3 k, LeO (entrepotlaw21_PackBack.f k a0 a1 a2 a3) (entrepotlaw21_PackBack.f (k + 1) a0 a1 a2 a3) := by
  intro a0 a1 a2 a3 k
  obtain ⟨ih0, ih1, ih2, ih3⟩ := entrepotlaw21_PackBack.mono_l k
  unfold entrepotlaw21_PackBack.f
  repeat' first
      | (with_reducible exact ih0 _ _ _ _ _)
      | (with_reducible exact ih1 _ _ _ _ _)
      | (with_reducible exact ih2 _ _ _ _ _ _)
      | (with_reducible exact ih3 _ _ _ _)
      | (with_reducible exact entrepotlaw21_shown.mono _)
      | (with_reducible exact pack_PutInt.mono _ _)
      | (with_reducible exact pack_PutText.mono _ _)
      | (with_reducible exact pack_PutUint.mono _ _)
      | (with_reducible exact LeO.refl _)
      | (with_reducible exact LeO.none _)
      | (with_reducible refine LeO.ite ?_ ?_)
      | (with_reducible refine LeO.bind ?_ (fun _ => ?_))
      | exact ih0 _ _ _ _ _
      | exact ih1 _ _ _ _ _
      | exact ih2 _ _ _ _ _ _
      | exact ih3 _ _ _ _
      | exact entrepotlaw21_shown.mono _
      | exact pack_PutInt.mono _ _
      | exact pack_PutText.mono _ _
      | exact pack_PutUint.mono _ _
      | exact LeO.none _
      | refine LeO.ite ?_ ?_
      | refine LeO.bind ?_ (fun _ => ?_)
set_option maxHeartbeats 8000000 in
set_option maxRecDepth 100000 in
theorem entrepotlaw21_PackBack.calls (k : Nat) (a0 : Int) (a1 : ByteArray) (a2 : ByteArray) (a3 : ByteArray) (r : Bool) (w : World) (HT : Tab w) (h : entrepotlaw21_PackBack.f k a0 a1 a2 a3 = some r) :
    Calls Tryd.prog 7 #[.int .i64 a0, .string a1, .string a2, .string a3] w fun e w' => e = .returned (.bool r) ∧ Below w.heap.size w w' := by
  have HB := Aside0.mk (Below.refl w.heap.size w)
  have H : (if (a1.size : Int) > 300 then (entrepotlaw21_PackBack.j0 k a0 a1 a2 a3 true) else (if (a2.size : Int) > 50 then (entrepotlaw21_PackBack.j0 k a0 a1 a2 a3 true) else (if (a3.size : Int) > 50 then (entrepotlaw21_PackBack.j0 k a0 a1 a2 a3 true) else ((entrepotlaw21_shown.f k).bind fun t205 => (entrepotlaw21_PackBack.j0 k a0 a1 a2 a3 (!t205)))))) = some r := h
  clear h
  have HC5 := Aside0.mk H
  clear H
  go_enter Tryd.func7, Tryd.ntmps7
  go_upto_region 1 with (fail)
  go_cut [40] (fun v40 wc => ∃ (kq : Nat) (x40_4 : Bool), v40 = .bool x40_4 ∧ Aside0 (entrepotlaw21_PackBack.j0 kq a0 a1 a2 a3 x40_4 = some r) ∧ Aside0 (kq ≤ k) ∧ Aside0 (Below w.heap.size w wc))
  case first =>
    have H := HC5.out
    clear HC5
    by_cases c6 : (a1.size : Int) > 300
    · rw [if_pos c6] at H
      have c6b0 : decide (300 < (a1.size : Int)) = true := decide_eq_true c6
      have c6b1 : decide (300 < a1.size) = true := decide_eq_true (by omega)
      clear c6
      (first | rw [c6b0] | (simp only [i64_w, i32_w]; rw [c6b0]) | skip)
      have H' := Aside0.mk H
      clear H
      go_wp2
      go_meet
      case rel => exact ⟨_, (true), (by first | rfl | (simp; done) | (simp [*]; done)), H', ⟨by first | omega | exact Nat.le_refl _⟩, ⟨by repeat (first | (with_reducible first | exact HB.out | apply below_alloc | apply pw_below_drewN | apply below_drew1) | exact HB.out)⟩⟩
    · rw [if_neg c6] at H
      have c6b0 : decide (300 < (a1.size : Int)) = false := decide_eq_false c6
      have c6b1 : decide (300 < a1.size) = false := decide_eq_false (by omega)
      clear c6
      (first | rw [c6b0] | (simp only [i64_w, i32_w]; rw [c6b0]) | skip)
      by_cases c7 : (a2.size : Int) > 50
      · rw [if_pos c7] at H
        have c7b0 : decide (50 < (a2.size : Int)) = true := decide_eq_true c7
        have c7b1 : decide (50 < a2.size) = true := decide_eq_true (by omega)
        clear c7
        have H' := Aside0.mk H
        clear H
        go_wp2
        go_meet
        case rel => exact ⟨_, (true), (by first | rfl | (simp; done) | (simp [*]; done)), H', ⟨by first | omega | exact Nat.le_refl _⟩, ⟨by repeat (first | (with_reducible first | exact HB.out | apply below_alloc | apply pw_below_drewN | apply below_drew1) | exact HB.out)⟩⟩
      · rw [if_neg c7] at H
        have c7b0 : decide (50 < (a2.size : Int)) = false := decide_eq_false c7
        have c7b1 : decide (50 < a2.size) = false := decide_eq_false (by omega)
        clear c7
        by_cases c8 : (a3.size : Int) > 50
        · rw [if_pos c8] at H
          have c8b0 : decide (50 < (a3.size : Int)) = true := decide_eq_true c8
          have c8b1 : decide (50 < a3.size) = true := decide_eq_true (by omega)
          clear c8
          have H' := Aside0.mk H
          clear H
          go_wp2
          go_meet
          case rel => exact ⟨_, (true), (by first | rfl | (simp; done) | (simp [*]; done)), H', ⟨by first | omega | exact Nat.le_refl _⟩, ⟨by repeat (first | (with_reducible first | exact HB.out | apply below_alloc | apply pw_below_drewN | apply below_drew1) | exact HB.out)⟩⟩
        · rw [if_neg c8] at H
          have c8b0 : decide (50 < (a3.size : Int)) = false := decide_eq_false c8
          have c8b1 : decide (50 < a3.size) = false := decide_eq_false (by omega)
          clear c8
          replace H := Option.bind_eq_some_iff.mp H
          obtain ⟨t205, A90, H⟩ := H
          replace H : (entrepotlaw21_PackBack.j0 k a0 a1 a2 a3 (!t205)) = some r := H
          have A9 := Aside0.mk A90
          clear A90
          have H' := Aside0.mk H
          clear H
          go_wp2_with (first | (go_at_call 8; (with_reducible refine (entrepotlaw21_shown.calls k  t205 _ (Tab.below HT (by repeat (first | (with_reducible first | exact HB.out | apply below_alloc | apply pw_below_drewN | apply below_drew1) | exact HB.out))) A9.out).mono ?_); rintro e w10 ⟨rfl, hb⟩; have n0_ := Aside0.mk (below_step (by repeat (first | (with_reducible first | exact HB.out | apply below_alloc | apply pw_below_drewN | apply below_drew1) | exact HB.out)) hb); clear HB; have HB := n0_; clear n0_; (try clear hb); (try clear hb2); (try clear hk); (try clear hi)))
          go_meet
          case rel => exact ⟨_, (!t205), (by first | rfl | (simp; done) | (simp [*]; done)), H', ⟨by first | omega | exact Nat.le_refl _⟩, ⟨by repeat (first | (with_reducible first | exact HB.out | apply below_alloc | apply pw_below_drewN | apply below_drew1) | exact HB.out)⟩⟩
  case rest =>
    clear HC5
    try clear p2
    try clear c6
    try clear c6b0
    try clear c6b1
    try clear c7
    try clear c7b0
    try clear c7b1
    try clear c8
    try clear c8b0
    try clear c8b1
    obtain ⟨kq, x40_4, rfl, HA, HJ4, HB⟩ := hcut
    cases kq with
    | zero => exact absurd HA.out (by simp [entrepotlaw21_PackBack.j0])
    | succ kj4 =>
      have H := HA.out
      clear HA
      simp only [entrepotlaw21_PackBack.j0] at H
      by_cases c11 : x40_4 = true
      · subst c11
        have H1 : ((entrepotlaw21_shown.f kj4).bind fun t206 => (some t206)) = some r := by rw [if_pos rfl] at H; exact H
        clear H
        have H := H1
        clear H1
        replace H := Option.bind_eq_some_iff.mp H
        obtain ⟨t206, A120, H⟩ := H
        replace H : (some t206) = some r := H
        have A12 := Aside0.mk A120
        clear A120
        obtain rfl := Option.some.inj H
        go_wp2_with (first | ((with_reducible refine gate_callee (f := 8) rfl ?_); refine goesL_ (some 41) rfl rfl Tryd.func8 (by kernel_rfl) rfl #[] rfl (by (try simp only [List.map_toArray, List.map_cons, List.map_nil]); first | done | rfl | (simp only [List.length_drop, List.length_take]; rfl)) ?_; (with_reducible refine (entrepotlaw21_shown.calls kj4  t206 _ (Tab.below HT (by repeat (first | (with_reducible first | exact HB.out | apply below_alloc | apply pw_below_drewN | apply below_drew1) | exact HB.out))) A12.out).mono ?_); rintro e w13 ⟨rfl, hb⟩; refine ⟨_, rfl, ?_⟩; have n0_ := Aside0.mk (below_step (by repeat (first | (with_reducible first | exact HB.out | apply below_alloc | apply pw_below_drewN | apply below_drew1) | exact HB.out)) hb); clear HB; have HB := n0_; clear n0_; (try clear hb); (try clear hb2); (try clear hk); (try clear hi)))
        go_ret
        exact ⟨by first | rfl | (simp [errW_none, errW_some] <;> rfl) | (simp [*, errW_none, errW_some] <;> rfl), by repeat (first | (with_reducible first | exact HB.out | apply below_alloc | apply pw_below_drewN | apply below_drew1) | exact HB.out)⟩
      · replace c11 := Bool.eq_false_iff.mpr c11
        subst c11
        have H1 : (if a0 ≥ 0 then ((pack_PutUint.f kj4 a0).bind fun t207 => (if a2.size + t207.size ≤ 9223372036854775807 then (if (a2 ++ t207).size + a3.size ≤ 9223372036854775807 then ((pack_GetUint.f ((a2 ++ t207) ++ a3) (a2.size : Int)).bind fun bt208 => (if bt208.1 = a0 then (if bt208.2.1 = (wrap64 ((((a2 ++ t207) ++ a3).size : Int) - (a3.size : Int))) then (if bt208.2.2 = 0 then (entrepotlaw21_PackBack.j1 kj4 a0 a1 a2 a3 (a2.size : Int)) else (some false)) else (some false)) else (some false))) else (none)) else (none))) else (entrepotlaw21_PackBack.j1 kj4 a0 a1 a2 a3 (a2.size : Int))) = some r := by rw [if_neg (show ¬ (false = true) by decide)] at H; exact H
        clear H
        have H := H1
        clear H1
        have HC14 := Aside0.mk H
        clear H
        go_upto_if 45 with (fail)
        go_cut [] (fun wc => ∃ (kq : Nat), Aside0 (entrepotlaw21_PackBack.j1 kq a0 a1 a2 a3 (a2.size : Int) = some r) ∧ Aside0 (kq ≤ kj4) ∧ Aside0 (Below w.heap.size w wc))
        case first =>
          have H := HC14.out
          clear HC14
          by_cases c15 : a0 ≥ 0
          · rw [if_pos c15] at H
            have c15b0 : decide (0 ≤ a0) = true := decide_eq_true c15
            clear c15
            (first | rw [c15b0] | (simp only [i64_w, i32_w]; rw [c15b0]) | skip)
            replace H := Option.bind_eq_some_iff.mp H
            obtain ⟨t207, A160, H⟩ := H
            replace H : (if a2.size + t207.size ≤ 9223372036854775807 then (if (a2 ++ t207).size + a3.size ≤ 9223372036854775807 then ((pack_GetUint.f ((a2 ++ t207) ++ a3) (a2.size : Int)).bind fun bt208 => (if bt208.1 = a0 then (if bt208.2.1 = (wrap64 ((((a2 ++ t207) ++ a3).size : Int) - (a3.size : Int))) then (if bt208.2.2 = 0 then (entrepotlaw21_PackBack.j1 kj4 a0 a1 a2 a3 (a2.size : Int)) else (some false)) else (some false)) else (some false))) else (none)) else (none)) = some r := H
            have A16 := Aside0.mk A160
            clear A160
            by_cases c17 : a2.size + t207.size ≤ 9223372036854775807
            · rw [if_pos c17] at H
              have c17b0 := eq_true c17
              have c17b1 : decide (a2.size + t207.size ≤ 9223372036854775807) = true := decide_eq_true c17
              try have c17b2 : (9223372036854775807 < a2.size + t207.size) = False := eq_false (Nat.not_lt.2 c17)
              by_cases c18 : (a2 ++ t207).size + a3.size ≤ 9223372036854775807
              · rw [if_pos c18] at H
                have c18b0 := eq_true c18
                have c18b1 : decide ((a2 ++ t207).size + a3.size ≤ 9223372036854775807) = true := decide_eq_true c18
                try have c18b2 : (9223372036854775807 < (a2 ++ t207).size + a3.size) = False := eq_false (Nat.not_lt.2 c18)
                replace H := Option.bind_eq_some_iff.mp H
                obtain ⟨⟨t208, t209, t210⟩, A190, H⟩ := H
                replace H : (if t208 = a0 then (if t209 = (wrap64 ((((a2 ++ t207) ++ a3).size : Int) - (a3.size : Int))) then (if t210 = 0 then (entrepotlaw21_PackBack.j1 kj4 a0 a1 a2 a3 (a2.size : Int)) else (some false)) else (some false)) else (some false)) = some r := H
                have A19 := Aside0.mk A190
                clear A190
                by_cases c20 : t208 = a0
                · rw [if_pos c20] at H
                  have c20b0 : (t208 == a0) = true := beq_iff_eq.mpr c20
                  have c20b1 : (t208 != a0) = false := bne_eq_false_iff_eq.mpr c20
                  clear c20
                  by_cases c21 : t209 = (wrap64 ((((a2 ++ t207) ++ a3).size : Int) - (a3.size : Int)))
                  · rw [if_pos c21] at H
                    have c21b0 : (t209 == (wrap64 ((((a2 ++ t207) ++ a3).size : Int) - (a3.size : Int)))) = true := beq_iff_eq.mpr c21
                    have c21b1 : (t209 != (wrap64 ((((a2 ++ t207) ++ a3).size : Int) - (a3.size : Int)))) = false := bne_eq_false_iff_eq.mpr c21
                    rw [sz_eq a2 t207 a3 (of_eq_true (by assumption))] at c21b0 c21b1
                    clear c21
                    by_cases c22 : t210 = 0
                    · rw [if_pos c22] at H
                      have c22b0 : (t210 == 0) = true := beq_iff_eq.mpr c22
                      have c22b1 : (t210 != 0) = false := bne_eq_false_iff_eq.mpr c22
                      clear c22
                      have H' := Aside0.mk H
                      clear H
                      go_wp2_with (first | ((with_reducible refine gate_callee (f := 9) rfl ?_); refine goesL_ (some 48) rfl rfl Tryd.func9 (by kernel_rfl) rfl #[.int .i64 a0] rfl (by (try simp only [List.map_toArray, List.map_cons, List.map_nil]); first | done | rfl | (simp only [List.length_drop, List.length_take]; rfl)) ?_; (with_reducible refine (pack_PutUint.calls kj4 a0 t207 _ A16.out).mono ?_); rintro e w23 ⟨rfl, hb⟩; refine ⟨_, rfl, ?_⟩; have n0_ := Aside0.mk (below_step (by repeat (first | (with_reducible first | exact HB.out | apply below_alloc | apply pw_below_drewN | apply below_drew1) | exact HB.out)) hb); clear HB; have HB := n0_; clear n0_; (try clear hb); (try clear hb2); (try clear hk); (try clear hi)) | ((with_reducible refine gate_callee (f := 11) rfl ?_); refine goesL_ (some 55) rfl rfl Tryd.func11 (by kernel_rfl) rfl #[.string ((a2 ++ t207) ++ a3), .int .i64 (a2.size : Int)] rfl (by (try simp only [List.map_toArray, List.map_cons, List.map_nil]); first | done | rfl | (simp only [List.length_drop, List.length_take]; rfl)) ?_; (with_reducible refine (pack_GetUint.calls ((a2 ++ t207) ++ a3) (a2.size : Int) t208 t209 t210 _ A19.out).mono ?_); rintro e w24 ⟨rfl, hb⟩; refine ⟨_, rfl, ?_⟩; have n0_ := Aside0.mk (below_step (by repeat (first | (with_reducible first | exact HB.out | apply below_alloc | apply pw_below_drewN | apply below_drew1) | exact HB.out)) hb); clear HB; have HB := n0_; clear n0_; (try clear hb); (try clear hb2); (try clear hk); (try clear hi)))
                      go_meet
                      case rel => exact ⟨_, H', ⟨by have := HJ4.out; first | omega | exact Nat.le_refl _⟩, ⟨by repeat (first | (with_reducible first | exact HB.out | apply below_alloc | apply pw_below_drewN | apply below_drew1) | exact HB.out)⟩⟩
                    · rw [if_neg c22] at H
                      have c22b0 : (t210 == 0) = false := beq_eq_false_iff_ne.mpr c22
                      have c22b1 : (t210 != 0) = true := bne_iff_ne.mpr c22
                      obtain rfl := Option.some.inj H
                      go_wp2_with (first | ((with_reducible refine gate_callee (f := 9) rfl ?_); refine goesL_ (some 48) rfl rfl Tryd.func9 (by kernel_rfl) rfl #[.int .i64 a0] rfl (by (try simp only [List.map_toArray, List.map_cons, List.map_nil]); first | done | rfl | (simp only [List.length_drop, List.length_take]; rfl)) ?_; (with_reducible refine (pack_PutUint.calls kj4 a0 t207 _ A16.out).mono ?_); rintro e w25 ⟨rfl, hb⟩; refine ⟨_, rfl, ?_⟩; have n0_ := Aside0.mk (below_step (by repeat (first | (with_reducible first | exact HB.out | apply below_alloc | apply pw_below_drewN | apply below_drew1) | exact HB.out)) hb); clear HB; have HB := n0_; clear n0_; (try clear hb); (try clear hb2); (try clear hk); (try clear hi)) | ((with_reducible refine gate_callee (f := 11) rfl ?_); refine goesL_ (some 55) rfl rfl Tryd.func11 (by kernel_rfl) rfl #[.string ((a2 ++ t207) ++ a3), .int .i64 (a2.size : Int)] rfl (by (try simp only [List.map_toArray, List.map_cons, List.map_nil]); first | done | rfl | (simp only [List.length_drop, List.length_take]; rfl)) ?_; (with_reducible refine (pack_GetUint.calls ((a2 ++ t207) ++ a3) (a2.size : Int) t208 t209 t210 _ A19.out).mono ?_); rintro e w26 ⟨rfl, hb⟩; refine ⟨_, rfl, ?_⟩; have n0_ := Aside0.mk (below_step (by repeat (first | (with_reducible first | exact HB.out | apply below_alloc | apply pw_below_drewN | apply below_drew1) | exact HB.out)) hb); clear HB; have HB := n0_; clear n0_; (try clear hb); (try clear hb2); (try clear hk); (try clear hi)))
                      go_ret
                      exact ⟨by first | rfl | (simp [errW_none, errW_some] <;> rfl) | (simp [*, errW_none, errW_some] <;> rfl), by repeat (first | (with_reducible first | exact HB.out | apply below_alloc | apply pw_below_drewN | apply below_drew1) | exact HB.out)⟩
                  · rw [if_neg c21] at H
                    have c21b0 : (t209 == (wrap64 ((((a2 ++ t207) ++ a3).size : Int) - (a3.size : Int)))) = false := beq_eq_false_iff_ne.mpr c21
                    have c21b1 : (t209 != (wrap64 ((((a2 ++ t207) ++ a3).size : Int) - (a3.size : Int)))) = true := bne_iff_ne.mpr c21
                    rw [sz_eq a2 t207 a3 (of_eq_true (by assumption))] at c21b0 c21b1
                    obtain rfl := Option.some.inj H
                    go_wp2_with (first | ((with_reducible refine gate_callee (f := 9) rfl ?_); refine goesL_ (some 48) rfl rfl Tryd.func9 (by kernel_rfl) rfl #[.int .i64 a0] rfl (by (try simp only [List.map_toArray, List.map_cons, List.map_nil]); first | done | rfl | (simp only [List.length_drop, List.length_take]; rfl)) ?_; (with_reducible refine (pack_PutUint.calls kj4 a0 t207 _ A16.out).mono ?_); rintro e w27 ⟨rfl, hb⟩; refine ⟨_, rfl, ?_⟩; have n0_ := Aside0.mk (below_step (by repeat (first | (with_reducible first | exact HB.out | apply below_alloc | apply pw_below_drewN | apply below_drew1) | exact HB.out)) hb); clear HB; have HB := n0_; clear n0_; (try clear hb); (try clear hb2); (try clear hk); (try clear hi)) | ((with_reducible refine gate_callee (f := 11) rfl ?_); refine goesL_ (some 55) rfl rfl Tryd.func11 (by kernel_rfl) rfl #[.string ((a2 ++ t207) ++ a3), .int .i64 (a2.size : Int)] rfl (by (try simp only [List.map_toArray, List.map_cons, List.map_nil]); first | done | rfl | (simp only [List.length_drop, List.length_take]; rfl)) ?_; (with_reducible refine (pack_GetUint.calls ((a2 ++ t207) ++ a3) (a2.size : Int) t208 t209 t210 _ A19.out).mono ?_); rintro e w28 ⟨rfl, hb⟩; refine ⟨_, rfl, ?_⟩; have n0_ := Aside0.mk (below_step (by repeat (first | (with_reducible first | exact HB.out | apply below_alloc | apply pw_below_drewN | apply below_drew1) | exact HB.out)) hb); clear HB; have HB := n0_; clear n0_; (try clear hb); (try clear hb2); (try clear hk); (try clear hi)))
                    go_ret
                    exact ⟨by first | rfl | (simp [errW_none, errW_some] <;> rfl) | (simp [*, errW_none, errW_some] <;> rfl), by repeat (first | (with_reducible first | exact HB.out | apply below_alloc | apply pw_below_drewN | apply below_drew1) | exact HB.out)⟩
                · rw [if_neg c20] at H
                  have c20b0 : (t208 == a0) = false := beq_eq_false_iff_ne.mpr c20
                  have c20b1 : (t208 != a0) = true := bne_iff_ne.mpr c20
                  obtain rfl := Option.some.inj H
                  go_wp2_with (first | ((with_reducible refine gate_callee (f := 9) rfl ?_); refine goesL_ (some 48) rfl rfl Tryd.func9 (by kernel_rfl) rfl #[.int .i64 a0] rfl (by (try simp only [List.map_toArray, List.map_cons, List.map_nil]); first | done | rfl | (simp only [List.length_drop, List.length_take]; rfl)) ?_; (with_reducible refine (pack_PutUint.calls kj4 a0 t207 _ A16.out).mono ?_); rintro e w29 ⟨rfl, hb⟩; refine ⟨_, rfl, ?_⟩; have n0_ := Aside0.mk (below_step (by repeat (first | (with_reducible first | exact HB.out | apply below_alloc | apply pw_below_drewN | apply below_drew1) | exact HB.out)) hb); clear HB; have HB := n0_; clear n0_; (try clear hb); (try clear hb2); (try clear hk); (try clear hi)) | ((with_reducible refine gate_callee (f := 11) rfl ?_); refine goesL_ (some 55) rfl rfl Tryd.func11 (by kernel_rfl) rfl #[.string ((a2 ++ t207) ++ a3), .int .i64 (a2.size : Int)] rfl (by (try simp only [List.map_toArray, List.map_cons, List.map_nil]); first | done | rfl | (simp only [List.length_drop, List.length_take]; rfl)) ?_; (with_reducible refine (pack_GetUint.calls ((a2 ++ t207) ++ a3) (a2.size : Int) t208 t209 t210 _ A19.out).mono ?_); rintro e w30 ⟨rfl, hb⟩; refine ⟨_, rfl, ?_⟩; have n0_ := Aside0.mk (below_step (by repeat (first | (with_reducible first | exact HB.out | apply below_alloc | apply pw_below_drewN | apply below_drew1) | exact HB.out)) hb); clear HB; have HB := n0_; clear n0_; (try clear hb); (try clear hb2); (try clear hk); (try clear hi)))
                  go_ret
                  exact ⟨by first | rfl | (simp [errW_none, errW_some] <;> rfl) | (simp [*, errW_none, errW_some] <;> rfl), by repeat (first | (with_reducible first | exact HB.out | apply below_alloc | apply pw_below_drewN | apply below_drew1) | exact HB.out)⟩
              · rw [if_neg c18] at H
                exact absurd H (by simp)
            · rw [if_neg c17] at H
              exact absurd H (by simp)
          · rw [if_neg c15] at H
            have c15b0 : decide (0 ≤ a0) = false := decide_eq_false c15
            clear c15
            (first | rw [c15b0] | (simp only [i64_w, i32_w]; rw [c15b0]) | skip)
            have H' := Aside0.mk H
            clear H
            go_wp2
            go_meet
            case rel => exact ⟨_, H', ⟨by have := HJ4.out; first | omega | exact Nat.le_refl _⟩, ⟨by repeat (first | (with_reducible first | exact HB.out | apply below_alloc | apply pw_below_drewN | apply below_drew1) | exact HB.out)⟩⟩
        case rest =>
          clear HC14
          try clear c1
          try clear c2
          try clear p2
          try clear c6
          try clear c6b0
          try clear c6b1
          try clear p6
          try clear c7
          try clear c7b0
          try clear c7b1
          try clear c8
          try clear c8b0
          try clear c8b1
          try clear c9
          try clear c11
          try clear c15
          try clear c15b0
          try clear c17
          try clear c17b0
          try clear c17b1
          try clear c17b2
          try clear c18
          try clear c18b0
          try clear c18b1
          try clear c18b2
          try clear c20
          try clear c20b0
          try clear c20b1
          try clear c21
          try clear c21b0
          try clear c21b1
          try clear c22
          try clear c22b0
          try clear c22b1
          try clear p2
          obtain ⟨kq, HA, HJ13, HB⟩ := hcut
          cases kq with
          | zero => exact absurd HA.out (by simp [entrepotlaw21_PackBack.j1])
          | succ kj13 =>
            have H := HA.out
            clear HA
            simp only [entrepotlaw21_PackBack.j1] at H
            have HC31 := Aside0.mk H
            clear H
            go_upto_region 9 with (fail)
            go_cut [80] (fun v80 wc => ∃ (kq : Nat) (x80_30 : Bool), v80 = .bool x80_30 ∧ Aside0 (entrepotlaw21_PackBack.j2 kq a0 a1 a2 a3 (a2.size : Int) x80_30 = some r) ∧ Aside0 (kq ≤ kj13) ∧ Aside0 (Below w.heap.size w wc))
            case first =>
              have H := HC31.out
              clear HC31
              by_cases c32 : a0 ≥ (-2305843009213693952)
              · rw [if_pos c32] at H
                have c32b0 : decide ((-2305843009213693952) ≤ a0) = true := decide_eq_true c32
                clear c32
                (first | rw [c32b0] | (simp only [i64_w, i32_w]; rw [c32b0]) | skip)
                have H' := Aside0.mk H
                clear H
                go_wp2
                go_meet
                case rel => exact ⟨_, (decide (a0 ≤ 2305843009213693951)), (by first | rfl | (simp; done) | (simp [*]; done)), H', ⟨by have := HJ4.out; have := HJ13.out; first | omega | exact Nat.le_refl _⟩, ⟨by repeat (first | (with_reducible first | exact HB.out | apply below_alloc | apply pw_below_drewN | apply below_drew1) | exact HB.out)⟩⟩
              · rw [if_neg c32] at H
                have c32b0 : decide ((-2305843009213693952) ≤ a0) = false := decide_eq_false c32
                clear c32
                (first | rw [c32b0] | (simp only [i64_w, i32_w]; rw [c32b0]) | skip)
                have H' := Aside0.mk H
                clear H
                go_wp2
                go_meet
                case rel => exact ⟨_, (false), (by first | rfl | (simp; done) | (simp [*]; done)), H', ⟨by have := HJ4.out; have := HJ13.out; first | omega | exact Nat.le_refl _⟩, ⟨by repeat (first | (with_reducible first | exact HB.out | apply below_alloc | apply pw_below_drewN | apply below_drew1) | exact HB.out)⟩⟩
            case rest =>
              clear HC31
              try clear c1
              try clear c2
              try clear p2
              try clear c3
              try clear c6
              try clear c6b0
              try clear c6b1
              try clear p6
              try clear c7
              try clear c7b0
              try clear c7b1
              try clear c8
              try clear c8b0
              try clear c8b1
              try clear c9
              try clear c11
              try clear c15
              try clear c15b0
              try clear c17
              try clear c17b0
              try clear c17b1
              try clear c17b2
              try clear c18
              try clear c18b0
              try clear c18b1
              try clear c18b2
              try clear c20
              try clear c20b0
              try clear c20b1
              try clear c21
              try clear c21b0
              try clear c21b1
              try clear c22
              try clear c22b0
              try clear c22b1
              try clear c32
              try clear c32b0
              try clear p2
              try clear p6
              obtain ⟨kq, x80_30, rfl, HA, HJ30, HB⟩ := hcut
              cases kq with
              | zero => exact absurd HA.out (by simp [entrepotlaw21_PackBack.j2])
              | succ kj30 =>
                have H := HA.out
                clear HA
                simp only [entrepotlaw21_PackBack.j2] at H
                have HC33 := Aside0.mk H
                clear H
                go_upto_if 80 with (fail)
                go_cut [] (fun wc => ∃ (kq : Nat), Aside0 (entrepotlaw21_PackBack.j3 kq a1 a2 a3 (a2.size : Int) = some r) ∧ Aside0 (kq ≤ kj30) ∧ Aside0 (Below w.heap.size w wc))
                case first =>
                  have H := HC33.out
                  clear HC33
                  by_cases c34 : x80_30 = true
                  · subst c34
                    have H1 : ((pack_PutInt.f kj30 a0).bind fun t211 => (if a2.size + t211.size ≤ 9223372036854775807 then (if (a2 ++ t211).size + a3.size ≤ 9223372036854775807 then ((pack_GetInt.f ((a2 ++ t211) ++ a3) (a2.size : Int)).bind fun bt212 => (if bt212.1 = a0 then (if bt212.2.1 = (wrap64 ((((a2 ++ t211) ++ a3).size : Int) - (a3.size : Int))) then (if bt212.2.2 = 0 then (entrepotlaw21_PackBack.j3 kj30 a1 a2 a3 (a2.size : Int)) else (some false)) else (some false)) else (some false))) else (none)) else (none))) = some r := by rw [if_pos rfl] at H; exact H
                    clear H
                    have H := H1
                    clear H1
                    replace H := Option.bind_eq_some_iff.mp H
                    obtain ⟨t211, A350, H⟩ := H
                    replace H : (if a2.size + t211.size ≤ 9223372036854775807 then (if (a2 ++ t211).size + a3.size ≤ 9223372036854775807 then ((pack_GetInt.f ((a2 ++ t211) ++ a3) (a2.size : Int)).bind fun bt212 => (if bt212.1 = a0 then (if bt212.2.1 = (wrap64 ((((a2 ++ t211) ++ a3).size : Int) - (a3.size : Int))) then (if bt212.2.2 = 0 then (entrepotlaw21_PackBack.j3 kj30 a1 a2 a3 (a2.size : Int)) else (some false)) else (some false)) else (some false))) else (none)) else (none)) = some r := H
                    have A35 := Aside0.mk A350
                    clear A350
                    by_cases c36 : a2.size + t211.size ≤ 9223372036854775807
                    · rw [if_pos c36] at H
                      have c36b0 := eq_true c36
                      have c36b1 : decide (a2.size + t211.size ≤ 9223372036854775807) = true := decide_eq_true c36
                      try have c36b2 : (9223372036854775807 < a2.size + t211.size) = False := eq_false (Nat.not_lt.2 c36)
                      by_cases c37 : (a2 ++ t211).size + a3.size ≤ 9223372036854775807
                      · rw [if_pos c37] at H
                        have c37b0 := eq_true c37
                        have c37b1 : decide ((a2 ++ t211).size + a3.size ≤ 9223372036854775807) = true := decide_eq_true c37
                        try have c37b2 : (9223372036854775807 < (a2 ++ t211).size + a3.size) = False := eq_false (Nat.not_lt.2 c37)
                        replace H := Option.bind_eq_some_iff.mp H
                        obtain ⟨⟨t212, t213, t214⟩, A380, H⟩ := H
                        replace H : (if t212 = a0 then (if t213 = (wrap64 ((((a2 ++ t211) ++ a3).size : Int) - (a3.size : Int))) then (if t214 = 0 then (entrepotlaw21_PackBack.j3 kj30 a1 a2 a3 (a2.size : Int)) else (some false)) else (some false)) else (some false)) = some r := H
                        have A38 := Aside0.mk A380
                        clear A380
                        by_cases c39 : t212 = a0
                        · rw [if_pos c39] at H
                          have c39b0 : (t212 == a0) = true := beq_iff_eq.mpr c39
                          have c39b1 : (t212 != a0) = false := bne_eq_false_iff_eq.mpr c39
                          clear c39
                          (first | rw [c39b0] | (simp only [i64_w, i32_w]; rw [c39b0]) | skip)
                          by_cases c40 : t213 = (wrap64 ((((a2 ++ t211) ++ a3).size : Int) - (a3.size : Int)))
                          · rw [if_pos c40] at H
                            have c40b0 : (t213 == (wrap64 ((((a2 ++ t211) ++ a3).size : Int) - (a3.size : Int)))) = true := beq_iff_eq.mpr c40
                            have c40b1 : (t213 != (wrap64 ((((a2 ++ t211) ++ a3).size : Int) - (a3.size : Int)))) = false := bne_eq_false_iff_eq.mpr c40
                            rw [sz_eq a2 t211 a3 (of_eq_true (by assumption))] at c40b0 c40b1
                            clear c40
                            by_cases c41 : t214 = 0
                            · rw [if_pos c41] at H
                              have c41b0 : (t214 == 0) = true := beq_iff_eq.mpr c41
                              have c41b1 : (t214 != 0) = false := bne_eq_false_iff_eq.mpr c41
                              clear c41
                              have H' := Aside0.mk H
                              clear H
                              go_wp2_with (first | ((with_reducible refine gate_callee (f := 17) rfl ?_); refine goesL_ (some 83) rfl rfl Tryd.func17 (by kernel_rfl) rfl #[.int .i64 a0] rfl (by (try simp only [List.map_toArray, List.map_cons, List.map_nil]); first | done | rfl | (simp only [List.length_drop, List.length_take]; rfl)) ?_; (with_reducible refine (pack_PutInt.calls kj30 a0 t211 _ A35.out).mono ?_); rintro e w42 ⟨rfl, hb⟩; refine ⟨_, rfl, ?_⟩; have n0_ := Aside0.mk (below_step (by repeat (first | (with_reducible first | exact HB.out | apply below_alloc | apply pw_below_drewN | apply below_drew1) | exact HB.out)) hb); clear HB; have HB := n0_; clear n0_; (try clear hb); (try clear hb2); (try clear hk); (try clear hi)) | ((with_reducible refine gate_callee (f := 14) rfl ?_); refine goesL_ (some 90) rfl rfl Tryd.func14 (by kernel_rfl) rfl #[.string ((a2 ++ t211) ++ a3), .int .i64 (a2.size : Int)] rfl (by (try simp only [List.map_toArray, List.map_cons, List.map_nil]); first | done | rfl | (simp only [List.length_drop, List.length_take]; rfl)) ?_; (with_reducible refine (pack_GetInt.calls ((a2 ++ t211) ++ a3) (a2.size : Int) t212 t213 t214 _ A38.out).mono ?_); rintro e w43 ⟨rfl, hb⟩; refine ⟨_, rfl, ?_⟩; have n0_ := Aside0.mk (below_step (by repeat (first | (with_reducible first | exact HB.out | apply below_alloc | apply pw_below_drewN | apply below_drew1) | exact HB.out)) hb); clear HB; have HB := n0_; clear n0_; (try clear hb); (try clear hb2); (try clear hk); (try clear hi)))
                              go_meet
                              case rel => exact ⟨_, H', ⟨by have := HJ4.out; have := HJ13.out; have := HJ30.out; first | omega | exact Nat.le_refl _⟩, ⟨by repeat (first | (with_reducible first | exact HB.out | apply below_alloc | apply pw_below_drewN | apply below_drew1) | exact HB.out)⟩⟩
                            · rw [if_neg c41] at H
                              have c41b0 : (t214 == 0) = false := beq_eq_false_iff_ne.mpr c41
                              have c41b1 : (t214 != 0) = true := bne_iff_ne.mpr c41
                              obtain rfl := Option.some.inj H
                              go_wp2_with (first | ((with_reducible refine gate_callee (f := 17) rfl ?_); refine goesL_ (some 83) rfl rfl Tryd.func17 (by kernel_rfl) rfl #[.int .i64 a0] rfl (by (try simp only [List.map_toArray, List.map_cons, List.map_nil]); first | done | rfl | (simp only [List.length_drop, List.length_take]; rfl)) ?_; (with_reducible refine (pack_PutInt.calls kj30 a0 t211 _ A35.out).mono ?_); rintro e w44 ⟨rfl, hb⟩; refine ⟨_, rfl, ?_⟩; have n0_ := Aside0.mk (below_step (by repeat (first | (with_reducible first | exact HB.out | apply below_alloc | apply pw_below_drewN | apply below_drew1) | exact HB.out)) hb); clear HB; have HB := n0_; clear n0_; (try clear hb); (try clear hb2); (try clear hk); (try clear hi)) | ((with_reducible refine gate_callee (f := 14) rfl ?_); refine goesL_ (some 90) rfl rfl Tryd.func14 (by kernel_rfl) rfl #[.string ((a2 ++ t211) ++ a3), .int .i64 (a2.size : Int)] rfl (by (try simp only [List.map_toArray, List.map_cons, List.map_nil]); first | done | rfl | (simp only [List.length_drop, List.length_take]; rfl)) ?_; (with_reducible refine (pack_GetInt.calls ((a2 ++ t211) ++ a3) (a2.size : Int) t212 t213 t214 _ A38.out).mono ?_); rintro e w45 ⟨rfl, hb⟩; refine ⟨_, rfl, ?_⟩; have n0_ := Aside0.mk (below_step (by repeat (first | (with_reducible first | exact HB.out | apply below_alloc | apply pw_below_drewN | apply below_drew1) | exact HB.out)) hb); clear HB; have HB := n0_; clear n0_; (try clear hb); (try clear hb2); (try clear hk); (try clear hi)))
                              go_ret
                              exact ⟨by first | rfl | (simp [errW_none, errW_some] <;> rfl) | (simp [*, errW_none, errW_some] <;> rfl), by repeat (first | (with_reducible first | exact HB.out | apply below_alloc | apply pw_below_drewN | apply below_drew1) | exact HB.out)⟩
                          · rw [if_neg c40] at H
                            have c40b0 : (t213 == (wrap64 ((((a2 ++ t211) ++ a3).size : Int) - (a3.size : Int)))) = false := beq_eq_false_iff_ne.mpr c40
                            have c40b1 : (t213 != (wrap64 ((((a2 ++ t211) ++ a3).size : Int) - (a3.size : Int)))) = true := bne_iff_ne.mpr c40
                            rw [sz_eq a2 t211 a3 (of_eq_true (by assumption))] at c40b0 c40b1
                            obtain rfl := Option.some.inj H
                            go_wp2_with (first | ((with_reducible refine gate_callee (f := 17) rfl ?_); refine goesL_ (some 83) rfl rfl Tryd.func17 (by kernel_rfl) rfl #[.int .i64 a0] rfl (by (try simp only [List.map_toArray, List.map_cons, List.map_nil]); first | done | rfl | (simp only [List.length_drop, List.length_take]; rfl)) ?_; (with_reducible refine (pack_PutInt.calls kj30 a0 t211 _ A35.out).mono ?_); rintro e w46 ⟨rfl, hb⟩; refine ⟨_, rfl, ?_⟩; have n0_ := Aside0.mk (below_step (by repeat (first | (with_reducible first | exact HB.out | apply below_alloc | apply pw_below_drewN | apply below_drew1) | exact HB.out)) hb); clear HB; have HB := n0_; clear n0_; (try clear hb); (try clear hb2); (try clear hk); (try clear hi)) | ((with_reducible refine gate_callee (f := 14) rfl ?_); refine goesL_ (some 90) rfl rfl Tryd.func14 (by kernel_rfl) rfl #[.string ((a2 ++ t211) ++ a3), .int .i64 (a2.size : Int)] rfl (by (try simp only [List.map_toArray, List.map_cons, List.map_nil]); first | done | rfl | (simp only [List.length_drop, List.length_take]; rfl)) ?_; (with_reducible refine (pack_GetInt.calls ((a2 ++ t211) ++ a3) (a2.size : Int) t212 t213 t214 _ A38.out).mono ?_); rintro e w47 ⟨rfl, hb⟩; refine ⟨_, rfl, ?_⟩; have n0_ := Aside0.mk (below_step (by repeat (first | (with_reducible first | exact HB.out | apply below_alloc | apply pw_below_drewN | apply below_drew1) | exact HB.out)) hb); clear HB; have HB := n0_; clear n0_; (try clear hb); (try clear hb2); (try clear hk); (try clear hi)))
                            go_ret
                            exact ⟨by first | rfl | (simp [errW_none, errW_some] <;> rfl) | (simp [*, errW_none, errW_some] <;> rfl), by repeat (first | (with_reducible first | exact HB.out | apply below_alloc | apply pw_below_drewN | apply below_drew1) | exact HB.out)⟩
                        · rw [if_neg c39] at H
                          have c39b0 : (t212 == a0) = false := beq_eq_false_iff_ne.mpr c39
                          have c39b1 : (t212 != a0) = true := bne_iff_ne.mpr c39
                          (first | rw [c39b0] | (simp only [i64_w, i32_w]; rw [c39b0]) | skip)
                          obtain rfl := Option.some.inj H
                          go_wp2_with (first | ((with_reducible refine gate_callee (f := 17) rfl ?_); refine goesL_ (some 83) rfl rfl Tryd.func17 (by kernel_rfl) rfl #[.int .i64 a0] rfl (by (try simp only [List.map_toArray, List.map_cons, List.map_nil]); first | done | rfl | (simp only [List.length_drop, List.length_take]; rfl)) ?_; (with_reducible refine (pack_PutInt.calls kj30 a0 t211 _ A35.out).mono ?_); rintro e w48 ⟨rfl, hb⟩; refine ⟨_, rfl, ?_⟩; have n0_ := Aside0.mk (below_step (by repeat (first | (with_reducible first | exact HB.out | apply below_alloc | apply pw_below_drewN | apply below_drew1) | exact HB.out)) hb); clear HB; have HB := n0_; clear n0_; (try clear hb); (try clear hb2); (try clear hk); (try clear hi)) | ((with_reducible refine gate_callee (f := 14) rfl ?_); refine goesL_ (some 90) rfl rfl Tryd.func14 (by kernel_rfl) rfl #[.string ((a2 ++ t211) ++ a3), .int .i64 (a2.size : Int)] rfl (by (try simp only [List.map_toArray, List.map_cons, List.map_nil]); first | done | rfl | (simp only [List.length_drop, List.length_take]; rfl)) ?_; (with_reducible refine (pack_GetInt.calls ((a2 ++ t211) ++ a3) (a2.size : Int) t212 t213 t214 _ A38.out).mono ?_); rintro e w49 ⟨rfl, hb⟩; refine ⟨_, rfl, ?_⟩; have n0_ := Aside0.mk (below_step (by repeat (first | (with_reducible first | exact HB.out | apply below_alloc | apply pw_below_drewN | apply below_drew1) | exact HB.out)) hb); clear HB; have HB := n0_; clear n0_; (try clear hb); (try clear hb2); (try clear hk); (try clear hi)))
                          go_ret
                          exact ⟨by first | rfl | (simp [errW_none, errW_some] <;> rfl) | (simp [*, errW_none, errW_some] <;> rfl), by repeat (first | (with_reducible first | exact HB.out | apply below_alloc | apply pw_below_drewN | apply below_drew1) | exact HB.out)⟩
                      · rw [if_neg c37] at H
                        exact absurd H (by simp)
                    · rw [if_neg c36] at H
                      exact absurd H (by simp)
                  · replace c34 := Bool.eq_false_iff.mpr c34
                    subst c34
                    have H1 : (entrepotlaw21_PackBack.j3 kj30 a1 a2 a3 (a2.size : Int)) = some r := by rw [if_neg (show ¬ (false = true) by decide)] at H; exact H
                    clear H
                    have H := H1
                    clear H1
                    have H' := Aside0.mk H
                    clear H
                    go_wp2
                    go_meet
                    case rel => exact ⟨_, H', ⟨by have := HJ4.out; have := HJ13.out; have := HJ30.out; first | omega | exact Nat.le_refl _⟩, ⟨by repeat (first | (with_reducible first | exact HB.out | apply below_alloc | apply pw_below_drewN | apply below_drew1) | exact HB.out)⟩⟩
                case rest =>
                  clear HC33
                  try clear c1
                  try clear c2
                  try clear p2
                  try clear c3
                  try clear c4
                  try clear c6
                  try clear c6b0
                  try clear c6b1
                  try clear p6
                  try clear c7
                  try clear c7b0
                  try clear c7b1
                  try clear c8
                  try clear c8b0
                  try clear c8b1
                  try clear c9
                  try clear c11
                  try clear c14
                  try clear c15
                  try clear c15b0
                  try clear c17
                  try clear c17b0
                  try clear c17b1
                  try clear c17b2
                  try clear c18
                  try clear c18b0
                  try clear c18b1
                  try clear c18b2
                  try clear c20
                  try clear c20b0
                  try clear c20b1
                  try clear c21
                  try clear c21b0
                  try clear c21b1
                  try clear c22
                  try clear c22b0
                  try clear c22b1
                  try clear c32
                  try clear c32b0
                  try clear c34
                  try clear c36
                  try clear c36b0
                  try clear c36b1
                  try clear c36b2
                  try clear c37
                  try clear c37b0
                  try clear c37b1
                  try clear c37b2
                  try clear c39
                  try clear c39b0
                  try clear c39b1
                  try clear c40
                  try clear c40b0
                  try clear c40b1
                  try clear c41
                  try clear c41b0
                  try clear c41b1
                  try clear p2
                  try clear p6
                  obtain ⟨kq, HA, HJ32, HB⟩ := hcut
                  cases kq with
                  | zero => exact absurd HA.out (by simp [entrepotlaw21_PackBack.j3])
                  | succ kj32 =>
                    have H := HA.out
                    clear HA
                    simp only [entrepotlaw21_PackBack.j3] at H
                    replace H := Option.bind_eq_some_iff.mp H
                    obtain ⟨t215, A500, H⟩ := H
                    replace H : (if a2.size + t215.size ≤ 9223372036854775807 then (if (a2 ++ t215).size + a3.size ≤ 9223372036854775807 then ((pack_GetText.f ((a2 ++ t215) ++ a3) (a2.size : Int)).bind fun bt216 => ((pack_Seal.f ((a2 ++ t215) ++ a3)).bind fun t219 => ((pack_Open.f t219).bind fun bt220 => (if bt216.1.toList = a1.toList then (if bt216.2.1 = (wrap64 ((((a2 ++ t215) ++ a3).size : Int) - (a3.size : Int))) then (if bt216.2.2 = 0 then (if bt220.1.toList = ((a2 ++ t215) ++ a3).toList then (some (bt220.2 == 0)) else (some false)) else (some false)) else (some false)) else (some false))))) else (none)) else (none)) = some r := H
                    have A50 := Aside0.mk A500
                    clear A500
                    by_cases c51 : a2.size + t215.size ≤ 9223372036854775807
                    · rw [if_pos c51] at H
                      have c51b0 := eq_true c51
                      have c51b1 : decide (a2.size + t215.size ≤ 9223372036854775807) = true := decide_eq_true c51
                      try have c51b2 : (9223372036854775807 < a2.size + t215.size) = False := eq_false (Nat.not_lt.2 c51)
                      by_cases c52 : (a2 ++ t215).size + a3.size ≤ 9223372036854775807
                      · rw [if_pos c52] at H
                        have c52b0 := eq_true c52
                        have c52b1 : decide ((a2 ++ t215).size + a3.size ≤ 9223372036854775807) = true := decide_eq_true c52
                        try have c52b2 : (9223372036854775807 < (a2 ++ t215).size + a3.size) = False := eq_false (Nat.not_lt.2 c52)
                        replace H := Option.bind_eq_some_iff.mp H
                        obtain ⟨⟨t216, t217, t218⟩, A530, H⟩ := H
                        replace H : ((pack_Seal.f ((a2 ++ t215) ++ a3)).bind fun t219 => ((pack_Open.f t219).bind fun bt220 => (if t216.toList = a1.toList then (if t217 = (wrap64 ((((a2 ++ t215) ++ a3).size : Int) - (a3.size : Int))) then (if t218 = 0 then (if bt220.1.toList = ((a2 ++ t215) ++ a3).toList then (some (bt220.2 == 0)) else (some false)) else (some false)) else (some false)) else (some false)))) = some r := H
                        have A53 := Aside0.mk A530
                        clear A530
                        replace H := Option.bind_eq_some_iff.mp H
                        obtain ⟨t219, A540, H⟩ := H
                        replace H : ((pack_Open.f t219).bind fun bt220 => (if t216.toList = a1.toList then (if t217 = (wrap64 ((((a2 ++ t215) ++ a3).size : Int) - (a3.size : Int))) then (if t218 = 0 then (if bt220.1.toList = ((a2 ++ t215) ++ a3).toList then (some (bt220.2 == 0)) else (some false)) else (some false)) else (some false)) else (some false))) = some r := H
                        have A54 := Aside0.mk A540
                        clear A540
                        replace H := Option.bind_eq_some_iff.mp H
                        obtain ⟨⟨t220, t221⟩, A550, H⟩ := H
                        replace H : (if t216.toList = a1.toList then (if t217 = (wrap64 ((((a2 ++ t215) ++ a3).size : Int) - (a3.size : Int))) then (if t218 = 0 then (if t220.toList = ((a2 ++ t215) ++ a3).toList then (some (t221 == 0)) else (some false)) else (some false)) else (some false)) else (some false)) = some r := H
                        have A55 := Aside0.mk A550
                        clear A550
                        by_cases c56 : t216.toList = a1.toList
                        · rw [if_pos c56] at H
                          have c56b0 : (t216.toList == a1.toList) = true := beq_iff_eq.mpr c56
                          have c56b1 : (t216.toList != a1.toList) = false := bne_eq_false_iff_eq.mpr c56
                          clear c56
                          by_cases c57 : t217 = (wrap64 ((((a2 ++ t215) ++ a3).size : Int) - (a3.size : Int)))
                          · rw [if_pos c57] at H
                            have c57b0 : (t217 == (wrap64 ((((a2 ++ t215) ++ a3).size : Int) - (a3.size : Int)))) = true := beq_iff_eq.mpr c57
                            have c57b1 : (t217 != (wrap64 ((((a2 ++ t215) ++ a3).size : Int) - (a3.size : Int)))) = false := bne_eq_false_iff_eq.mpr c57
                            rw [sz_eq a2 t215 a3 (of_eq_true (by assumption))] at c57b0 c57b1
                            clear c57
                            by_cases c58 : t218 = 0
                            · rw [if_pos c58] at H
                              have c58b0 : (t218 == 0) = true := beq_iff_eq.mpr c58
                              have c58b1 : (t218 != 0) = false := bne_eq_false_iff_eq.mpr c58
                              clear c58
                              by_cases c59 : t220.toList = ((a2 ++ t215) ++ a3).toList
                              · rw [if_pos c59] at H
                                have c59b0 : (t220.toList == ((a2 ++ t215) ++ a3).toList) = true := beq_iff_eq.mpr c59
                                have c59b1 : (t220.toList != ((a2 ++ t215) ++ a3).toList) = false := bne_eq_false_iff_eq.mpr c59
                                clear c59
                                obtain rfl := Option.some.inj H
                                go_wp2_with (first | ((with_reducible refine gate_callee (f := 10) rfl ?_); refine goesL_ (some 112) rfl rfl Tryd.func10 (by kernel_rfl) rfl #[.string a1] rfl (by (try simp only [List.map_toArray, List.map_cons, List.map_nil]); first | done | rfl | (simp only [List.length_drop, List.length_take]; rfl)) ?_; (with_reducible refine (pack_PutText.calls kj32 a1 t215 _ A50.out).mono ?_); rintro e w60 ⟨rfl, hb⟩; refine ⟨_, rfl, ?_⟩; have n0_ := Aside0.mk (below_step (by repeat (first | (with_reducible first | exact HB.out | apply below_alloc | apply pw_below_drewN | apply below_drew1) | exact HB.out)) hb); clear HB; have HB := n0_; clear n0_; (try clear hb); (try clear hb2); (try clear hk); (try clear hi)) | ((with_reducible refine gate_callee (f := 12) rfl ?_); refine goesL_ (some 119) rfl rfl Tryd.func12 (by kernel_rfl) rfl #[.string ((a2 ++ t215) ++ a3), .int .i64 (a2.size : Int)] rfl (by (try simp only [List.map_toArray, List.map_cons, List.map_nil]); first | done | rfl | (simp only [List.length_drop, List.length_take]; rfl)) ?_; (with_reducible refine (pack_GetText.calls ((a2 ++ t215) ++ a3) (a2.size : Int) t216 t217 t218 _ A53.out).mono ?_); rintro e w61 ⟨rfl, hb⟩; refine ⟨_, rfl, ?_⟩; have n0_ := Aside0.mk (below_step (by repeat (first | (with_reducible first | exact HB.out | apply below_alloc | apply pw_below_drewN | apply below_drew1) | exact HB.out)) hb); clear HB; have HB := n0_; clear n0_; (try clear hb); (try clear hb2); (try clear hk); (try clear hi)) | ((with_reducible refine gate_callee (f := 19) rfl ?_); refine goesL_ (some 125) rfl rfl Tryd.func19 (by kernel_rfl) rfl #[.string ((a2 ++ t215) ++ a3)] rfl (by (try simp only [List.map_toArray, List.map_cons, List.map_nil]); first | done | rfl | (simp only [List.length_drop, List.length_take]; rfl)) ?_; (with_reducible refine (pack_Seal.calls ((a2 ++ t215) ++ a3) t219 _ (Tab.below HT (by repeat (first | (with_reducible first | exact HB.out | apply below_alloc | apply pw_below_drewN | apply below_drew1) | exact HB.out))) A54.out).mono ?_); rintro e w62 ⟨rfl, hb⟩; refine ⟨_, rfl, ?_⟩; have n0_ := Aside0.mk (below_step (by repeat (first | (with_reducible first | exact HB.out | apply below_alloc | apply pw_below_drewN | apply below_drew1) | exact HB.out)) hb); clear HB; have HB := n0_; clear n0_; (try clear hb); (try clear hb2); (try clear hk); (try clear hi)) | ((with_reducible refine gate_callee (f := 20) rfl ?_); refine goesL_ (some 126) rfl rfl Tryd.func20 (by kernel_rfl) rfl #[.string t219] rfl (by (try simp only [List.map_toArray, List.map_cons, List.map_nil]); first | done | rfl | (simp only [List.length_drop, List.length_take]; rfl)) ?_; (with_reducible refine (pack_Open.calls t219 t220 t221 _ (Tab.below HT (by repeat (first | (with_reducible first | exact HB.out | apply below_alloc | apply pw_below_drewN | apply below_drew1) | exact HB.out))) A55.out).mono ?_); rintro e w63 ⟨rfl, hb⟩; refine ⟨_, rfl, ?_⟩; have n0_ := Aside0.mk (below_step (by repeat (first | (with_reducible first | exact HB.out | apply below_alloc | apply pw_below_drewN | apply below_drew1) | exact HB.out)) hb); clear HB; have HB := n0_; clear n0_; (try clear hb); (try clear hb2); (try clear hk); (try clear hi)))
                                go_ret
                                exact ⟨by first | rfl | (simp [errW_none, errW_some] <;> rfl) | (simp [*, errW_none, errW_some] <;> rfl), by repeat (first | (with_reducible first | exact HB.out | apply below_alloc | apply pw_below_drewN | apply below_drew1) | exact HB.out)⟩
                              · rw [if_neg c59] at H
                                have c59b0 : (t220.toList == ((a2 ++ t215) ++ a3).toList) = false := beq_eq_false_iff_ne.mpr c59
                                have c59b1 : (t220.toList != ((a2 ++ t215) ++ a3).toList) = true := bne_iff_ne.mpr c59
                                obtain rfl := Option.some.inj H
                                go_wp2_with (first | ((with_reducible refine gate_callee (f := 10) rfl ?_); refine goesL_ (some 112) rfl rfl Tryd.func10 (by kernel_rfl) rfl #[.string a1] rfl (by (try simp only [List.map_toArray, List.map_cons, List.map_nil]); first | done | rfl | (simp only [List.length_drop, List.length_take]; rfl)) ?_; (with_reducible refine (pack_PutText.calls kj32 a1 t215 _ A50.out).mono ?_); rintro e w64 ⟨rfl, hb⟩; refine ⟨_, rfl, ?_⟩; have n0_ := Aside0.mk (below_step (by repeat (first | (with_reducible first | exact HB.out | apply below_alloc | apply pw_below_drewN | apply below_drew1) | exact HB.out)) hb); clear HB; have HB := n0_; clear n0_; (try clear hb); (try clear hb2); (try clear hk); (try clear hi)) | ((with_reducible refine gate_callee (f := 12) rfl ?_); refine goesL_ (some 119) rfl rfl Tryd.func12 (by kernel_rfl) rfl #[.string ((a2 ++ t215) ++ a3), .int .i64 (a2.size : Int)] rfl (by (try simp only [List.map_toArray, List.map_cons, List.map_nil]); first | done | rfl | (simp only [List.length_drop, List.length_take]; rfl)) ?_; (with_reducible refine (pack_GetText.calls ((a2 ++ t215) ++ a3) (a2.size : Int) t216 t217 t218 _ A53.out).mono ?_); rintro e w65 ⟨rfl, hb⟩; refine ⟨_, rfl, ?_⟩; have n0_ := Aside0.mk (below_step (by repeat (first | (with_reducible first | exact HB.out | apply below_alloc | apply pw_below_drewN | apply below_drew1) | exact HB.out)) hb); clear HB; have HB := n0_; clear n0_; (try clear hb); (try clear hb2); (try clear hk); (try clear hi)) | ((with_reducible refine gate_callee (f := 19) rfl ?_); refine goesL_ (some 125) rfl rfl Tryd.func19 (by kernel_rfl) rfl #[.string ((a2 ++ t215) ++ a3)] rfl (by (try simp only [List.map_toArray, List.map_cons, List.map_nil]); first | done | rfl | (simp only [List.length_drop, List.length_take]; rfl)) ?_; (with_reducible refine (pack_Seal.calls ((a2 ++ t215) ++ a3) t219 _ (Tab.below HT (by repeat (first | (with_reducible first | exact HB.out | apply below_alloc | apply pw_below_drewN | apply below_drew1) | exact HB.out))) A54.out).mono ?_); rintro e w66 ⟨rfl, hb⟩; refine ⟨_, rfl, ?_⟩; have n0_ := Aside0.mk (below_step (by repeat (first | (with_reducible first | exact HB.out | apply below_alloc | apply pw_below_drewN | apply below_drew1) | exact HB.out)) hb); clear HB; have HB := n0_; clear n0_; (try clear hb); (try clear hb2); (try clear hk); (try clear hi)) | ((with_reducible refine gate_callee (f := 20) rfl ?_); refine goesL_ (some 126) rfl rfl Tryd.func20 (by kernel_rfl) rfl #[.string t219] rfl (by (try simp only [List.map_toArray, List.map_cons, List.map_nil]); first | done | rfl | (simp only [List.length_drop, List.length_take]; rfl)) ?_; (with_reducible refine (pack_Open.calls t219 t220 t221 _ (Tab.below HT (by repeat (first | (with_reducible first | exact HB.out | apply below_alloc | apply pw_below_drewN | apply below_drew1) | exact HB.out))) A55.out).mono ?_); rintro e w67 ⟨rfl, hb⟩; refine ⟨_, rfl, ?_⟩; have n0_ := Aside0.mk (below_step (by repeat (first | (with_reducible first | exact HB.out | apply below_alloc | apply pw_below_drewN | apply below_drew1) | exact HB.out)) hb); clear HB; have HB := n0_; clear n0_; (try clear hb); (try clear hb2); (try clear hk); (try clear hi)))
                                go_ret
                                exact ⟨by first | rfl | (simp [errW_none, errW_some] <;> rfl) | (simp [*, errW_none, errW_some] <;> rfl), by repeat (first | (with_reducible first | exact HB.out | apply below_alloc | apply pw_below_drewN | apply below_drew1) | exact HB.out)⟩
                            · rw [if_neg c58] at H
                              have c58b0 : (t218 == 0) = false := beq_eq_false_iff_ne.mpr c58
                              have c58b1 : (t218 != 0) = true := bne_iff_ne.mpr c58
                              obtain rfl := Option.some.inj H
                              go_wp2_with (first | ((with_reducible refine gate_callee (f := 10) rfl ?_); refine goesL_ (some 112) rfl rfl Tryd.func10 (by kernel_rfl) rfl #[.string a1] rfl (by (try simp only [List.map_toArray, List.map_cons, List.map_nil]); first | done | rfl | (simp only [List.length_drop, List.length_take]; rfl)) ?_; (with_reducible refine (pack_PutText.calls kj32 a1 t215 _ A50.out).mono ?_); rintro e w68 ⟨rfl, hb⟩; refine ⟨_, rfl, ?_⟩; have n0_ := Aside0.mk (below_step (by repeat (first | (with_reducible first | exact HB.out | apply below_alloc | apply pw_below_drewN | apply below_drew1) | exact HB.out)) hb); clear HB; have HB := n0_; clear n0_; (try clear hb); (try clear hb2); (try clear hk); (try clear hi)) | ((with_reducible refine gate_callee (f := 12) rfl ?_); refine goesL_ (some 119) rfl rfl Tryd.func12 (by kernel_rfl) rfl #[.string ((a2 ++ t215) ++ a3), .int .i64 (a2.size : Int)] rfl (by (try simp only [List.map_toArray, List.map_cons, List.map_nil]); first | done | rfl | (simp only [List.length_drop, List.length_take]; rfl)) ?_; (with_reducible refine (pack_GetText.calls ((a2 ++ t215) ++ a3) (a2.size : Int) t216 t217 t218 _ A53.out).mono ?_); rintro e w69 ⟨rfl, hb⟩; refine ⟨_, rfl, ?_⟩; have n0_ := Aside0.mk (below_step (by repeat (first | (with_reducible first | exact HB.out | apply below_alloc | apply pw_below_drewN | apply below_drew1) | exact HB.out)) hb); clear HB; have HB := n0_; clear n0_; (try clear hb); (try clear hb2); (try clear hk); (try clear hi)) | ((with_reducible refine gate_callee (f := 19) rfl ?_); refine goesL_ (some 125) rfl rfl Tryd.func19 (by kernel_rfl) rfl #[.string ((a2 ++ t215) ++ a3)] rfl (by (try simp only [List.map_toArray, List.map_cons, List.map_nil]); first | done | rfl | (simp only [List.length_drop, List.length_take]; rfl)) ?_; (with_reducible refine (pack_Seal.calls ((a2 ++ t215) ++ a3) t219 _ (Tab.below HT (by repeat (first | (with_reducible first | exact HB.out | apply below_alloc | apply pw_below_drewN | apply below_drew1) | exact HB.out))) A54.out).mono ?_); rintro e w70 ⟨rfl, hb⟩; refine ⟨_, rfl, ?_⟩; have n0_ := Aside0.mk (below_step (by repeat (first | (with_reducible first | exact HB.out | apply below_alloc | apply pw_below_drewN | apply below_drew1) | exact HB.out)) hb); clear HB; have HB := n0_; clear n0_; (try clear hb); (try clear hb2); (try clear hk); (try clear hi)) | ((with_reducible refine gate_callee (f := 20) rfl ?_); refine goesL_ (some 126) rfl rfl Tryd.func20 (by kernel_rfl) rfl #[.string t219] rfl (by (try simp only [List.map_toArray, List.map_cons, List.map_nil]); first | done | rfl | (simp only [List.length_drop, List.length_take]; rfl)) ?_; (with_reducible refine (pack_Open.calls t219 t220 t221 _ (Tab.below HT (by repeat (first | (with_reducible first | exact HB.out | apply below_alloc | apply pw_below_drewN | apply below_drew1) | exact HB.out))) A55.out).mono ?_); rintro e w71 ⟨rfl, hb⟩; refine ⟨_, rfl, ?_⟩; have n0_ := Aside0.mk (below_step (by repeat (first | (with_reducible first | exact HB.out | apply below_alloc | apply pw_below_drewN | apply below_drew1) | exact HB.out)) hb); clear HB; have HB := n0_; clear n0_; (try clear hb); (try clear hb2); (try clear hk); (try clear hi)))
                              go_ret
                              exact ⟨by first | rfl | (simp [errW_none, errW_some] <;> rfl) | (simp [*, errW_none, errW_some] <;> rfl), by repeat (first | (with_reducible first | exact HB.out | apply below_alloc | apply pw_below_drewN | apply below_drew1) | exact HB.out)⟩
                          · rw [if_neg c57] at H
                            have c57b0 : (t217 == (wrap64 ((((a2 ++ t215) ++ a3).size : Int) - (a3.size : Int)))) = false := beq_eq_false_iff_ne.mpr c57
                            have c57b1 : (t217 != (wrap64 ((((a2 ++ t215) ++ a3).size : Int) - (a3.size : Int)))) = true := bne_iff_ne.mpr c57
                            rw [sz_eq a2 t215 a3 (of_eq_true (by assumption))] at c57b0 c57b1
                            obtain rfl := Option.some.inj H
                            go_wp2_with (first | ((with_reducible refine gate_callee (f := 10) rfl ?_); refine goesL_ (some 112) rfl rfl Tryd.func10 (by kernel_rfl) rfl #[.string a1] rfl (by (try simp only [List.map_toArray, List.map_cons, List.map_nil]); first | done | rfl | (simp only [List.length_drop, List.length_take]; rfl)) ?_; (with_reducible refine (pack_PutText.calls kj32 a1 t215 _ A50.out).mono ?_); rintro e w72 ⟨rfl, hb⟩; refine ⟨_, rfl, ?_⟩; have n0_ := Aside0.mk (below_step (by repeat (first | (with_reducible first | exact HB.out | apply below_alloc | apply pw_below_drewN | apply below_drew1) | exact HB.out)) hb); clear HB; have HB := n0_; clear n0_; (try clear hb); (try clear hb2); (try clear hk); (try clear hi)) | ((with_reducible refine gate_callee (f := 12) rfl ?_); refine goesL_ (some 119) rfl rfl Tryd.func12 (by kernel_rfl) rfl #[.string ((a2 ++ t215) ++ a3), .int .i64 (a2.size : Int)] rfl (by (try simp only [List.map_toArray, List.map_cons, List.map_nil]); first | done | rfl | (simp only [List.length_drop, List.length_take]; rfl)) ?_; (with_reducible refine (pack_GetText.calls ((a2 ++ t215) ++ a3) (a2.size : Int) t216 t217 t218 _ A53.out).mono ?_); rintro e w73 ⟨rfl, hb⟩; refine ⟨_, rfl, ?_⟩; have n0_ := Aside0.mk (below_step (by repeat (first | (with_reducible first | exact HB.out | apply below_alloc | apply pw_below_drewN | apply below_drew1) | exact HB.out)) hb); clear HB; have HB := n0_; clear n0_; (try clear hb); (try clear hb2); (try clear hk); (try clear hi)) | ((with_reducible refine gate_callee (f := 19) rfl ?_); refine goesL_ (some 125) rfl rfl Tryd.func19 (by kernel_rfl) rfl #[.string ((a2 ++ t215) ++ a3)] rfl (by (try simp only [List.map_toArray, List.map_cons, List.map_nil]); first | done | rfl | (simp only [List.length_drop, List.length_take]; rfl)) ?_; (with_reducible refine (pack_Seal.calls ((a2 ++ t215) ++ a3) t219 _ (Tab.below HT (by repeat (first | (with_reducible first | exact HB.out | apply below_alloc | apply pw_below_drewN | apply below_drew1) | exact HB.out))) A54.out).mono ?_); rintro e w74 ⟨rfl, hb⟩; refine ⟨_, rfl, ?_⟩; have n0_ := Aside0.mk (below_step (by repeat (first | (with_reducible first | exact HB.out | apply below_alloc | apply pw_below_drewN | apply below_drew1) | exact HB.out)) hb); clear HB; have HB := n0_; clear n0_; (try clear hb); (try clear hb2); (try clear hk); (try clear hi)) | ((with_reducible refine gate_callee (f := 20) rfl ?_); refine goesL_ (some 126) rfl rfl Tryd.func20 (by kernel_rfl) rfl #[.string t219] rfl (by (try simp only [List.map_toArray, List.map_cons, List.map_nil]); first | done | rfl | (simp only [List.length_drop, List.length_take]; rfl)) ?_; (with_reducible refine (pack_Open.calls t219 t220 t221 _ (Tab.below HT (by repeat (first | (with_reducible first | exact HB.out | apply below_alloc | apply pw_below_drewN | apply below_drew1) | exact HB.out))) A55.out).mono ?_); rintro e w75 ⟨rfl, hb⟩; refine ⟨_, rfl, ?_⟩; have n0_ := Aside0.mk (below_step (by repeat (first | (with_reducible first | exact HB.out | apply below_alloc | apply pw_below_drewN | apply below_drew1) | exact HB.out)) hb); clear HB; have HB := n0_; clear n0_; (try clear hb); (try clear hb2); (try clear hk); (try clear hi)))
                            go_ret
                            exact ⟨by first | rfl | (simp [errW_none, errW_some] <;> rfl) | (simp [*, errW_none, errW_some] <;> rfl), by repeat (first | (with_reducible first | exact HB.out | apply below_alloc | apply pw_below_drewN | apply below_drew1) | exact HB.out)⟩
                        · rw [if_neg c56] at H
                          have c56b0 : (t216.toList == a1.toList) = false := beq_eq_false_iff_ne.mpr c56
                          have c56b1 : (t216.toList != a1.toList) = true := bne_iff_ne.mpr c56
                          obtain rfl := Option.some.inj H
                          go_wp2_with (first | ((with_reducible refine gate_callee (f := 10) rfl ?_); refine goesL_ (some 112) rfl rfl Tryd.func10 (by kernel_rfl) rfl #[.string a1] rfl (by (try simp only [List.map_toArray, List.map_cons, List.map_nil]); first | done | rfl | (simp only [List.length_drop, List.length_take]; rfl)) ?_; (with_reducible refine (pack_PutText.calls kj32 a1 t215 _ A50.out).mono ?_); rintro e w76 ⟨rfl, hb⟩; refine ⟨_, rfl, ?_⟩; have n0_ := Aside0.mk (below_step (by repeat (first | (with_reducible first | exact HB.out | apply below_alloc | apply pw_below_drewN | apply below_drew1) | exact HB.out)) hb); clear HB; have HB := n0_; clear n0_; (try clear hb); (try clear hb2); (try clear hk); (try clear hi)) | ((with_reducible refine gate_callee (f := 12) rfl ?_); refine goesL_ (some 119) rfl rfl Tryd.func12 (by kernel_rfl) rfl #[.string ((a2 ++ t215) ++ a3), .int .i64 (a2.size : Int)] rfl (by (try simp only [List.map_toArray, List.map_cons, List.map_nil]); first | done | rfl | (simp only [List.length_drop, List.length_take]; rfl)) ?_; (with_reducible refine (pack_GetText.calls ((a2 ++ t215) ++ a3) (a2.size : Int) t216 t217 t218 _ A53.out).mono ?_); rintro e w77 ⟨rfl, hb⟩; refine ⟨_, rfl, ?_⟩; have n0_ := Aside0.mk (below_step (by repeat (first | (with_reducible first | exact HB.out | apply below_alloc | apply pw_below_drewN | apply below_drew1) | exact HB.out)) hb); clear HB; have HB := n0_; clear n0_; (try clear hb); (try clear hb2); (try clear hk); (try clear hi)) | ((with_reducible refine gate_callee (f := 19) rfl ?_); refine goesL_ (some 125) rfl rfl Tryd.func19 (by kernel_rfl) rfl #[.string ((a2 ++ t215) ++ a3)] rfl (by (try simp only [List.map_toArray, List.map_cons, List.map_nil]); first | done | rfl | (simp only [List.length_drop, List.length_take]; rfl)) ?_; (with_reducible refine (pack_Seal.calls ((a2 ++ t215) ++ a3) t219 _ (Tab.below HT (by repeat (first | (with_reducible first | exact HB.out | apply below_alloc | apply pw_below_drewN | apply below_drew1) | exact HB.out))) A54.out).mono ?_); rintro e w78 ⟨rfl, hb⟩; refine ⟨_, rfl, ?_⟩; have n0_ := Aside0.mk (below_step (by repeat (first | (with_reducible first | exact HB.out | apply below_alloc | apply pw_below_drewN | apply below_drew1) | exact HB.out)) hb); clear HB; have HB := n0_; clear n0_; (try clear hb); (try clear hb2); (try clear hk); (try clear hi)) | ((with_reducible refine gate_callee (f := 20) rfl ?_); refine goesL_ (some 126) rfl rfl Tryd.func20 (by kernel_rfl) rfl #[.string t219] rfl (by (try simp only [List.map_toArray, List.map_cons, List.map_nil]); first | done | rfl | (simp only [List.length_drop, List.length_take]; rfl)) ?_; (with_reducible refine (pack_Open.calls t219 t220 t221 _ (Tab.below HT (by repeat (first | (with_reducible first | exact HB.out | apply below_alloc | apply pw_below_drewN | apply below_drew1) | exact HB.out))) A55.out).mono ?_); rintro e w79 ⟨rfl, hb⟩; refine ⟨_, rfl, ?_⟩; have n0_ := Aside0.mk (below_step (by repeat (first | (with_reducible first | exact HB.out | apply below_alloc | apply pw_below_drewN | apply below_drew1) | exact HB.out)) hb); clear HB; have HB := n0_; clear n0_; (try clear hb); (try clear hb2); (try clear hk); (try clear hi)))
                          go_ret
                          exact ⟨by first | rfl | (simp [errW_none, errW_some] <;> rfl) | (simp [*, errW_none, errW_some] <;> rfl), by repeat (first | (with_reducible first | exact HB.out | apply below_alloc | apply pw_below_drewN | apply below_drew1) | exact HB.out)⟩
                      · rw [if_neg c52] at H
                        exact absurd H (by simp)
                    · rw [if_neg c51] at H
                      exact absurd H (by simp)

/-- THE ONE PURE STATEMENT of entrepotlaw21_PackBack: yours. -/
def entrepotlaw21_PackBack.Pure : Prop := ∀ (a0 : Int) (a1 : ByteArray) (a2 : ByteArray) (a3 : ByteArray), (Lit.int .i64 a0).wf = true → a1.size ≤ 140737488351232 → a2.size ≤ 140737488351232 → a3.size ≤ 140737488351232 → ∃ k, entrepotlaw21_PackBack.f k a0 a1 a2 a3 = some true
theorem entrepotlaw21_PackBack.walk (P : entrepotlaw21_PackBack.Pure) (a0 : Int) (a1 : ByteArray) (a2 : ByteArray) (a3 : ByteArray) (w : World) (HT : Tab w) (w0 : (Lit.int .i64 a0).wf = true) (w1 : a1.size ≤ 140737488351232) (w2 : a2.size ≤ 140737488351232) (w3 : a3.size ≤ 140737488351232) :
    Calls Tryd.prog 7 #[.int .i64 a0, .string a1, .string a2, .string a3] w fun e w' => e = .returned (.bool true) ∧ Below w.heap.size w w' := by
  obtain ⟨k, h⟩ := P a0 a1 a2 a3 w0 w1 w2 w3
  refine (entrepotlaw21_PackBack.calls k a0 a1 a2 a3 true w HT h).mono ?_
  rintro e w' ⟨rfl, hd⟩
  exact ⟨rfl, hd⟩

end Go.Proofs.YtbcahalbjegjgaaDoor.PAll
