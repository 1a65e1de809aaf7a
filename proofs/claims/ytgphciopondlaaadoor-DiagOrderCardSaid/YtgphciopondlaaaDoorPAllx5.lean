-- Written by a program out of the translation, for several roots at once (set All). Not trusted: Lean checks it.
import Derived.Test.YtgphciopondlaaaDoorPAllx0
import Derived.Test.YtgphciopondlaaaDoorPAllx2
import Derived.Test.YtgphciopondlaaaDoorPAllx4
import Derived.Test.YtgphciopondlaaaDoorGivenL
namespace Go.Proofs.YtgphciopondlaaaDoor.PAll
open Go.RowKit Go.Proofs.YtgphciopondlaaaDoorW.PrintWords Go.Proofs.YtgphciopondlaaaDoorW.PrintLast Go.Proofs.YtgphciopondlaaaDoorW.PrintMore
attribute [local go_sem] max2_int min2_int max_two min_two max_three min_three max_four min_four   -- for this text's walks alone
set_option linter.unusedVariables false
set_option linter.unusedSimpArgs false

/-! ### entrepotlaw04_DiagLines: function 5 -/
mutual
def entrepotlaw04_DiagLines.j0 : Nat → ByteArray → ByteArray → Int → Int → Bool → Option (Bool)
  | 0, _, _, _, _, _ => none
  | k + 1, x0, x1, x2, x3, x28 => if x28 = true then ((entrepotlaw04_shown.f k).bind fun t204 => (some t204)) else (entrepotlaw04_DiagLines.l0 k x0 x1 x2 x3 0)
def entrepotlaw04_DiagLines.l0 : Nat → ByteArray → ByteArray → Int → Int → Int → Option (Bool)
  | 0, _, _, _, _, _ => none
  | k + 1, x0, x1, x2, x3, x9 => if x9 < (x0.size : Int) then (if 0 ≤ x9 then (if (bt x0 x9) = 10 then (some true) else (entrepotlaw04_DiagLines.l0 k x0 x1 x2 x3 (wrap64 (x9 + 1)))) else (none)) else (if (wrap64 ((x1.size : Int) + 1)) = 0 then (none) else (entrepotlaw04_DiagLines.l1 k x0 x1 x3 (Int.tmod (wrap64 (x2)) (wrap64 ((x1.size : Int) + 1))) 1 1 0))
def entrepotlaw04_DiagLines.l1 : Nat → ByteArray → ByteArray → Int → Int → Int → Int → Int → Option (Bool)
  | 0, _, _, _, _, _, _, _ => none
  | k + 1, x0, x1, x3, x10, x11, x12, x13 => if x13 < x10 then (if 0 ≤ x13 then (if x13 < (x1.size : Int) then (if (bt x1 x13) = 10 then (entrepotlaw04_DiagLines.l1 k x0 x1 x3 x10 (wrap64 (x11 + 1)) 1 (wrap64 (x13 + 1))) else (entrepotlaw04_DiagLines.l1 k x0 x1 x3 x10 x11 (wrap64 (x12 + 1)) (wrap64 (x13 + 1)))) else (none)) else (none)) else ((entrepotref04_Num.f k x12).bind fun t205 => (if 9 + t205.size ≤ 9223372036854775807 then (if ((⟨#[44, 32, 99, 111, 108, 117, 109, 110, 32]⟩ : ByteArray) ++ t205).size + 8 ≤ 9223372036854775807 then ((entrepotref04_Num.f k (wrap64 (x3))).bind fun t206 => (if (((⟨#[44, 32, 99, 111, 108, 117, 109, 110, 32]⟩ : ByteArray) ++ t205) ++ (⟨#[58, 32, 101, 114, 114, 111, 114, 32]⟩ : ByteArray)).size + t206.size ≤ 9223372036854775807 then ((diag_Tell.f x1 x10 (wrap64 (x3))).bind fun t207 => (if x0.size + 1 ≤ 9223372036854775807 then (if (x0 ++ (⟨#[10]⟩ : ByteArray)).size + x1.size ≤ 9223372036854775807 then ((diag_Tell.f ((x0 ++ (⟨#[10]⟩ : ByteArray)) ++ x1) (wrap64 ((wrap64 (x10 + (x0.size : Int))) + 1)) (wrap64 (x3))).bind fun t208 => ((entrepotref04_Num.f k x11).bind fun t209 => (if 5 + t209.size ≤ 9223372036854775807 then (if ((⟨#[108, 105, 110, 101, 32]⟩ : ByteArray) ++ t209).size + ((((⟨#[44, 32, 99, 111, 108, 117, 109, 110, 32]⟩ : ByteArray) ++ t205) ++ (⟨#[58, 32, 101, 114, 114, 111, 114, 32]⟩ : ByteArray)) ++ t206).size ≤ 9223372036854775807 then (if t207.toList = (((⟨#[108, 105, 110, 101, 32]⟩ : ByteArray) ++ t209) ++ ((((⟨#[44, 32, 99, 111, 108, 117, 109, 110, 32]⟩ : ByteArray) ++ t205) ++ (⟨#[58, 32, 101, 114, 114, 111, 114, 32]⟩ : ByteArray)) ++ t206)).toList then ((entrepotref04_Num.f k (wrap64 (x11 + 1))).bind fun t210 => (if 5 + t210.size ≤ 9223372036854775807 then (if ((⟨#[108, 105, 110, 101, 32]⟩ : ByteArray) ++ t210).size + ((((⟨#[44, 32, 99, 111, 108, 117, 109, 110, 32]⟩ : ByteArray) ++ t205) ++ (⟨#[58, 32, 101, 114, 114, 111, 114, 32]⟩ : ByteArray)) ++ t206).size ≤ 9223372036854775807 then (some (t208.toList == (((⟨#[108, 105, 110, 101, 32]⟩ : ByteArray) ++ t210) ++ ((((⟨#[44, 32, 99, 111, 108, 117, 109, 110, 32]⟩ : ByteArray) ++ t205) ++ (⟨#[58, 32, 101, 114, 114, 111, 114, 32]⟩ : ByteArray)) ++ t206)).toList)) else (none)) else (none))) else (some false)) else (none)) else (none)))) else (none)) else (none))) else (none))) else (none)) else (none)))
end
def entrepotlaw04_DiagLines.f (k : Nat) (a0 : ByteArray) (a1 : ByteArray) (a2 : Int) (a3 : Int) : Option (Bool) := if (a0.size : Int) > 500 then (entrepotlaw04_DiagLines.j0 k a0 a1 a2 a3 true) else (if (a1.size : Int) > 500 then (entrepotlaw04_DiagLines.j0 k a0 a1 a2 a3 true) else ((entrepotlaw04_shown.f k).bind fun t203 => (entrepotlaw04_DiagLines.j0 k a0 a1 a2 a3 (!t203))))
theorem entrepotlaw04_DiagLines.mono_l : ∀ k, (∀ y0 y1 y2 y3 y4, LeO (entrepotlaw04_DiagLines.j0 k y0 y1 y2 y3 y4) (entrepotlaw04_DiagLines.j0 (k + 1) y0 y1 y2 y3 y4)) ∧ (∀ y0 y1 y2 y3 y4, LeO (entrepotlaw04_DiagLines.l0 k y0 y1 y2 y3 y4) (entrepotlaw04_DiagLines.l0 (k + 1) y0 y1 y2 y3 y4)) ∧ (∀ y0 y1 y2 y3 y4 y5 y6, LeO (entrepotlaw04_DiagLines.l1 k y0 y1 y2 y3 y4 y5 y6) (entrepotlaw04_DiagLines.l1 (k + 1) y0 y1 y2 y3 y4 y5 y6))
  | 0 => ⟨fun _ _ _ _ _ r h => by simp [entrepotlaw04_DiagLines.j0] at h, fun _ _ _ _ _ r h => by simp [entrepotlaw04_DiagLines.l0] at h, fun _ _ _ _ _ _ _ r h => by simp [entrepotlaw04_DiagLines.l1] at h⟩
  | k + 1 => by
    obtain ⟨ih0, ih1, ih2⟩ := entrepotlaw04_DiagLines.mono_l k
    refine ⟨?_, ?_, ?_⟩
    · intro y0 y1 y2 y3 y4
      unfold entrepotlaw04_DiagLines.j0
      repeat' first
      | (with_reducible exact ih0 _ _ _ _ _)
      | (with_reducible exact ih1 _ _ _ _ _)
      | (with_reducible exact ih2 _ _ _ _ _ _ _)
      | (with_reducible exact entrepotlaw04_shown.mono _)
      | (with_reducible exact entrepotref04_Num.mono _ _)
      | (with_reducible exact LeO.refl _)
      | (with_reducible exact LeO.none _)
      | (with_reducible refine LeO.ite ?_ ?_)
      | (with_reducible refine LeO.bind ?_ (fun _ => ?_))
      | exact ih0 _ _ _ _ _
      | exact ih1 _ _ _ _ _
      | exact ih2 _ _ _ _ _ _ _
      | exact entrepotlaw04_shown.mono _
      | exact entrepotref04_Num.mono _ _
      | exact LeO.none _
      | refine LeO.ite ?_ ?_
      | refine LeO.bind ?_ (fun _ => ?_)
    · intro y0 y1 y2 y3 y4
      unfold entrepotlaw04_DiagLines.l0
      repeat' first
      | (with_reducible exact ih0 _ _ _ _ _)
      | (with_reducible exact ih1 _ _ _ _ _)
      | (with_reducible exact ih2 _ _ _ _ _ _ _)
      | (with_reducible exact entrepotlaw04_shown.mono _)
      | (with_reducible exact entrepotref04_Num.mono _ _)
      | (with_reducible exact LeO.refl _)
      | (with_reducible exact LeO.none _)
      | (with_reducible refine LeO.ite ?_ ?_)
      | (with_reducible refine LeO.bind ?_ (fun _ => ?_))
      | exact ih0 _ _ _ _ _
      | exact ih1 _ _ _ _ _
      | exact ih2 _ _ _ _ _ _ _
      | exact entrepotlaw04_shown.mono _
      | exact entrepotref04_Num.mono _ _
      | exact LeO.none _
      | refine LeO.ite ?_ ?_
      | refine LeO.bind ?_ (fun _ => ?_)
    · intro y0 y1 y2 y3 y4 y5 y6
      unfold entrepotlaw04_DiagLines.l1
      repeat' first
      | (with_reducible exact ih0 _ _ _ _ _)
      | (with_reducible exact ih1 _ _ _ _ _)
      | (with_reducible exact ih2 _ _ _ _ _ _ _)
      | (with_reducible exact entrepotlaw04_shown.mono _)
      | (with_reducible exact entrepotref04_Num.mono _ _)
      | (with_reducible exact LeO.refl _)
      | (with_reducible exact LeO.none _)
      | (with_reducible refine LeO.ite ?_ ?_)
      | (with_reducible refine LeO.bind ?_ (fun _ => ?_))
      | exact ih0 _ _ _ _ _
      | exact ih1 _ _ _ _ _
      | exact ih2 _ _ _ _ _ _ _
      | exact entrepotlaw04_shown.mono _
      | exact entrepotref04_Num.mono _ _
      | exact LeO.none _
      | refine LeO.ite ?_ ?_
      | refine LeO.bind ?_ (fun _ => ?_)
theorem entrepotlaw04_DiagLines.mono : ∀ a0 a1 a2 a3 k, LeO (entrepotlaw04_DiagLines.f k a0 a1 a2 a3) (entrepotlaw04_DiagLines.f (k + 1) a0 a1 a2 a3) := by
  intro a0 a1 a2 a3 k
  obtain ⟨ih0, ih1, ih2⟩ := entrepotlaw04_DiagLines.mono_l k
  unfold entrepotlaw04_DiagLines.f
  repeat' first
      | (with_reducible exact ih0 _ _ _ _ _)
      | (with_reducible exact ih1 _ _ _ _ _)
      | (with_reducible exact ih2 _ _ _ _ _ _ _)
      | (with_reducible exact entrepotlaw04_shown.mono _)
      | (with_reducible exact entrepotref04_Num.mono _ _)
      | (with_reducible exact LeO.refl _)
      | (with_reducible exact LeO.none _)
      | (with_reducible refine LeO.ite ?_ ?_)
      | (with_reducible refine LeO.bind ?_ (fun _ => ?_))
      | exact ih0 _ _ _ _ _
      | exact ih1 _ _ _ _ _
      | exact ih2 _ _ _ _ _ _ _
      | exact entrepotlaw04_shown.mono _
      | exact entrepotref04_Num.mono _ _
      | exact LeO.none _
      | refine LeO.ite ?_ ?_
      | refine LeO.bind ?_ (fun _ => ?_)
set_option maxHeartbeats 8000000 in
set_option maxRecDepth 100000 in
theorem entrepotlaw04_DiagLines.calls (k : Nat) (a0 : ByteArray) (a1 : ByteArray) (a2 : Int) (a3 : Int) (r : Bool) (w : World) (HT : Tab w) (h : entrepotlaw04_DiagLines.f k a0 a1 a2 a3 = some r) :
    Calls Tryd.prog 5 #[.string a0, .string a1, .int .u16 a2, .int .i32 a3] w fun e w' => e = .returned (.bool r) ∧ Below w.heap.size w w' := by
  have hu25 := Tryd.underlying25
  have HB := Aside0.mk (Below.refl w.heap.size w)
  have H : (if (a0.size : Int) > 500 then (entrepotlaw04_DiagLines.j0 k a0 a1 a2 a3 true) else (if (a1.size : Int) > 500 then (entrepotlaw04_DiagLines.j0 k a0 a1 a2 a3 true) else ((entrepotlaw04_shown.f k).bind fun t203 => (entrepotlaw04_DiagLines.j0 k a0 a1 a2 a3 (!t203))))) = some r := h
  clear h
  have HC5 := Aside0.mk H
  clear H
  go_enter Tryd.func5, Tryd.ntmps5
  go_upto_region 1 with (fail)
  go_cut [28] (fun v28 wc => ∃ (kq : Nat) (x28_4 : Bool), v28 = .bool x28_4 ∧ Aside0 (entrepotlaw04_DiagLines.j0 kq a0 a1 a2 a3 x28_4 = some r) ∧ Aside0 (kq ≤ k) ∧ Aside0 (Below w.heap.size w wc))
  case first =>
    have H := HC5.out
    clear HC5
    by_cases c6 : (a0.size : Int) > 500
    · rw [if_pos c6] at H
      have c6b0 : decide (500 < (a0.size : Int)) = true := decide_eq_true c6
      have c6b1 : decide (500 < a0.size) = true := decide_eq_true (by omega)
      clear c6
      (first | rw [c6b0] | (simp only [i64_w, i32_w]; rw [c6b0]) | skip)
      have H' := Aside0.mk H
      clear H
      go_wp2
      go_meet
      case rel => exact ⟨_, (true), (by first | rfl | (simp; done) | (simp [*]; done)), H', ⟨by first | omega | exact Nat.le_refl _⟩, ⟨by repeat (first | (with_reducible first | exact HB.out | apply below_alloc | apply pw_below_drewN | apply below_drew1) | exact HB.out)⟩⟩
    · rw [if_neg c6] at H
      have c6b0 : decide (500 < (a0.size : Int)) = false := decide_eq_false c6
      have c6b1 : decide (500 < a0.size) = false := decide_eq_false (by omega)
      clear c6
      (first | rw [c6b0] | (simp only [i64_w, i32_w]; rw [c6b0]) | skip)
      by_cases c7 : (a1.size : Int) > 500
      · rw [if_pos c7] at H
        have c7b0 : decide (500 < (a1.size : Int)) = true := decide_eq_true c7
        have c7b1 : decide (500 < a1.size) = true := decide_eq_true (by omega)
        clear c7
        have H' := Aside0.mk H
        clear H
        go_wp2
        go_meet
        case rel => exact ⟨_, (true), (by first | rfl | (simp; done) | (simp [*]; done)), H', ⟨by first | omega | exact Nat.le_refl _⟩, ⟨by repeat (first | (with_reducible first | exact HB.out | apply below_alloc | apply pw_below_drewN | apply below_drew1) | exact HB.out)⟩⟩
      · rw [if_neg c7] at H
        have c7b0 : decide (500 < (a1.size : Int)) = false := decide_eq_false c7
        have c7b1 : decide (500 < a1.size) = false := decide_eq_false (by omega)
        clear c7
        replace H := Option.bind_eq_some_iff.mp H
        obtain ⟨t203, A80, H⟩ := H
        replace H : (entrepotlaw04_DiagLines.j0 k a0 a1 a2 a3 (!t203)) = some r := H
        have A8 := Aside0.mk A80
        clear A80
        have H' := Aside0.mk H
        clear H
        go_wp2_with (first | (go_at_call 9; (with_reducible refine (entrepotlaw04_shown.calls k  t203 _ (Tab.below HT (by repeat (first | (with_reducible first | exact HB.out | apply below_alloc | apply pw_below_drewN | apply below_drew1) | exact HB.out))) A8.out).mono ?_); rintro e w9 ⟨rfl, hb⟩; have n0_ := Aside0.mk (below_step (by repeat (first | (with_reducible first | exact HB.out | apply below_alloc | apply pw_below_drewN | apply below_drew1) | exact HB.out)) hb); clear HB; have HB := n0_; clear n0_; (try clear hb); (try clear hb2); (try clear hk); (try clear hi)))
        go_meet
        case rel => exact ⟨_, (!t203), (by first | rfl | (simp; done) | (simp [*]; done)), H', ⟨by first | omega | exact Nat.le_refl _⟩, ⟨by repeat (first | (with_reducible first | exact HB.out | apply below_alloc | apply pw_below_drewN | apply below_drew1) | exact HB.out)⟩⟩
  case rest =>
    clear HC5
    try clear p2
    try clear c5
    try clear c6
    try clear c6b0
    try clear c6b1
    try clear c7
    try clear c7b0
    try clear c7b1
    obtain ⟨kq, x28_4, rfl, HA, HJ4, HB⟩ := hcut
    cases kq with
    | zero => exact absurd HA.out (by simp [entrepotlaw04_DiagLines.j0])
    | succ kj4 =>
      have H := HA.out
      clear HA
      simp only [entrepotlaw04_DiagLines.j0] at H
      by_cases c10 : x28_4 = true
      · subst c10
        have H1 : ((entrepotlaw04_shown.f kj4).bind fun t204 => (some t204)) = some r := by rw [if_pos rfl] at H; exact H
        clear H
        have H := H1
        clear H1
        replace H := Option.bind_eq_some_iff.mp H
        obtain ⟨t204, A110, H⟩ := H
        replace H : (some t204) = some r := H
        have A11 := Aside0.mk A110
        clear A110
        obtain rfl := Option.some.inj H
        go_wp2_with (first | ((with_reducible refine gate_callee (f := 9) rfl ?_); refine goesL_ (some 29) rfl rfl Tryd.func9 (by kernel_rfl) rfl #[] rfl (by (try simp only [List.map_toArray, List.map_cons, List.map_nil]); first | done | rfl | (simp only [List.length_drop, List.length_take]; rfl)) ?_; (with_reducible refine (entrepotlaw04_shown.calls kj4  t204 _ (Tab.below HT (by repeat (first | (with_reducible first | exact HB.out | apply below_alloc | apply pw_below_drewN | apply below_drew1) | exact HB.out))) A11.out).mono ?_); rintro e w12 ⟨rfl, hb⟩; refine ⟨_, rfl, ?_⟩; have n0_ := Aside0.mk (below_step (by repeat (first | (with_reducible first | exact HB.out | apply below_alloc | apply pw_below_drewN | apply below_drew1) | exact HB.out)) hb); clear HB; have HB := n0_; clear n0_; (try clear hb); (try clear hb2); (try clear hk); (try clear hi)))
        go_ret
        exact ⟨by first | rfl | (simp [errW_none, errW_some] <;> rfl) | (simp [*, errW_none, errW_some] <;> rfl), by repeat (first | (with_reducible first | exact HB.out | apply below_alloc | apply pw_below_drewN | apply below_drew1) | exact HB.out)⟩
      · replace c10 := Bool.eq_false_iff.mpr c10
        subst c10
        have H1 : (entrepotlaw04_DiagLines.l0 kj4 a0 a1 a2 a3 0) = some r := by rw [if_neg (show ¬ (false = true) by decide)] at H; exact H
        clear H
        have H := H1
        clear H1
        have H' := Aside0.mk H
        clear H
        go_wp2
        go_loopg [9] kj4 (fun kq v9 w' => ∃ (x9_2 : Int), v9 = .int .i64 x9_2 ∧ Aside0 (entrepotlaw04_DiagLines.l0 kq a0 a1 a2 a3 x9_2 = some r) ∧ Aside0 (kq ≤ kj4) ∧ Aside0 (Below w.heap.size w w'))
        case atStart => exact ⟨(0), (by first | rfl | (simp; done) | (simp [*]; done)), H', ⟨Nat.le_refl _⟩, ⟨by repeat (first | (with_reducible first | exact HB.out | apply below_alloc | apply pw_below_drewN | apply below_drew1) | exact HB.out)⟩⟩
        case round =>
          clear H'
          try clear c1
          try clear p2
          try clear c5
          try clear c6
          try clear c6b0
          try clear c6b1
          try clear c7
          try clear c7b0
          try clear c7b1
          try clear c9
          try clear c10
          try clear p2
          obtain ⟨x9_2, rfl, HA, HK2, HB⟩ := hrel
          cases gk with
          | zero => exact absurd HA.out (by simp [entrepotlaw04_DiagLines.l0])
          | succ k2 =>
            have H := HA.out
            clear HA
            simp only [entrepotlaw04_DiagLines.l0] at H
            by_cases c13 : x9_2 < (a0.size : Int)
            · rw [if_pos c13] at H
              have c13b0 : decide (x9_2 < (a0.size : Int)) = true := decide_eq_true c13
              clear c13
              by_cases c14 : 0 ≤ x9_2
              · rw [if_pos c14] at H
                have c14b0 : decide (0 ≤ x9_2) = true := decide_eq_true c14
                clear c14
                by_cases c16 : (bt a0 x9_2) = 10
                · rw [if_pos c16] at H
                  have c16b0 : ((bt a0 x9_2) == 10) = true := beq_iff_eq.mpr c16
                  have c16b1 : ((bt a0 x9_2) != 10) = false := bne_eq_false_iff_eq.mpr c16
                  clear c16
                  obtain rfl := Option.some.inj H
                  have p15 : 0 ≤ (x9_2 : Int) := of_decide_eq_true (by first | (with_reducible assumption) | assumption)
                  have q15 : x9_2 < (a0.size : Int) := of_decide_eq_true (by first | (with_reducible assumption) | assumption)
                  have hx15 := bt_at a0 x9_2
                  replace p15 := eq_true p15
                  replace q15 := eq_true q15
                  go_wp2
                  go_ret
                  exact ⟨by first | rfl | (simp [errW_none, errW_some] <;> rfl) | (simp [*, errW_none, errW_some] <;> rfl), by repeat (first | (with_reducible first | exact HB.out | apply below_alloc | apply pw_below_drewN | apply below_drew1) | exact HB.out)⟩
                · rw [if_neg c16] at H
                  have c16b0 : ((bt a0 x9_2) == 10) = false := beq_eq_false_iff_ne.mpr c16
                  have c16b1 : ((bt a0 x9_2) != 10) = true := bne_iff_ne.mpr c16
                  have H' := Aside0.mk H
                  clear H
                  have p15 : 0 ≤ (x9_2 : Int) := of_decide_eq_true (by first | (with_reducible assumption) | assumption)
                  have q15 : x9_2 < (a0.size : Int) := of_decide_eq_true (by first | (with_reducible assumption) | assumption)
                  have hx15 := bt_at a0 x9_2
                  replace p15 := eq_true p15
                  replace q15 := eq_true q15
                  go_wp2
                  go_roundg k2
                  case measure => have := HJ4.out; have := HK2.out; omega
                  case rel => exact ⟨(wrap64 (x9_2 + 1)), (by first | rfl | (simp; done) | (simp [*]; done)), H', ⟨by have := HJ4.out; have := HK2.out; omega⟩, ⟨by repeat (first | (with_reducible first | exact HB.out | apply below_alloc | apply pw_below_drewN | apply below_drew1) | exact HB.out)⟩⟩
              · rw [if_neg c14] at H
                exact absurd H (by simp)
            · rw [if_neg c13] at H
              have c13b0 : decide (x9_2 < (a0.size : Int)) = false := decide_eq_false c13
              clear c13
              by_cases c17 : (wrap64 ((a1.size : Int) + 1)) = 0
              · rw [if_pos c17] at H
                exact absurd H (by simp)
              · rw [if_neg c17] at H
                have c17b0 : ((wrap64 ((a1.size : Int) + 1)) == 0) = false := beq_eq_false_iff_ne.mpr c17
                have c17b1 : ((wrap64 ((a1.size : Int) + 1)) != 0) = true := bne_iff_ne.mpr c17
                have H' := Aside0.mk H
                clear H
                go_wp2
                go_loopg [11, 12, 13] k2 (fun kq v11 v12 v13 w' => ∃ (x11_3 : Int) (x12_3 : Int) (x13_3 : Int), v11 = .int .i64 x11_3 ∧ v12 = .int .i64 x12_3 ∧ v13 = .int .i64 x13_3 ∧ Aside0 (entrepotlaw04_DiagLines.l1 kq a0 a1 a3 (Int.tmod (wrap64 (a2)) (wrap64 ((a1.size : Int) + 1))) x11_3 x12_3 x13_3 = some r) ∧ Aside0 (kq ≤ k2) ∧ Aside0 (Below w.heap.size w w'))
                case atStart => exact ⟨(1), (1), (0), (by first | rfl | (simp; done) | (simp [*]; done)), (by first | rfl | (simp; done) | (simp [*]; done)), (by first | rfl | (simp; done) | (simp [*]; done)), H', ⟨Nat.le_refl _⟩, ⟨by repeat (first | (with_reducible first | exact HB.out | apply below_alloc | apply pw_below_drewN | apply below_drew1) | exact HB.out)⟩⟩
                case round =>
                  clear H'
                  try clear c1
                  try clear p1
                  try clear q1
                  try clear hx1
                  try clear p2
                  try clear c5
                  try clear c6
                  try clear c6b0
                  try clear c6b1
                  try clear p6
                  try clear c7
                  try clear c7b0
                  try clear c7b1
                  try clear c9
                  try clear c10
                  try clear c13
                  try clear c13b0
                  try clear c14
                  try clear c14b0
                  try clear p15
                  try clear q15
                  try clear hx15
                  try clear c16
                  try clear c16b0
                  try clear c16b1
                  try clear c17
                  try clear c17b0
                  try clear c17b1
                  try clear p15
                  try clear p2
                  try clear q15
                  obtain ⟨x11_3, x12_3, x13_3, rfl, rfl, rfl, HA, HK3, HB⟩ := hrel
                  cases gk with
                  | zero => exact absurd HA.out (by simp [entrepotlaw04_DiagLines.l1])
                  | succ k3 =>
                    have H := HA.out
                    clear HA
                    simp only [entrepotlaw04_DiagLines.l1] at H
                    by_cases c18 : x13_3 < (Int.tmod (wrap64 (a2)) (wrap64 ((a1.size : Int) + 1)))
                    · rw [if_pos c18] at H
                      have c18b0 : decide (x13_3 < (Int.tmod (wrap64 (a2)) (wrap64 ((a1.size : Int) + 1)))) = true := decide_eq_true c18
                      clear c18
                      by_cases c19 : 0 ≤ x13_3
                      · rw [if_pos c19] at H
                        have c19b0 : decide (0 ≤ x13_3) = true := decide_eq_true c19
                        clear c19
                        by_cases c20 : x13_3 < (a1.size : Int)
                        · rw [if_pos c20] at H
                          have c20b0 : decide (x13_3 < (a1.size : Int)) = true := decide_eq_true c20
                          clear c20
                          by_cases c22 : (bt a1 x13_3) = 10
                          · rw [if_pos c22] at H
                            have c22b0 : ((bt a1 x13_3) == 10) = true := beq_iff_eq.mpr c22
                            have c22b1 : ((bt a1 x13_3) != 10) = false := bne_eq_false_iff_eq.mpr c22
                            clear c22
                            have H' := Aside0.mk H
                            clear H
                            have p21 : 0 ≤ (x13_3 : Int) := of_decide_eq_true (by first | (with_reducible assumption) | assumption)
                            have q21 : x13_3 < (a1.size : Int) := of_decide_eq_true (by first | (with_reducible assumption) | assumption)
                            have hx21 := bt_at a1 x13_3
                            replace p21 := eq_true p21
                            replace q21 := eq_true q21
                            go_wp2
                            go_roundg k3
                            case measure => have := HJ4.out; have := HK2.out; have := HK3.out; omega
                            case rel => exact ⟨(wrap64 (x11_3 + 1)), (1), (wrap64 (x13_3 + 1)), (by first | rfl | (simp; done) | (simp [*]; done)), (by first | rfl | (simp; done) | (simp [*]; done)), (by first | rfl | (simp; done) | (simp [*]; done)), H', ⟨by have := HJ4.out; have := HK2.out; have := HK3.out; omega⟩, ⟨by repeat (first | (with_reducible first | exact HB.out | apply below_alloc | apply pw_below_drewN | apply below_drew1) | exact HB.out)⟩⟩
                          · rw [if_neg c22] at H
                            have c22b0 : ((bt a1 x13_3) == 10) = false := beq_eq_false_iff_ne.mpr c22
                            have c22b1 : ((bt a1 x13_3) != 10) = true := bne_iff_ne.mpr c22
                            have H' := Aside0.mk H
                            clear H
                            have p21 : 0 ≤ (x13_3 : Int) := of_decide_eq_true (by first | (with_reducible assumption) | assumption)
                            have q21 : x13_3 < (a1.size : Int) := of_decide_eq_true (by first | (with_reducible assumption) | assumption)
                            have hx21 := bt_at a1 x13_3
                            replace p21 := eq_true p21
                            replace q21 := eq_true q21
                            go_wp2
                            go_roundg k3
                            case measure => have := HJ4.out; have := HK2.out; have := HK3.out; omega
                            case rel => exact ⟨(x11_3), (wrap64 (x12_3 + 1)), (wrap64 (x13_3 + 1)), (by first | rfl | (simp; done) | (simp [*]; done)), (by first | rfl | (simp; done) | (simp [*]; done)), (by first | rfl | (simp; done) | (simp [*]; done)), H', ⟨by have := HJ4.out; have := HK2.out; have := HK3.out; omega⟩, ⟨by repeat (first | (with_reducible first | exact HB.out | apply below_alloc | apply pw_below_drewN | apply below_drew1) | exact HB.out)⟩⟩
                        · rw [if_neg c20] at H
                          exact absurd H (by simp)
                      · rw [if_neg c19] at H
                        exact absurd H (by simp)
                    · rw [if_neg c18] at H
                      have c18b0 : decide (x13_3 < (Int.tmod (wrap64 (a2)) (wrap64 ((a1.size : Int) + 1)))) = false := decide_eq_false c18
                      clear c18
                      replace H := Option.bind_eq_some_iff.mp H
                      obtain ⟨t205, A230, H⟩ := H
                      replace H : (if 9 + t205.size ≤ 9223372036854775807 then (if ((⟨#[44, 32, 99, 111, 108, 117, 109, 110, 32]⟩ : ByteArray) ++ t205).size + 8 ≤ 9223372036854775807 then ((entrepotref04_Num.f k3 (wrap64 (a3))).bind fun t206 => (if (((⟨#[44, 32, 99, 111, 108, 117, 109, 110, 32]⟩ : ByteArray) ++ t205) ++ (⟨#[58, 32, 101, 114, 114, 111, 114, 32]⟩ : ByteArray)).size + t206.size ≤ 9223372036854775807 then ((diag_Tell.f a1 (Int.tmod (wrap64 (a2)) (wrap64 ((a1.size : Int) + 1))) (wrap64 (a3))).bind fun t207 => (if a0.size + 1 ≤ 9223372036854775807 then (if (a0 ++ (⟨#[10]⟩ : ByteArray)).size + a1.size ≤ 9223372036854775807 then ((diag_Tell.f ((a0 ++ (⟨#[10]⟩ : ByteArray)) ++ a1) (wrap64 ((wrap64 ((Int.tmod (wrap64 (a2)) (wrap64 ((a1.size : Int) + 1))) + (a0.size : Int))) + 1)) (wrap64 (a3))).bind fun t208 => ((entrepotref04_Num.f k3 x11_3).bind fun t209 => (if 5 + t209.size ≤ 9223372036854775807 then (if ((⟨#[108, 105, 110, 101, 32]⟩ : ByteArray) ++ t209).size + ((((⟨#[44, 32, 99, 111, 108, 117, 109, 110, 32]⟩ : ByteArray) ++ t205) ++ (⟨#[58, 32, 101, 114, 114, 111, 114, 32]⟩ : ByteArray)) ++ t206).size ≤ 9223372036854775807 then (if t207.toList = (((⟨#[108, 105, 110, 101, 32]⟩ : ByteArray) ++ t209) ++ ((((⟨#[44, 32, 99, 111, 108, 117, 109, 110, 32]⟩ : ByteArray) ++ t205) ++ (⟨#[58, 32, 101, 114, 114, 111, 114, 32]⟩ : ByteArray)) ++ t206)).toList then ((entrepotref04_Num.f k3 (wrap64 (x11_3 + 1))).bind fun t210 => (if 5 + t210.size ≤ 9223372036854775807 then (if ((⟨#[108, 105, 110, 101, 32]⟩ : ByteArray) ++ t210).size + ((((⟨#[44, 32, 99, 111, 108, 117, 109, 110, 32]⟩ : ByteArray) ++ t205) ++ (⟨#[58, 32, 101, 114, 114, 111, 114, 32]⟩ : ByteArray)) ++ t206).size ≤ 9223372036854775807 then (some (t208.toList == (((⟨#[108, 105, 110, 101, 32]⟩ : ByteArray) ++ t210) ++ ((((⟨#[44, 32, 99, 111, 108, 117, 109, 110, 32]⟩ : ByteArray) ++ t205) ++ (⟨#[58, 32, 101, 114, 114, 111, 114, 32]⟩ : ByteArray)) ++ t206)).toList)) else (none)) else (none))) else (some false)) else (none)) else (none)))) else (none)) else (none))) else (none))) else (none)) else (none)) = some r := H
                      have A23 := Aside0.mk A230
                      clear A230
                      by_cases c24 : 9 + t205.size ≤ 9223372036854775807
                      · rw [if_pos c24] at H
                        have c24b0 := eq_true c24
                        have c24b1 : decide (9 + t205.size ≤ 9223372036854775807) = true := decide_eq_true c24
                        try have c24b2 : (9223372036854775807 < 9 + t205.size) = False := eq_false (Nat.not_lt.2 c24)
                        by_cases c25 : ((⟨#[44, 32, 99, 111, 108, 117, 109, 110, 32]⟩ : ByteArray) ++ t205).size + 8 ≤ 9223372036854775807
                        · rw [if_pos c25] at H
                          have c25b0 := eq_true c25
                          have c25b1 : decide (((⟨#[44, 32, 99, 111, 108, 117, 109, 110, 32]⟩ : ByteArray) ++ t205).size + 8 ≤ 9223372036854775807) = true := decide_eq_true c25
                          try have c25b2 : (9223372036854775807 < ((⟨#[44, 32, 99, 111, 108, 117, 109, 110, 32]⟩ : ByteArray) ++ t205).size + 8) = False := eq_false (Nat.not_lt.2 c25)
                          try have c25b4 : (9223372036854775807 < 9 + t205.size + 8) = False := eq_false (by have h_ := c25; simp only [ByteArray.size_append] at h_; have e0_ : (⟨#[44, 32, 99, 111, 108, 117, 109, 110, 32]⟩ : ByteArray).size = 9 := rfl; omega)
                          replace H := Option.bind_eq_some_iff.mp H
                          obtain ⟨t206, A260, H⟩ := H
                          replace H : (if (((⟨#[44, 32, 99, 111, 108, 117, 109, 110, 32]⟩ : ByteArray) ++ t205) ++ (⟨#[58, 32, 101, 114, 114, 111, 114, 32]⟩ : ByteArray)).size + t206.size ≤ 9223372036854775807 then ((diag_Tell.f a1 (Int.tmod (wrap64 (a2)) (wrap64 ((a1.size : Int) + 1))) (wrap64 (a3))).bind fun t207 => (if a0.size + 1 ≤ 9223372036854775807 then (if (a0 ++ (⟨#[10]⟩ : ByteArray)).size + a1.size ≤ 9223372036854775807 then ((diag_Tell.f ((a0 ++ (⟨#[10]⟩ : ByteArray)) ++ a1) (wrap64 ((wrap64 ((Int.tmod (wrap64 (a2)) (wrap64 ((a1.size : Int) + 1))) + (a0.size : Int))) + 1)) (wrap64 (a3))).bind fun t208 => ((entrepotref04_Num.f k3 x11_3).bind fun t209 => (if 5 + t209.size ≤ 9223372036854775807 then (if ((⟨#[108, 105, 110, 101, 32]⟩ : ByteArray) ++ t209).size + ((((⟨#[44, 32, 99, 111, 108, 117, 109, 110, 32]⟩ : ByteArray) ++ t205) ++ (⟨#[58, 32, 101, 114, 114, 111, 114, 32]⟩ : ByteArray)) ++ t206).size ≤ 9223372036854775807 then (if t207.toList = (((⟨#[108, 105, 110, 101, 32]⟩ : ByteArray) ++ t209) ++ ((((⟨#[44, 32, 99, 111, 108, 117, 109, 110, 32]⟩ : ByteArray) ++ t205) ++ (⟨#[58, 32, 101, 114, 114, 111, 114, 32]⟩ : ByteArray)) ++ t206)).toList then ((entrepotref04_Num.f k3 (wrap64 (x11_3 + 1))).bind fun t210 => (if 5 + t210.size ≤ 9223372036854775807 then (if ((⟨#[108, 105, 110, 101, 32]⟩ : ByteArray) ++ t210).size + ((((⟨#[44, 32, 99, 111, 108, 117, 109, 110, 32]⟩ : ByteArray) ++ t205) ++ (⟨#[58, 32, 101, 114, 114, 111, 114, 32]⟩ : ByteArray)) ++ t206).size ≤ 9223372036854775807 then (some (t208.toList == (((⟨#[108, 105, 110, 101, 32]⟩ : ByteArray) ++ t210) ++ ((((⟨#[44, 32, 99, 111, 108, 117, 109, 110, 32]⟩ : ByteArray) ++ t205) ++ (⟨#[58, 32, 101, 114, 114, 111, 114, 32]⟩ : ByteArray)) ++ t206)).toList)) else (none)) else (none))) else (some false)) else (none)) else (none)))) else (none)) else (none))) else (none)) = some r := H
                          have A26 := Aside0.mk A260
                          clear A260
                          by_cases c27 : (((⟨#[44, 32, 99, 111, 108, 117, 109, 110, 32]⟩ : ByteArray) ++ t205) ++ (⟨#[58, 32, 101, 114, 114, 111, 114, 32]⟩ : ByteArray)).size + t206.size ≤ 9223372036854775807
                          · rw [if_pos c27] at H
                            have c27b0 := eq_true c27
                            have c27b1 : decide ((((⟨#[44, 32, 99, 111, 108, 117, 109, 110, 32]⟩ : ByteArray) ++ t205) ++ (⟨#[58, 32, 101, 114, 114, 111, 114, 32]⟩ : ByteArray)).size + t206.size ≤ 9223372036854775807) = true := decide_eq_true c27
                            try have c27b2 : (9223372036854775807 < (((⟨#[44, 32, 99, 111, 108, 117, 109, 110, 32]⟩ : ByteArray) ++ t205) ++ (⟨#[58, 32, 101, 114, 114, 111, 114, 32]⟩ : ByteArray)).size + t206.size) = False := eq_false (Nat.not_lt.2 c27)
                            try have c27b4 : (9223372036854775807 < 9 + t205.size + 8 + t206.size) = False := eq_false (by have h_ := c27; simp only [ByteArray.size_append] at h_; have e0_ : (⟨#[44, 32, 99, 111, 108, 117, 109, 110, 32]⟩ : ByteArray).size = 9 := rfl; have e1_ : (⟨#[58, 32, 101, 114, 114, 111, 114, 32]⟩ : ByteArray).size = 8 := rfl; omega)
                            replace H := Option.bind_eq_some_iff.mp H
                            obtain ⟨t207, A280, H⟩ := H
                            replace H : (if a0.size + 1 ≤ 9223372036854775807 then (if (a0 ++ (⟨#[10]⟩ : ByteArray)).size + a1.size ≤ 9223372036854775807 then ((diag_Tell.f ((a0 ++ (⟨#[10]⟩ : ByteArray)) ++ a1) (wrap64 ((wrap64 ((Int.tmod (wrap64 (a2)) (wrap64 ((a1.size : Int) + 1))) + (a0.size : Int))) + 1)) (wrap64 (a3))).bind fun t208 => ((entrepotref04_Num.f k3 x11_3).bind fun t209 => (if 5 + t209.size ≤ 9223372036854775807 then (if ((⟨#[108, 105, 110, 101, 32]⟩ : ByteArray) ++ t209).size + ((((⟨#[44, 32, 99, 111, 108, 117, 109, 110, 32]⟩ : ByteArray) ++ t205) ++ (⟨#[58, 32, 101, 114, 114, 111, 114, 32]⟩ : ByteArray)) ++ t206).size ≤ 9223372036854775807 then (if t207.toList = (((⟨#[108, 105, 110, 101, 32]⟩ : ByteArray) ++ t209) ++ ((((⟨#[44, 32, 99, 111, 108, 117, 109, 110, 32]⟩ : ByteArray) ++ t205) ++ (⟨#[58, 32, 101, 114, 114, 111, 114, 32]⟩ : ByteArray)) ++ t206)).toList then ((entrepotref04_Num.f k3 (wrap64 (x11_3 + 1))).bind fun t210 => (if 5 + t210.size ≤ 9223372036854775807 then (if ((⟨#[108, 105, 110, 101, 32]⟩ : ByteArray) ++ t210).size + ((((⟨#[44, 32, 99, 111, 108, 117, 109, 110, 32]⟩ : ByteArray) ++ t205) ++ (⟨#[58, 32, 101, 114, 114, 111, 114, 32]⟩ : ByteArray)) ++ t206).size ≤ 9223372036854775807 then (some (t208.toList == (((⟨#[108, 105, 110, 101, 32]⟩ : ByteArray) ++ t210) ++ ((((⟨#[44, 32, 99, 111, 108, 117, 109, 110, 32]⟩ : ByteArray) ++ t205) ++ (⟨#[58, 32, 101, 114, 114, 111, 114, 32]⟩ : ByteArray)) ++ t206)).toList)) else (none)) else (none))) else (some false)) else (none)) else (none)))) else (none)) else (none)) = some r := H
                            have A28 := Aside0.mk A280
                            clear A280
                            by_cases c29 : a0.size + 1 ≤ 9223372036854775807
                            · rw [if_pos c29] at H
                              have c29b0 := eq_true c29
                              have c29b1 : decide (a0.size + 1 ≤ 9223372036854775807) = true := decide_eq_true c29
                              try have c29b2 : (9223372036854775807 < a0.size + 1) = False := eq_false (Nat.not_lt.2 c29)
                              by_cases c30 : (a0 ++ (⟨#[10]⟩ : ByteArray)).size + a1.size ≤ 9223372036854775807
                              · rw [if_pos c30] at H
                                have c30b0 := eq_true c30
                                have c30b1 : decide ((a0 ++ (⟨#[10]⟩ : ByteArray)).size + a1.size ≤ 9223372036854775807) = true := decide_eq_true c30
                                try have c30b2 : (9223372036854775807 < (a0 ++ (⟨#[10]⟩ : ByteArray)).size + a1.size) = False := eq_false (Nat.not_lt.2 c30)
                                try have c30b4 : (9223372036854775807 < a0.size + 1 + a1.size) = False := eq_false (by have h_ := c30; simp only [ByteArray.size_append] at h_; have e0_ : (⟨#[10]⟩ : ByteArray).size = 1 := rfl; omega)
                                replace H := Option.bind_eq_some_iff.mp H
                                obtain ⟨t208, A310, H⟩ := H
                                replace H : ((entrepotref04_Num.f k3 x11_3).bind fun t209 => (if 5 + t209.size ≤ 9223372036854775807 then (if ((⟨#[108, 105, 110, 101, 32]⟩ : ByteArray) ++ t209).size + ((((⟨#[44, 32, 99, 111, 108, 117, 109, 110, 32]⟩ : ByteArray) ++ t205) ++ (⟨#[58, 32, 101, 114, 114, 111, 114, 32]⟩ : ByteArray)) ++ t206).size ≤ 9223372036854775807 then (if t207.toList = (((⟨#[108, 105, 110, 101, 32]⟩ : ByteArray) ++ t209) ++ ((((⟨#[44, 32, 99, 111, 108, 117, 109, 110, 32]⟩ : ByteArray) ++ t205) ++ (⟨#[58, 32, 101, 114, 114, 111, 114, 32]⟩ : ByteArray)) ++ t206)).toList then ((entrepotref04_Num.f k3 (wrap64 (x11_3 + 1))).bind fun t210 => (if 5 + t210.size ≤ 9223372036854775807 then (if ((⟨#[108, 105, 110, 101, 32]⟩ : ByteArray) ++ t210).size + ((((⟨#[44, 32, 99, 111, 108, 117, 109, 110, 32]⟩ : ByteArray) ++ t205) ++ (⟨#[58, 32, 101, 114, 114, 111, 114, 32]⟩ : ByteArray)) ++ t206).size ≤ 9223372036854775807 then (some (t208.toList == (((⟨#[108, 105, 110, 101, 32]⟩ : ByteArray) ++ t210) ++ ((((⟨#[44, 32, 99, 111, 108, 117, 109, 110, 32]⟩ : ByteArray) ++ t205) ++ (⟨#[58, 32, 101, 114, 114, 111, 114, 32]⟩ : ByteArray)) ++ t206)).toList)) else (none)) else (none))) else (some false)) else (none)) else (none))) = some r := H
                                have A31 := Aside0.mk A310
                                clear A310
                                replace H := Option.bind_eq_some_iff.mp H
                                obtain ⟨t209, A320, H⟩ := H
                                replace H : (if 5 + t209.size ≤ 9223372036854775807 then (if ((⟨#[108, 105, 110, 101, 32]⟩ : ByteArray) ++ t209).size + ((((⟨#[44, 32, 99, 111, 108, 117, 109, 110, 32]⟩ : ByteArray) ++ t205) ++ (⟨#[58, 32, 101, 114, 114, 111, 114, 32]⟩ : ByteArray)) ++ t206).size ≤ 9223372036854775807 then (if t207.toList = (((⟨#[108, 105, 110, 101, 32]⟩ : ByteArray) ++ t209) ++ ((((⟨#[44, 32, 99, 111, 108, 117, 109, 110, 32]⟩ : ByteArray) ++ t205) ++ (⟨#[58, 32, 101, 114, 114, 111, 114, 32]⟩ : ByteArray)) ++ t206)).toList then ((entrepotref04_Num.f k3 (wrap64 (x11_3 + 1))).bind fun t210 => (if 5 + t210.size ≤ 9223372036854775807 then (if ((⟨#[108, 105, 110, 101, 32]⟩ : ByteArray) ++ t210).size + ((((⟨#[44, 32, 99, 111, 108, 117, 109, 110, 32]⟩ : ByteArray) ++ t205) ++ (⟨#[58, 32, 101, 114, 114, 111, 114, 32]⟩ : ByteArray)) ++ t206).size ≤ 9223372036854775807 then (some (t208.toList == (((⟨#[108, 105, 110, 101, 32]⟩ : ByteArray) ++ t210) ++ ((((⟨#[44, 32, 99, 111, 108, 117, 109, 110, 32]⟩ : ByteArray) ++ t205) ++ (⟨#[58, 32, 101, 114, 114, 111, 114, 32]⟩ : ByteArray)) ++ t206)).toList)) else (none)) else (none))) else (some false)) else (none)) else (none)) = some r := H
                                have A32 := Aside0.mk A320
                                clear A320
                                by_cases c33 : 5 + t209.size ≤ 9223372036854775807
                                · rw [if_pos c33] at H
                                  have c33b0 := eq_true c33
                                  have c33b1 : decide (5 + t209.size ≤ 9223372036854775807) = true := decide_eq_true c33
                                  try have c33b2 : (9223372036854775807 < 5 + t209.size) = False := eq_false (Nat.not_lt.2 c33)
                                  by_cases c34 : ((⟨#[108, 105, 110, 101, 32]⟩ : ByteArray) ++ t209).size + ((((⟨#[44, 32, 99, 111, 108, 117, 109, 110, 32]⟩ : ByteArray) ++ t205) ++ (⟨#[58, 32, 101, 114, 114, 111, 114, 32]⟩ : ByteArray)) ++ t206).size ≤ 9223372036854775807
                                  · rw [if_pos c34] at H
                                    have c34b0 := eq_true c34
                                    have c34b1 : decide (((⟨#[108, 105, 110, 101, 32]⟩ : ByteArray) ++ t209).size + ((((⟨#[44, 32, 99, 111, 108, 117, 109, 110, 32]⟩ : ByteArray) ++ t205) ++ (⟨#[58, 32, 101, 114, 114, 111, 114, 32]⟩ : ByteArray)) ++ t206).size ≤ 9223372036854775807) = true := decide_eq_true c34
                                    try have c34b2 : (9223372036854775807 < ((⟨#[108, 105, 110, 101, 32]⟩ : ByteArray) ++ t209).size + ((((⟨#[44, 32, 99, 111, 108, 117, 109, 110, 32]⟩ : ByteArray) ++ t205) ++ (⟨#[58, 32, 101, 114, 114, 111, 114, 32]⟩ : ByteArray)) ++ t206).size) = False := eq_false (Nat.not_lt.2 c34)
                                    try have c34b4 : (9223372036854775807 < 5 + t209.size + 9 + t205.size + 8 + t206.size) = False := eq_false (by have h_ := c34; simp only [ByteArray.size_append] at h_; have e0_ : (⟨#[108, 105, 110, 101, 32]⟩ : ByteArray).size = 5 := rfl; have e1_ : (⟨#[44, 32, 99, 111, 108, 117, 109, 110, 32]⟩ : ByteArray).size = 9 := rfl; have e2_ : (⟨#[58, 32, 101, 114, 114, 111, 114, 32]⟩ : ByteArray).size = 8 := rfl; omega)
                                    by_cases c35 : t207.toList = (((⟨#[108, 105, 110, 101, 32]⟩ : ByteArray) ++ t209) ++ ((((⟨#[44, 32, 99, 111, 108, 117, 109, 110, 32]⟩ : ByteArray) ++ t205) ++ (⟨#[58, 32, 101, 114, 114, 111, 114, 32]⟩ : ByteArray)) ++ t206)).toList
                                    · rw [if_pos c35] at H
                                      have c35b0 : (t207.toList == (((⟨#[108, 105, 110, 101, 32]⟩ : ByteArray) ++ t209) ++ ((((⟨#[44, 32, 99, 111, 108, 117, 109, 110, 32]⟩ : ByteArray) ++ t205) ++ (⟨#[58, 32, 101, 114, 114, 111, 114, 32]⟩ : ByteArray)) ++ t206)).toList) = true := beq_iff_eq.mpr c35
                                      have c35b1 : (t207.toList != (((⟨#[108, 105, 110, 101, 32]⟩ : ByteArray) ++ t209) ++ ((((⟨#[44, 32, 99, 111, 108, 117, 109, 110, 32]⟩ : ByteArray) ++ t205) ++ (⟨#[58, 32, 101, 114, 114, 111, 114, 32]⟩ : ByteArray)) ++ t206)).toList) = false := bne_eq_false_iff_eq.mpr c35
                                      clear c35
                                      replace H := Option.bind_eq_some_iff.mp H
                                      obtain ⟨t210, A360, H⟩ := H
                                      replace H : (if 5 + t210.size ≤ 9223372036854775807 then (if ((⟨#[108, 105, 110, 101, 32]⟩ : ByteArray) ++ t210).size + ((((⟨#[44, 32, 99, 111, 108, 117, 109, 110, 32]⟩ : ByteArray) ++ t205) ++ (⟨#[58, 32, 101, 114, 114, 111, 114, 32]⟩ : ByteArray)) ++ t206).size ≤ 9223372036854775807 then (some (t208.toList == (((⟨#[108, 105, 110, 101, 32]⟩ : ByteArray) ++ t210) ++ ((((⟨#[44, 32, 99, 111, 108, 117, 109, 110, 32]⟩ : ByteArray) ++ t205) ++ (⟨#[58, 32, 101, 114, 114, 111, 114, 32]⟩ : ByteArray)) ++ t206)).toList)) else (none)) else (none)) = some r := H
                                      have A36 := Aside0.mk A360
                                      clear A360
                                      by_cases c37 : 5 + t210.size ≤ 9223372036854775807
                                      · rw [if_pos c37] at H
                                        have c37b0 := eq_true c37
                                        have c37b1 : decide (5 + t210.size ≤ 9223372036854775807) = true := decide_eq_true c37
                                        try have c37b2 : (9223372036854775807 < 5 + t210.size) = False := eq_false (Nat.not_lt.2 c37)
                                        by_cases c38 : ((⟨#[108, 105, 110, 101, 32]⟩ : ByteArray) ++ t210).size + ((((⟨#[44, 32, 99, 111, 108, 117, 109, 110, 32]⟩ : ByteArray) ++ t205) ++ (⟨#[58, 32, 101, 114, 114, 111, 114, 32]⟩ : ByteArray)) ++ t206).size ≤ 9223372036854775807
                                        · rw [if_pos c38] at H
                                          have c38b0 := eq_true c38
                                          have c38b1 : decide (((⟨#[108, 105, 110, 101, 32]⟩ : ByteArray) ++ t210).size + ((((⟨#[44, 32, 99, 111, 108, 117, 109, 110, 32]⟩ : ByteArray) ++ t205) ++ (⟨#[58, 32, 101, 114, 114, 111, 114, 32]⟩ : ByteArray)) ++ t206).size ≤ 9223372036854775807) = true := decide_eq_true c38
                                          try have c38b2 : (9223372036854775807 < ((⟨#[108, 105, 110, 101, 32]⟩ : ByteArray) ++ t210).size + ((((⟨#[44, 32, 99, 111, 108, 117, 109, 110, 32]⟩ : ByteArray) ++ t205) ++ (⟨#[58, 32, 101, 114, 114, 111, 114, 32]⟩ : ByteArray)) ++ t206).size) = False := eq_false (Nat.not_lt.2 c38)
                                          try have c38b4 : (9223372036854775807 < 5 + t210.size + 9 + t205.size + 8 + t206.size) = False := eq_false (by have h_ := c38; simp only [ByteArray.size_append] at h_; have e0_ : (⟨#[108, 105, 110, 101, 32]⟩ : ByteArray).size = 5 := rfl; have e1_ : (⟨#[44, 32, 99, 111, 108, 117, 109, 110, 32]⟩ : ByteArray).size = 9 := rfl; have e2_ : (⟨#[58, 32, 101, 114, 114, 111, 114, 32]⟩ : ByteArray).size = 8 := rfl; omega)
                                          obtain rfl := Option.some.inj H
                                          go_wp2_with (first | ((with_reducible refine gate_callee (f := 15) rfl ?_); refine goesL_ (some 60) rfl rfl Tryd.func15 (by kernel_rfl) rfl #[.int .i64 x12_3] rfl (by (try simp only [List.map_toArray, List.map_cons, List.map_nil]); first | done | rfl | (simp only [List.length_drop, List.length_take]; rfl)) ?_; (with_reducible refine (entrepotref04_Num.calls k3 x12_3 t205 _ A23.out).mono ?_); rintro e w39 ⟨rfl, hb⟩; refine ⟨_, rfl, ?_⟩; have n0_ := Aside0.mk (below_step (by repeat (first | (with_reducible first | exact HB.out | apply below_alloc | apply pw_below_drewN | apply below_drew1) | exact HB.out)) hb); clear HB; have HB := n0_; clear n0_; (try clear hb); (try clear hb2); (try clear hk); (try clear hi)) | ((with_reducible refine gate_callee (f := 15) rfl ?_); refine goesL_ (some 65) rfl rfl Tryd.func15 (by kernel_rfl) rfl #[.int .i64 (wrap64 (a3))] rfl (by (try simp only [List.map_toArray, List.map_cons, List.map_nil]); first | done | rfl | (simp only [List.length_drop, List.length_take]; rfl)) ?_; (with_reducible refine (entrepotref04_Num.calls k3 (wrap64 (a3)) t206 _ A26.out).mono ?_); rintro e w40 ⟨rfl, hb⟩; refine ⟨_, rfl, ?_⟩; have n0_ := Aside0.mk (below_step (by repeat (first | (with_reducible first | exact HB.out | apply below_alloc | apply pw_below_drewN | apply below_drew1) | exact HB.out)) hb); clear HB; have HB := n0_; clear n0_; (try clear hb); (try clear hb2); (try clear hk); (try clear hi)) | ((with_reducible refine gate_callee (f := 13) rfl ?_); refine goesL_ (some 72) rfl rfl Tryd.func13 (by kernel_rfl) rfl #[.string a1, .agg #[.int .i64 (Int.tmod (wrap64 (a2)) (wrap64 ((a1.size : Int) + 1))), .int .i64 (wrap64 (a3))]] rfl (by (try simp only [List.map_toArray, List.map_cons, List.map_nil]); first | done | rfl | (simp only [List.length_drop, List.length_take]; rfl)) ?_; (with_reducible refine (diag_Tell.calls a1 (Int.tmod (wrap64 (a2)) (wrap64 ((a1.size : Int) + 1))) (wrap64 (a3)) t207 _ (Tab.below HT (by repeat (first | (with_reducible first | exact HB.out | apply below_alloc | apply pw_below_drewN | apply below_drew1) | exact HB.out))) A28.out).mono ?_); rintro e w41 ⟨rfl, hb⟩; refine ⟨_, rfl, ?_⟩; have n0_ := Aside0.mk (below_step (by repeat (first | (with_reducible first | exact HB.out | apply below_alloc | apply pw_below_drewN | apply below_drew1) | exact HB.out)) hb); clear HB; have HB := n0_; clear n0_; (try clear hb); (try clear hb2); (try clear hk); (try clear hi)) | ((with_reducible refine gate_callee (f := 13) rfl ?_); refine goesL_ (some 85) rfl rfl Tryd.func13 (by kernel_rfl) rfl #[.string ((a0 ++ (⟨#[10]⟩ : ByteArray)) ++ a1), .agg #[.int .i64 (wrap64 ((wrap64 ((Int.tmod (wrap64 (a2)) (wrap64 ((a1.size : Int) + 1))) + (a0.size : Int))) + 1)), .int .i64 (wrap64 (a3))]] rfl (by (try simp only [List.map_toArray, List.map_cons, List.map_nil]); first | done | rfl | (simp only [List.length_drop, List.length_take]; rfl)) ?_; (with_reducible refine (diag_Tell.calls ((a0 ++ (⟨#[10]⟩ : ByteArray)) ++ a1) (wrap64 ((wrap64 ((Int.tmod (wrap64 (a2)) (wrap64 ((a1.size : Int) + 1))) + (a0.size : Int))) + 1)) (wrap64 (a3)) t208 _ (Tab.below HT (by repeat (first | (with_reducible first | exact HB.out | apply below_alloc | apply pw_below_drewN | apply below_drew1) | exact HB.out))) A31.out).mono ?_); rintro e w42 ⟨rfl, hb⟩; refine ⟨_, rfl, ?_⟩; have n0_ := Aside0.mk (below_step (by repeat (first | (with_reducible first | exact HB.out | apply below_alloc | apply pw_below_drewN | apply below_drew1) | exact HB.out)) hb); clear HB; have HB := n0_; clear n0_; (try clear hb); (try clear hb2); (try clear hk); (try clear hi)) | ((with_reducible refine gate_callee (f := 15) rfl ?_); refine goesL_ (some 88) rfl rfl Tryd.func15 (by kernel_rfl) rfl #[.int .i64 x11_3] rfl (by (try simp only [List.map_toArray, List.map_cons, List.map_nil]); first | done | rfl | (simp only [List.length_drop, List.length_take]; rfl)) ?_; (with_reducible refine (entrepotref04_Num.calls k3 x11_3 t209 _ A32.out).mono ?_); rintro e w43 ⟨rfl, hb⟩; refine ⟨_, rfl, ?_⟩; have n0_ := Aside0.mk (below_step (by repeat (first | (with_reducible first | exact HB.out | apply below_alloc | apply pw_below_drewN | apply below_drew1) | exact HB.out)) hb); clear HB; have HB := n0_; clear n0_; (try clear hb); (try clear hb2); (try clear hk); (try clear hi)) | (go_at_call 15; (with_reducible refine (entrepotref04_Num.calls k3 (wrap64 (x11_3 + 1)) t210 _ A36.out).mono ?_); rintro e w44 ⟨rfl, hb⟩; have n0_ := Aside0.mk (below_step (by repeat (first | (with_reducible first | exact HB.out | apply below_alloc | apply pw_below_drewN | apply below_drew1) | exact HB.out)) hb); clear HB; have HB := n0_; clear n0_; (try clear hb); (try clear hb2); (try clear hk); (try clear hi)))
                                          go_ret
                                          exact ⟨by first | rfl | (simp [errW_none, errW_some] <;> rfl) | (simp [*, errW_none, errW_some] <;> rfl), by repeat (first | (with_reducible first | exact HB.out | apply below_alloc | apply pw_below_drewN | apply below_drew1) | exact HB.out)⟩
                                        · rw [if_neg c38] at H
                                          exact absurd H (by simp)
                                      · rw [if_neg c37] at H
                                        exact absurd H (by simp)
                                    · rw [if_neg c35] at H
                                      have c35b0 : (t207.toList == (((⟨#[108, 105, 110, 101, 32]⟩ : ByteArray) ++ t209) ++ ((((⟨#[44, 32, 99, 111, 108, 117, 109, 110, 32]⟩ : ByteArray) ++ t205) ++ (⟨#[58, 32, 101, 114, 114, 111, 114, 32]⟩ : ByteArray)) ++ t206)).toList) = false := beq_eq_false_iff_ne.mpr c35
                                      have c35b1 : (t207.toList != (((⟨#[108, 105, 110, 101, 32]⟩ : ByteArray) ++ t209) ++ ((((⟨#[44, 32, 99, 111, 108, 117, 109, 110, 32]⟩ : ByteArray) ++ t205) ++ (⟨#[58, 32, 101, 114, 114, 111, 114, 32]⟩ : ByteArray)) ++ t206)).toList) = true := bne_iff_ne.mpr c35
                                      obtain rfl := Option.some.inj H
                                      go_wp2_with (first | ((with_reducible refine gate_callee (f := 15) rfl ?_); refine goesL_ (some 60) rfl rfl Tryd.func15 (by kernel_rfl) rfl #[.int .i64 x12_3] rfl (by (try simp only [List.map_toArray, List.map_cons, List.map_nil]); first | done | rfl | (simp only [List.length_drop, List.length_take]; rfl)) ?_; (with_reducible refine (entrepotref04_Num.calls k3 x12_3 t205 _ A23.out).mono ?_); rintro e w45 ⟨rfl, hb⟩; refine ⟨_, rfl, ?_⟩; have n0_ := Aside0.mk (below_step (by repeat (first | (with_reducible first | exact HB.out | apply below_alloc | apply pw_below_drewN | apply below_drew1) | exact HB.out)) hb); clear HB; have HB := n0_; clear n0_; (try clear hb); (try clear hb2); (try clear hk); (try clear hi)) | ((with_reducible refine gate_callee (f := 15) rfl ?_); refine goesL_ (some 65) rfl rfl Tryd.func15 (by kernel_rfl) rfl #[.int .i64 (wrap64 (a3))] rfl (by (try simp only [List.map_toArray, List.map_cons, List.map_nil]); first | done | rfl | (simp only [List.length_drop, List.length_take]; rfl)) ?_; (with_reducible refine (entrepotref04_Num.calls k3 (wrap64 (a3)) t206 _ A26.out).mono ?_); rintro e w46 ⟨rfl, hb⟩; refine ⟨_, rfl, ?_⟩; have n0_ := Aside0.mk (below_step (by repeat (first | (with_reducible first | exact HB.out | apply below_alloc | apply pw_below_drewN | apply below_drew1) | exact HB.out)) hb); clear HB; have HB := n0_; clear n0_; (try clear hb); (try clear hb2); (try clear hk); (try clear hi)) | ((with_reducible refine gate_callee (f := 13) rfl ?_); refine goesL_ (some 72) rfl rfl Tryd.func13 (by kernel_rfl) rfl #[.string a1, .agg #[.int .i64 (Int.tmod (wrap64 (a2)) (wrap64 ((a1.size : Int) + 1))), .int .i64 (wrap64 (a3))]] rfl (by (try simp only [List.map_toArray, List.map_cons, List.map_nil]); first | done | rfl | (simp only [List.length_drop, List.length_take]; rfl)) ?_; (with_reducible refine (diag_Tell.calls a1 (Int.tmod (wrap64 (a2)) (wrap64 ((a1.size : Int) + 1))) (wrap64 (a3)) t207 _ (Tab.below HT (by repeat (first | (with_reducible first | exact HB.out | apply below_alloc | apply pw_below_drewN | apply below_drew1) | exact HB.out))) A28.out).mono ?_); rintro e w47 ⟨rfl, hb⟩; refine ⟨_, rfl, ?_⟩; have n0_ := Aside0.mk (below_step (by repeat (first | (with_reducible first | exact HB.out | apply below_alloc | apply pw_below_drewN | apply below_drew1) | exact HB.out)) hb); clear HB; have HB := n0_; clear n0_; (try clear hb); (try clear hb2); (try clear hk); (try clear hi)) | ((with_reducible refine gate_callee (f := 13) rfl ?_); refine goesL_ (some 85) rfl rfl Tryd.func13 (by kernel_rfl) rfl #[.string ((a0 ++ (⟨#[10]⟩ : ByteArray)) ++ a1), .agg #[.int .i64 (wrap64 ((wrap64 ((Int.tmod (wrap64 (a2)) (wrap64 ((a1.size : Int) + 1))) + (a0.size : Int))) + 1)), .int .i64 (wrap64 (a3))]] rfl (by (try simp only [List.map_toArray, List.map_cons, List.map_nil]); first | done | rfl | (simp only [List.length_drop, List.length_take]; rfl)) ?_; (with_reducible refine (diag_Tell.calls ((a0 ++ (⟨#[10]⟩ : ByteArray)) ++ a1) (wrap64 ((wrap64 ((Int.tmod (wrap64 (a2)) (wrap64 ((a1.size : Int) + 1))) + (a0.size : Int))) + 1)) (wrap64 (a3)) t208 _ (Tab.below HT (by repeat (first | (with_reducible first | exact HB.out | apply below_alloc | apply pw_below_drewN | apply below_drew1) | exact HB.out))) A31.out).mono ?_); rintro e w48 ⟨rfl, hb⟩; refine ⟨_, rfl, ?_⟩; have n0_ := Aside0.mk (below_step (by repeat (first | (with_reducible first | exact HB.out | apply below_alloc | apply pw_below_drewN | apply below_drew1) | exact HB.out)) hb); clear HB; have HB := n0_; clear n0_; (try clear hb); (try clear hb2); (try clear hk); (try clear hi)) | ((with_reducible refine gate_callee (f := 15) rfl ?_); refine goesL_ (some 88) rfl rfl Tryd.func15 (by kernel_rfl) rfl #[.int .i64 x11_3] rfl (by (try simp only [List.map_toArray, List.map_cons, List.map_nil]); first | done | rfl | (simp only [List.length_drop, List.length_take]; rfl)) ?_; (with_reducible refine (entrepotref04_Num.calls k3 x11_3 t209 _ A32.out).mono ?_); rintro e w49 ⟨rfl, hb⟩; refine ⟨_, rfl, ?_⟩; have n0_ := Aside0.mk (below_step (by repeat (first | (with_reducible first | exact HB.out | apply below_alloc | apply pw_below_drewN | apply below_drew1) | exact HB.out)) hb); clear HB; have HB := n0_; clear n0_; (try clear hb); (try clear hb2); (try clear hk); (try clear hi)))
                                      go_ret
                                      exact ⟨by first | rfl | (simp [errW_none, errW_some] <;> rfl) | (simp [*, errW_none, errW_some] <;> rfl), by repeat (first | (with_reducible first | exact HB.out | apply below_alloc | apply pw_below_drewN | apply below_drew1) | exact HB.out)⟩
                                  · rw [if_neg c34] at H
                                    exact absurd H (by simp)
                                · rw [if_neg c33] at H
                                  exact absurd H (by simp)
                              · rw [if_neg c30] at H
                                exact absurd H (by simp)
                            · rw [if_neg c29] at H
                              exact absurd H (by simp)
                          · rw [if_neg c27] at H
                            exact absurd H (by simp)
                        · rw [if_neg c25] at H
                          exact absurd H (by simp)
                      · rw [if_neg c24] at H
                        exact absurd H (by simp)

/-- THE ONE PURE STATEMENT of entrepotlaw04_DiagLines: yours. -/
def entrepotlaw04_DiagLines.Pure : Prop := ∀ (a0 : ByteArray) (a1 : ByteArray) (a2 : Int) (a3 : Int), a0.size ≤ 140737488351232 → a1.size ≤ 140737488351232 → (Lit.int .u16 a2).wf = true → (Lit.int .i32 a3).wf = true → ∃ k, entrepotlaw04_DiagLines.f k a0 a1 a2 a3 = some true
theorem entrepotlaw04_DiagLines.walk (P : entrepotlaw04_DiagLines.Pure) (a0 : ByteArray) (a1 : ByteArray) (a2 : Int) (a3 : Int) (w : World) (HT : Tab w) (w0 : a0.size ≤ 140737488351232) (w1 : a1.size ≤ 140737488351232) (w2 : (Lit.int .u16 a2).wf = true) (w3 : (Lit.int .i32 a3).wf = true) :
    Calls Tryd.prog 5 #[.string a0, .string a1, .int .u16 a2, .int .i32 a3] w fun e w' => e = .returned (.bool true) ∧ Below w.heap.size w w' := by
  obtain ⟨k, h⟩ := P a0 a1 a2 a3 w0 w1 w2 w3
  refine (entrepotlaw04_DiagLines.calls k a0 a1 a2 a3 true w HT h).mono ?_
  rintro e w' ⟨rfl, hd⟩
  exact ⟨rfl, hd⟩

/-! ### entrepotlaw04_long: function 16 -/
mutual
def entrepotlaw04_long.l0 : Nat → List (List (S25)) → Int → Int → Option (Bool)
  | 0, _, _, _ => none
  | k + 1, x0, x3, x4 => if x4 < (x0.length : Int) then (entrepotlaw04_long.j1 k x0 x3 x4 (decide (x4 < 30))) else (entrepotlaw04_long.j1 k x0 x3 x4 false)
def entrepotlaw04_long.j1 : Nat → List (List (S25)) → Int → Int → Bool → Option (Bool)
  | 0, _, _, _, _ => none
  | k + 1, x0, x3, x4, x12 => if x12 = true then (if 0 ≤ x4 then (if x4 < (x0.length : Int) then (if ((rd_L2 x0 x4).length : Int) > 60 then (some true) else (entrepotlaw04_long.l0 k x0 (wrap64 (x3 + ((rd_L2 x0 x4).length : Int))) (wrap64 (x4 + 1)))) else (none)) else (none)) else (if (x0.length : Int) > 20 then (some true) else (some (decide (x3 > 200))))
end
def entrepotlaw04_long.f (k : Nat) (l0 : List (List (S25))) : Option (Bool) := entrepotlaw04_long.l0 k l0 0 0
theorem entrepotlaw04_long.mono_l : ∀ k, (∀ y0 y1 y2, LeO (entrepotlaw04_long.l0 k y0 y1 y2) (entrepotlaw04_long.l0 (k + 1) y0 y1 y2)) ∧ (∀ y0 y1 y2 y3, LeO (entrepotlaw04_long.j1 k y0 y1 y2 y3) (entrepotlaw04_long.j1 (k + 1) y0 y1 y2 y3))
  | 0 => ⟨fun _ _ _ r h => by simp [entrepotlaw04_long.l0] at h, fun _ _ _ _ r h => by simp [entrepotlaw04_long.j1] at h⟩
  | k + 1 => by
    obtain ⟨ih0, ih1⟩ := entrepotlaw04_long.mono_l k
    refine ⟨?_, ?_⟩
    · intro y0 y1 y2
      unfold entrepotlaw04_long.l0
      repeat' first
      | (with_reducible exact ih0 _ _ _)
      | (with_reducible exact ih1 _ _ _ _)
      | (with_reducible exact LeO.refl _)
      | (with_reducible exact LeO.none _)
      | (with_reducible refine LeO.ite ?_ ?_)
      | (with_reducible refine LeO.bind ?_ (fun _ => ?_))
      | exact ih0 _ _ _
      | exact ih1 _ _ _ _
      | exact LeO.none _
      | refine LeO.ite ?_ ?_
      | refine LeO.bind ?_ (fun _ => ?_)
    · intro y0 y1 y2 y3
      unfold entrepotlaw04_long.j1
      repeat' first
      | (with_reducible exact ih0 _ _ _)
      | (with_reducible exact ih1 _ _ _ _)
      | (with_reducible exact LeO.refl _)
      | (with_reducible exact LeO.none _)
      | (with_reducible refine LeO.ite ?_ ?_)
      | (with_reducible refine LeO.bind ?_ (fun _ => ?_))
      | exact ih0 _ _ _
      | exact ih1 _ _ _ _
      | exact LeO.none _
      | refine LeO.ite ?_ ?_
      | refine LeO.bind ?_ (fun _ => ?_)
theorem entrepotlaw04_long.mono : ∀ a0 k, LeO (entrepotlaw04_long.f k a0) (entrepotlaw04_long.f (k + 1) a0) := by
  intro a0 k
  obtain ⟨ih0, ih1⟩ := entrepotlaw04_long.mono_l k
  unfold entrepotlaw04_long.f
  repeat' first
      | (with_reducible exact ih0 _ _ _)
      | (with_reducible exact ih1 _ _ _ _)
      | (with_reducible exact LeO.refl _)
      | (with_reducible exact LeO.none _)
      | (with_reducible refine LeO.ite ?_ ?_)
      | (with_reducible refine LeO.bind ?_ (fun _ => ?_))
      | exact ih0 _ _ _
      | exact ih1 _ _ _ _
      | exact LeO.none _
      | refine LeO.ite ?_ ?_
      | refine LeO.bind ?_ (fun _ => ?_)
set_option maxHeartbeats 8000000 in
set_option maxRecDepth 100000 in
theorem entrepotlaw04_long.calls (k : Nat) (A0 : Option Addr) (c0 : Nat) (l0 : List (List (S25))) (r : Bool) (w : World) (hr0 : Kd.C (Kd.slice 25 k25) w A0 l0.length l0) (hc0 : l0.length ≤ c0) (h : entrepotlaw04_long.f k l0 = some r) :
    Calls Tryd.prog 16 #[.slice A0 l0.length c0] w fun e w' => e = .returned (.bool r) ∧ Drawn0 w w' := by
  have HR0 := Aside0.mk hr0
  have HC0 := Aside0.mk hc0
  clear hr0 hc0
  have H : (entrepotlaw04_long.l0 k l0 0 0) = some r := h
  clear h
  have H' := Aside0.mk H
  clear H
  go_enter Tryd.func16, Tryd.ntmps16
  go_wp2
  go_loopg [3, 4] k (fun kq v3 v4 w' => ∃ (x3_1 : Int) (x4_1 : Int), v3 = .int .i64 x3_1 ∧ v4 = .int .i64 x4_1 ∧ Aside0 (entrepotlaw04_long.l0 kq l0 x3_1 x4_1 = some r) ∧ Aside0 (kq ≤ k) ∧ Drawn0 w w')
  case atStart => exact ⟨(0), (0), (by first | rfl | (simp; done) | (simp [*]; done)), (by first | rfl | (simp; done) | (simp [*]; done)), H', ⟨Nat.le_refl _⟩, by repeat (first | exact Drawn0.refl _ | apply Drawn0.step)⟩
  case round =>
    clear H'
    try clear c1
    obtain ⟨x3_1, x4_1, rfl, rfl, HA, HK1, ⟨m1, rfl⟩⟩ := hrel
    cases gk with
    | zero => exact absurd HA.out (by simp [entrepotlaw04_long.l0])
    | succ k1 =>
      have H := HA.out
      clear HA
      simp only [entrepotlaw04_long.l0] at H
      have HC2 := Aside0.mk H
      clear H
      go_upto_region 3 with (fail)
      go_cut [12] (fun v12 wc => ∃ (kq : Nat) (x12_1 : Bool), v12 = .bool x12_1 ∧ Aside0 (entrepotlaw04_long.j1 kq l0 x3_1 x4_1 x12_1 = some r) ∧ Aside0 (kq ≤ k1) ∧ Drawn0 w wc)
      case first =>
        have H := HC2.out
        clear HC2
        by_cases c3 : x4_1 < (l0.length : Int)
        · rw [if_pos c3] at H
          have c3b0 : decide (x4_1 < (l0.length : Int)) = true := decide_eq_true c3
          clear c3
          (first | rw [c3b0] | (simp only [i64_w, i32_w]; rw [c3b0]) | skip)
          have H' := Aside0.mk H
          clear H
          go_wp2
          go_meet
          case rel => exact ⟨_, (decide (x4_1 < 30)), (by first | rfl | (simp; done) | (simp [*]; done)), H', ⟨by have := HK1.out; first | omega | exact Nat.le_refl _⟩, by repeat (first | exact Drawn0.refl _ | apply Drawn0.step)⟩
        · rw [if_neg c3] at H
          have c3b0 : decide (x4_1 < (l0.length : Int)) = false := decide_eq_false c3
          clear c3
          (first | rw [c3b0] | (simp only [i64_w, i32_w]; rw [c3b0]) | skip)
          have H' := Aside0.mk H
          clear H
          go_wp2
          go_meet
          case rel => exact ⟨_, (false), (by first | rfl | (simp; done) | (simp [*]; done)), H', ⟨by have := HK1.out; first | omega | exact Nat.le_refl _⟩, by repeat (first | exact Drawn0.refl _ | apply Drawn0.step)⟩
      case rest =>
        clear HC2
        try clear c1
        try clear p2
        try clear c3
        try clear c3b0
        obtain ⟨kq, x12_1, rfl, HA, HJ1, ⟨mc1, rfl⟩⟩ := hcut
        cases kq with
        | zero => exact absurd HA.out (by simp [entrepotlaw04_long.j1])
        | succ kj1 =>
          have H := HA.out
          clear HA
          simp only [entrepotlaw04_long.j1] at H
          by_cases c4 : x12_1 = true
          · subst c4
            have H1 : (if 0 ≤ x4_1 then (if x4_1 < (l0.length : Int) then (if ((rd_L2 l0 x4_1).length : Int) > 60 then (some true) else (entrepotlaw04_long.l0 kj1 l0 (wrap64 (x3_1 + ((rd_L2 l0 x4_1).length : Int))) (wrap64 (x4_1 + 1)))) else (none)) else (none)) = some r := by rw [if_pos rfl] at H; exact H
            clear H
            have H := H1
            clear H1
            by_cases c5 : 0 ≤ x4_1
            · rw [if_pos c5] at H
              have c5b0 : decide (0 ≤ x4_1) = true := decide_eq_true c5
              clear c5
              by_cases c6 : x4_1 < (l0.length : Int)
              · rw [if_pos c6] at H
                have c6b0 : decide (x4_1 < (l0.length : Int)) = true := decide_eq_true c6
                clear c6
                by_cases c7 : ((rd_L2 l0 x4_1).length : Int) > 60
                · rw [if_pos c7] at H
                  have c7b0 : decide (60 < ((rd_L2 l0 x4_1).length : Int)) = true := decide_eq_true c7
                  have c7b1 : decide (60 < (rd_L2 l0 x4_1).length) = true := decide_eq_true (by omega)
                  clear c7
                  obtain rfl := Option.some.inj H
                  have p211 : 0 ≤ (x4_1 : Int) := of_decide_eq_true (by first | (with_reducible assumption) | assumption)
                  have q211 : x4_1 < (l0.length : Int) := of_decide_eq_true (by first | (with_reducible assumption) | assumption)
                  obtain ⟨ad211, A211_0, c211_0, e211, hx211_0, hl211_0, hi211_0⟩ := at_L2 HR0.out x4_1 p211 q211
                  cases e211
                  have HR211_0 := Aside0.mk hi211_0
                  have HC211_0 := Aside0.mk hl211_0
                  clear hi211_0 hl211_0
                  replace p211 := eq_true p211
                  replace q211 := eq_true q211
                  go_wp2
                  go_ret
                  exact ⟨by first | rfl | (simp; done) | (simp [*]; done), by repeat (first | exact Drawn0.refl _ | apply Drawn0.step)⟩
                · rw [if_neg c7] at H
                  have c7b0 : decide (60 < ((rd_L2 l0 x4_1).length : Int)) = false := decide_eq_false c7
                  have c7b1 : decide (60 < (rd_L2 l0 x4_1).length) = false := decide_eq_false (by omega)
                  clear c7
                  have H' := Aside0.mk H
                  clear H
                  have p211 : 0 ≤ (x4_1 : Int) := of_decide_eq_true (by first | (with_reducible assumption) | assumption)
                  have q211 : x4_1 < (l0.length : Int) := of_decide_eq_true (by first | (with_reducible assumption) | assumption)
                  obtain ⟨ad211, A211_0, c211_0, e211, hx211_0, hl211_0, hi211_0⟩ := at_L2 HR0.out x4_1 p211 q211
                  cases e211
                  have HR211_0 := Aside0.mk hi211_0
                  have HC211_0 := Aside0.mk hl211_0
                  clear hi211_0 hl211_0
                  replace p211 := eq_true p211
                  replace q211 := eq_true q211
                  have p212 : 0 ≤ (x4_1 : Int) := of_decide_eq_true (by first | (with_reducible assumption) | assumption)
                  have q212 : x4_1 < (l0.length : Int) := of_decide_eq_true (by first | (with_reducible assumption) | assumption)
                  obtain ⟨ad212, A212_0, c212_0, e212, hx212_0, hl212_0, hi212_0⟩ := at_L2 HR0.out x4_1 p212 q212
                  obtain rfl : ad211 = ad212 := (by injection e212)
                  have HR212_0 := Aside0.mk hi212_0
                  have HC212_0 := Aside0.mk hl212_0
                  clear hi212_0 hl212_0
                  replace p212 := eq_true p212
                  replace q212 := eq_true q212
                  have ea_ := Option.some.inj (hx211_0.symm.trans hx212_0)
                  injection ea_ with ea_ en_ ec_
                  subst ea_
                  subst ec_
                  clear en_
                  go_wp2
                  go_roundg kj1
                  case measure => have := HK1.out; have := HJ1.out; omega
                  case rel => exact ⟨(wrap64 (x3_1 + ((rd_L2 l0 x4_1).length : Int))), (wrap64 (x4_1 + 1)), (by first | rfl | (simp; done) | (simp [*]; done)), (by first | rfl | (simp; done) | (simp [*]; done)), H', ⟨by have := HK1.out; have := HJ1.out; omega⟩, by repeat (first | exact Drawn0.refl _ | apply Drawn0.step)⟩
              · rw [if_neg c6] at H
                exact absurd H (by simp)
            · rw [if_neg c5] at H
              exact absurd H (by simp)
          · replace c4 := Bool.eq_false_iff.mpr c4
            subst c4
            have H1 : (if (l0.length : Int) > 20 then (some true) else (some (decide (x3_1 > 200)))) = some r := by rw [if_neg (show ¬ (false = true) by decide)] at H; exact H
            clear H
            have H := H1
            clear H1
            by_cases c8 : (l0.length : Int) > 20
            · rw [if_pos c8] at H
              have c8b0 : decide (20 < (l0.length : Int)) = true := decide_eq_true c8
              have c8b1 : decide (20 < l0.length) = true := decide_eq_true (by omega)
              clear c8
              obtain rfl := Option.some.inj H
              go_wp2
              go_ret
              exact ⟨by first | rfl | (simp; done) | (simp [*]; done), by repeat (first | exact Drawn0.refl _ | apply Drawn0.step)⟩
            · rw [if_neg c8] at H
              have c8b0 : decide (20 < (l0.length : Int)) = false := decide_eq_false c8
              have c8b1 : decide (20 < l0.length) = false := decide_eq_false (by omega)
              clear c8
              obtain rfl := Option.some.inj H
              go_wp2
              go_ret
              exact ⟨by first | rfl | (simp; done) | (simp [*]; done), by repeat (first | exact Drawn0.refl _ | apply Drawn0.step)⟩

-- NOT PRINTED: function 39 (api_Diag_39)

-- NOT PRINTED: function 31 (api_Diag_31)

-- NOT PRINTED: function 47 (api_Diag_47)

-- NOT PRINTED: function 64 (api_Diag_64)

-- NOT PRINTED: function 48 (api_Diag_48)

-- NOT PRINTED: function 66 (slices_xorshift_Next)

-- NOT PRINTED: function 49 (api_Diag_49)

-- NOT PRINTED: function 73 (api_Diag_73)

-- NOT PRINTED: function 68 (api_Diag_68)

-- NOT PRINTED: function 67 (api_Diag_67)

-- NOT PRINTED: function 50 (api_Diag_50)

-- NOT PRINTED: function 51 (api_Diag_51)

-- NOT PRINTED: function 52 (api_Diag_52)

-- NOT PRINTED: function 53 (api_Diag_53)

-- NOT PRINTED: function 54 (api_Diag_54)

-- NOT PRINTED: function 40 (api_Diag_40)

-- NOT PRINTED: function 32 (api_Diag_32)

end Go.Proofs.YtgphciopondlaaaDoor.PAll
