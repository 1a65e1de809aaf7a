-- Written by a program out of the translation, for several roots at once (set All). Not trusted: Lean checks it.
import Derived.Test.YtainnkpoibgkcaaDoorPAllx0
import Derived.Test.YtainnkpoibgkcaaDoorPAllx1
import Derived.Test.YtainnkpoibgkcaaDoorPAllx2
import Derived.Test.YtainnkpoibgkcaaDoorGivenX
namespace Go.Proofs.YtainnkpoibgkcaaDoor.PAll
open Go.RowKit Go.Proofs.YtainnkpoibgkcaaDoorW.PrintWords Go.Proofs.YtainnkpoibgkcaaDoorW.PrintLast Go.Proofs.YtainnkpoibgkcaaDoorW.PrintMore
attribute [local go_sem] max2_int min2_int max_two min_two max_three min_three max_four min_four   -- for this text's walks alone
set_option linter.unusedVariables false
set_option linter.unusedSimpArgs false

attribute [local go_sem high] eqA34 eqA38
/-! ### entrepotlaw19_JsonicTexts: function 7 -/
mutual
def entrepotlaw19_JsonicTexts.j0 : Nat → ByteArray → Int → Bool → Option (Bool)
  | 0, _, _, _ => none
  | k + 1, x0, x1, x20 => if x20 = true then ((entrepotlaw19_shown.f).bind fun t246 => (some t246)) else ((jsonic_Quote.f x0).bind fun bt247 => (entrepotlaw19_JsonicTexts.l0 k x0 x1 bt247.1 bt247.2 0))
def entrepotlaw19_JsonicTexts.l0 : Nat → ByteArray → Int → ByteArray → Bool → Int → Option (Bool)
  | 0, _, _, _, _, _ => none
  | k + 1, x0, x1, x5, x6, x7 => if x7 < (x0.size : Int) then (if 0 ≤ x7 then (if (bt x0 x7) > 127 then (if x5.toList = ([] : List UInt8) then (some (!x6)) else (some false)) else (entrepotlaw19_JsonicTexts.l0 k x0 x1 x5 x6 (wrap64 (x7 + 1)))) else (none)) else ((jsonic_Parse.f x5).bind fun bt249 => (entrepotlaw19_JsonicTexts.l1 k x0 x1 x5 x6 bt249.1 0 bt249.2.1 bt249.2.2))
def entrepotlaw19_JsonicTexts.l1 : Nat → ByteArray → Int → ByteArray → Bool → List (S38) → Int → Int → Int → Option (Bool)
  | 0, _, _, _, _, _, _, _, _ => none
  | k + 1, x0, x1, x5, x6, x8, x10, x255000, x255001 => if x10 < (x5.size : Int) then (if 0 ≤ x10 then (if (bt x5 x10) < 32 then (some false) else (if (bt x5 x10) > 126 then (some false) else (entrepotlaw19_JsonicTexts.l1 k x0 x1 x5 x6 x8 (wrap64 (x10 + 1)) x255000 x255001))) else (none)) else (if x6 = true then (if (x8.length : Int) = 1 then (if 0 < (x8.length : Int) then (if (!(((rd_T38 x8 0).f0) == 2) || (!(((rd_T38 x8 0).f1) == 0) || (!((((rd_T38 x8 0).f2).toList) == x0.toList) || (!(((rd_T38 x8 0).f3) == 0))))) = true then (some false) else (if (!(x255000 == 0) || (!(x255001 == 0))) = true then (some false) else (if (x5.size : Int) < (wrap64 ((x0.size : Int) + 2)) then (some false) else (if (x5.size : Int) = 0 then (none) else (if 0 ≤ (Int.tmod (wrap64 (x1)) (x5.size : Int)) then (if (Int.tmod (wrap64 (x1)) (x5.size : Int)) ≤ (x5.size : Int) then ((jsonic_Parse.f (x5.extract 0 ((Int.tmod (wrap64 (x1)) (x5.size : Int)) : Int).toNat)).bind fun bt256 => (if (bt256.1.length : Int) = 0 then (if bt256.2.2 = 190 then (some (decide (bt256.2.1 ≤ (Int.tmod (wrap64 (x1)) (x5.size : Int))))) else (some false)) else (some false))) else (none)) else (none)))))) else (none)) else (some false)) else (some false))
end
def entrepotlaw19_JsonicTexts.f (k : Nat) (a0 : ByteArray) (a1 : Int) : Option (Bool) := if (a0.size : Int) > 300 then (entrepotlaw19_JsonicTexts.j0 k a0 a1 true) else ((entrepotlaw19_shown.f).bind fun t245 => (entrepotlaw19_JsonicTexts.j0 k a0 a1 (!t245)))
theorem entrepotlaw19_JsonicTexts.mono_l : ∀ k, (∀ y0 y1 y2, LeO (entrepotlaw19_JsonicTexts.j0 k y0 y1 y2) (entrepotlaw19_JsonicTexts.j0 (k + 1) y0 y1 y2)) ∧ (∀ y0 y1 y2 y3 y4, LeO (entrepotlaw19_JsonicTexts.l0 k y0 y1 y2 y3 y4) (entrepotlaw19_JsonicTexts.l0 (k + 1) y0 y1 y2 y3 y4)) ∧ (∀ y0 y1 y2 y3 y4 y5 y6 y7, LeO (entrepotlaw19_JsonicTexts.l1 k y0 y1 y2 y3 y4 y5 y6 y7) (entrepotlaw19_JsonicTexts.l1 (k + 1) y0 y1 y2 y3 y4 y5 y6 y7))
  | 0 => ⟨fun _ _ _ r h => by simp [entrepotlaw19_JsonicTexts.j0] at h, fun _ _ _ _ _ r h => by simp [entrepotlaw19_JsonicTexts.l0] at h, fun _ _ _ _ _ _ _ _ r h => by simp [entrepotlaw19_JsonicTexts.l1] at h⟩
  | k + 1 => by
    obtain ⟨ih0, ih1, ih2⟩ := entrepotlaw19_JsonicTexts.mono_l k
    refine ⟨?_, ?_, ?_⟩
    · intro y0 y1 y2
      unfold entrepotlaw19_JsonicTexts.j0
      repeat' first
      | (with_reducible exact ih0 _ _ _)
      | (with_reducible exact ih1 _ _ _ _ _)
      | (with_reducible exact ih2 _ _ _ _ _ _ _ _)
      | (with_reducible exact LeO.refl _)
      | (with_reducible exact LeO.none _)
      | (with_reducible refine LeO.ite ?_ ?_)
      | (with_reducible refine LeO.bind ?_ (fun _ => ?_))
      | exact ih0 _ _ _
      | exact ih1 _ _ _ _ _
      | exact ih2 _ _ _ _ _ _ _ _
      | exact LeO.none _
      | refine LeO.ite ?_ ?_
      | refine LeO.bind ?_ (fun _ => ?_)
    · intro y0 y1 y2 y3 y4
      unfold entrepotlaw19_JsonicTexts.l0
      repeat' first
      | (with_reducible exact ih0 _ _ _)
      | (with_reducible exact ih1 _ _ _ _ _)
      | (with_reducible exact ih2 _ _ _ _ _ _ _ _)
      | (with_reducible exact LeO.refl _)
      | (with_reducible exact LeO.none _)
      | (with_reducible refine LeO.ite ?_ ?_)
      | (with_reducible refine LeO.bind ?_ (fun _ => ?_))
      | exact ih0 _ _ _
      | exact ih1 _ _ _ _ _
      | exact ih2 _ _ _ _ _ _ _ _
      | exact LeO.none _
      | refine LeO.ite ?_ ?_
      | refine LeO.bind ?_ (fun _ => ?_)
    · intro y0 y1 y2 y3 y4 y5 y6 y7
      unfold entrepotlaw19_JsonicTexts.l1
      repeat' first
      | (with_reducible exact ih0 _ _ _)
      | (with_reducible exact ih1 _ _ _ _ _)
      | (with_reducible exact ih2 _ _ _ _ _ _ _ _)
      | (with_reducible exact LeO.refl _)
      | (with_reducible exact LeO.none _)
      | (with_reducible refine LeO.ite ?_ ?_)
      | (with_reducible refine LeO.bind ?_ (fun _ => ?_))
      | exact ih0 _ _ _
      | exact ih1 _ _ _ _ _
      | exact ih2 _ _ _ _ _ _ _ _
      | exact LeO.none _
      | refine LeO.ite ?_ ?_
      | refine LeO.bind ?_ (fun _ => ?_)
theorem entrepotlaw19_JsonicTexts.mono : ∀ a0 a1 k, LeO (entrepotlaw19_JsonicTexts.f k a0 a1) (entrepotlaw19_JsonicTexts.f (k + 1) a0 a1) := by
  intro a0 a1 k
  obtain ⟨ih0, ih1, ih2⟩ := entrepotlaw19_JsonicTexts.mono_l k
  unfold entrepotlaw19_JsonicTexts.f
  repeat' first
      | (with_reducible exact ih0 _ _ _)
      | (with_reducible exact ih1 _ _ _ _ _)
      | (with_reducible exact ih2 _ _ _ _ _ _ _ _)
      | (with_reducible exact LeO.refl _)
      | (with_reducible exact LeO.none _)
      | (with_reducible refine LeO.ite ?_ ?_)
      | (with_reducible refine LeO.bind ?_ (fun _ => ?_))
      | exact ih0 _ _ _
      | exact ih1 _ _ _ _ _
      | exact ih2 _ _ _ _ _ _ _ _
      | exact LeO.none _
      | refine LeO.ite ?_ ?_
      | refine LeO.bind ?_ (fun _ => ?_)
set_option maxHeartbeats 8000000 in
set_option maxRecDepth 100000 in
theorem entrepotlaw19_JsonicTexts.calls (k : Nat) (a0 : ByteArray) (a1 : Int) (r : Bool) (w : World) (HT : Tab w) (h : entrepotlaw19_JsonicTexts.f k a0 a1 = some r) :
    Calls Tryd.prog 7 #[.string a0, .int .u16 a1] w fun e w' => e = .returned (.bool r) ∧ Below w.heap.size w w' := by
  have hu34 := Tryd.underlying34
  have hu38 := Tryd.underlying38
  have HB := Aside0.mk (Below.refl w.heap.size w)
  have H : (if (a0.size : Int) > 300 then (entrepotlaw19_JsonicTexts.j0 k a0 a1 true) else ((entrepotlaw19_shown.f).bind fun t245 => (entrepotlaw19_JsonicTexts.j0 k a0 a1 (!t245)))) = some r := h
  clear h
  have HC3 := Aside0.mk H
  clear H
  go_enter Tryd.func7, Tryd.ntmps7
  go_upto_region 1 with (fail)
  go_cut [20] (fun v20 wc => ∃ (kq : Nat) (x20_2 : Bool), v20 = .bool x20_2 ∧ Aside0 (entrepotlaw19_JsonicTexts.j0 kq a0 a1 x20_2 = some r) ∧ Aside0 (kq ≤ k) ∧ Aside0 (Below w.heap.size w wc))
  case first =>
    have H := HC3.out
    clear HC3
    by_cases c4 : (a0.size : Int) > 300
    · rw [if_pos c4] at H
      have c4b0 : decide (300 < (a0.size : Int)) = true := decide_eq_true c4
      have c4b1 : decide (300 < a0.size) = true := decide_eq_true (by omega)
      clear c4
      (first | rw [c4b0] | (simp only [i64_w, i32_w]; rw [c4b0]) | skip)
      have H' := Aside0.mk H
      clear H
      go_wp2
      go_meet
      case rel => exact ⟨_, (true), (by first | rfl | (simp; done) | (simp [*]; done)), H', ⟨by first | omega | exact Nat.le_refl _⟩, ⟨by repeat (first | (with_reducible first | exact HB.out | apply below_alloc | apply pw_below_drewN | apply below_drew1) | exact HB.out)⟩⟩
    · rw [if_neg c4] at H
      have c4b0 : decide (300 < (a0.size : Int)) = false := decide_eq_false c4
      have c4b1 : decide (300 < a0.size) = false := decide_eq_false (by omega)
      clear c4
      (first | rw [c4b0] | (simp only [i64_w, i32_w]; rw [c4b0]) | skip)
      replace H := Option.bind_eq_some_iff.mp H
      obtain ⟨t245, A50, H⟩ := H
      replace H : (entrepotlaw19_JsonicTexts.j0 k a0 a1 (!t245)) = some r := H
      have A5 := Aside0.mk A50
      clear A50
      have H' := Aside0.mk H
      clear H
      go_wp2_with (first | (go_at_call 9; (with_reducible refine (entrepotlaw19_shown.calls  t245 _ (Tab.below HT (by repeat (first | (with_reducible first | exact HB.out | apply below_alloc | apply pw_below_drewN | apply below_drew1) | exact HB.out))) A5.out).mono ?_); rintro e w6 ⟨rfl, hb⟩; have n0_ := Aside0.mk (below_step (by repeat (first | (with_reducible first | exact HB.out | apply below_alloc | apply pw_below_drewN | apply below_drew1) | exact HB.out)) hb); clear HB; have HB := n0_; clear n0_; (try clear hb); (try clear hb2); (try clear hk); (try clear hi)))
      go_meet
      case rel => exact ⟨_, (!t245), (by first | rfl | (simp; done) | (simp [*]; done)), H', ⟨by first | omega | exact Nat.le_refl _⟩, ⟨by repeat (first | (with_reducible first | exact HB.out | apply below_alloc | apply pw_below_drewN | apply below_drew1) | exact HB.out)⟩⟩
  case rest =>
    clear HC3
    try clear p2
    try clear c4
    try clear c4b0
    try clear c4b1
    obtain ⟨kq, x20_2, rfl, HA, HJ2, HB⟩ := hcut
    cases kq with
    | zero => exact absurd HA.out (by simp [entrepotlaw19_JsonicTexts.j0])
    | succ kj2 =>
      have H := HA.out
      clear HA
      simp only [entrepotlaw19_JsonicTexts.j0] at H
      by_cases c7 : x20_2 = true
      · subst c7
        have H1 : ((entrepotlaw19_shown.f).bind fun t246 => (some t246)) = some r := by rw [if_pos rfl] at H; exact H
        clear H
        have H := H1
        clear H1
        replace H := Option.bind_eq_some_iff.mp H
        obtain ⟨t246, A80, H⟩ := H
        replace H : (some t246) = some r := H
        have A8 := Aside0.mk A80
        clear A80
        obtain rfl := Option.some.inj H
        go_wp2_with (first | ((with_reducible refine gate_callee (f := 9) rfl ?_); refine goesL_ (some 21) rfl rfl Tryd.func9 (by kernel_rfl) rfl #[] rfl (by (try simp only [List.map_toArray, List.map_cons, List.map_nil]); first | done | rfl | (simp only [List.length_drop, List.length_take]; rfl)) ?_; (with_reducible refine (entrepotlaw19_shown.calls  t246 _ (Tab.below HT (by repeat (first | (with_reducible first | exact HB.out | apply below_alloc | apply pw_below_drewN | apply below_drew1) | exact HB.out))) A8.out).mono ?_); rintro e w9 ⟨rfl, hb⟩; refine ⟨_, rfl, ?_⟩; have n0_ := Aside0.mk (below_step (by repeat (first | (with_reducible first | exact HB.out | apply below_alloc | apply pw_below_drewN | apply below_drew1) | exact HB.out)) hb); clear HB; have HB := n0_; clear n0_; (try clear hb); (try clear hb2); (try clear hk); (try clear hi)))
        go_ret
        exact ⟨by first | rfl | (simp [errW_none, errW_some] <;> rfl) | (simp [*, errW_none, errW_some] <;> rfl), by repeat (first | (with_reducible first | exact HB.out | apply below_alloc | apply pw_below_drewN | apply below_drew1) | exact HB.out)⟩
      · replace c7 := Bool.eq_false_iff.mpr c7
        subst c7
        have H1 : ((jsonic_Quote.f a0).bind fun bt247 => (entrepotlaw19_JsonicTexts.l0 kj2 a0 a1 bt247.1 bt247.2 0)) = some r := by rw [if_neg (show ¬ (false = true) by decide)] at H; exact H
        clear H
        have H := H1
        clear H1
        replace H := Option.bind_eq_some_iff.mp H
        obtain ⟨⟨t247, t248⟩, A100, H⟩ := H
        replace H : (entrepotlaw19_JsonicTexts.l0 kj2 a0 a1 t247 t248 0) = some r := H
        have A10 := Aside0.mk A100
        clear A100
        have H' := Aside0.mk H
        clear H
        go_wp2_with (first | ((with_reducible refine gate_callee (f := 13) rfl ?_); refine goesL_ (some 24) rfl rfl Tryd.func13 (by kernel_rfl) rfl #[.string a0] rfl (by (try simp only [List.map_toArray, List.map_cons, List.map_nil]); first | done | rfl | (simp only [List.length_drop, List.length_take]; rfl)) ?_; (with_reducible refine (jsonic_Quote.calls a0 t247 t248 _ (Tab.below HT (by repeat (first | (with_reducible first | exact HB.out | apply below_alloc | apply pw_below_drewN | apply below_drew1) | exact HB.out))) A10.out).mono ?_); rintro e w11 ⟨rfl, hb⟩; refine ⟨_, rfl, ?_⟩; have n0_ := Aside0.mk (below_step (by repeat (first | (with_reducible first | exact HB.out | apply below_alloc | apply pw_below_drewN | apply below_drew1) | exact HB.out)) hb); clear HB; have HB := n0_; clear n0_; (try clear hb); (try clear hb2); (try clear hk); (try clear hi)))
        go_loopg [7] kj2 (fun kq v7 w' => ∃ (x7_2 : Int), v7 = .int .i64 x7_2 ∧ Aside0 (entrepotlaw19_JsonicTexts.l0 kq a0 a1 t247 t248 x7_2 = some r) ∧ Aside0 (kq ≤ kj2) ∧ Aside0 (Below w.heap.size w w'))
        case atStart => exact ⟨(0), (by first | rfl | (simp; done) | (simp [*]; done)), H', ⟨Nat.le_refl _⟩, ⟨by repeat (first | (with_reducible first | exact HB.out | apply below_alloc | apply pw_below_drewN | apply below_drew1) | exact HB.out)⟩⟩
        case round =>
          clear H'
          try clear c1
          try clear p2
          try clear c4
          try clear c4b0
          try clear c4b1
          try clear c7
          try clear c9
          try clear p2
          obtain ⟨x7_2, rfl, HA, HK2, HB⟩ := hrel
          cases gk with
          | zero => exact absurd HA.out (by simp [entrepotlaw19_JsonicTexts.l0])
          | succ k2 =>
            have H := HA.out
            clear HA
            simp only [entrepotlaw19_JsonicTexts.l0] at H
            by_cases c12 : x7_2 < (a0.size : Int)
            · rw [if_pos c12] at H
              have c12b0 : decide (x7_2 < (a0.size : Int)) = true := decide_eq_true c12
              clear c12
              by_cases c13 : 0 ≤ x7_2
              · rw [if_pos c13] at H
                have c13b0 : decide (0 ≤ x7_2) = true := decide_eq_true c13
                clear c13
                by_cases c15 : (bt a0 x7_2) > 127
                · rw [if_pos c15] at H
                  have c15b0 : decide (127 < (bt a0 x7_2)) = true := decide_eq_true c15
                  clear c15
                  by_cases c16 : t247.toList = ([] : List UInt8)
                  · rw [if_pos c16] at H
                    have c16b0 : (t247.toList == ([] : List UInt8)) = true := beq_iff_eq.mpr c16
                    have c16b1 : (t247.toList != ([] : List UInt8)) = false := bne_eq_false_iff_eq.mpr c16
                    clear c16
                    obtain rfl := Option.some.inj H
                    have p14 : 0 ≤ (x7_2 : Int) := of_decide_eq_true (by first | (with_reducible assumption) | assumption)
                    have q14 : x7_2 < (a0.size : Int) := of_decide_eq_true (by first | (with_reducible assumption) | assumption)
                    have hx14 := bt_at a0 x7_2
                    replace p14 := eq_true p14
                    replace q14 := eq_true q14
                    go_wp2
                    go_ret
                    exact ⟨by first | rfl | (simp [errW_none, errW_some] <;> rfl) | (simp [*, errW_none, errW_some] <;> rfl), by repeat (first | (with_reducible first | exact HB.out | apply below_alloc | apply pw_below_drewN | apply below_drew1) | exact HB.out)⟩
                  · rw [if_neg c16] at H
                    have c16b0 : (t247.toList == ([] : List UInt8)) = false := beq_eq_false_iff_ne.mpr c16
                    have c16b1 : (t247.toList != ([] : List UInt8)) = true := bne_iff_ne.mpr c16
                    obtain rfl := Option.some.inj H
                    have p14 : 0 ≤ (x7_2 : Int) := of_decide_eq_true (by first | (with_reducible assumption) | assumption)
                    have q14 : x7_2 < (a0.size : Int) := of_decide_eq_true (by first | (with_reducible assumption) | assumption)
                    have hx14 := bt_at a0 x7_2
                    replace p14 := eq_true p14
                    replace q14 := eq_true q14
                    go_wp2
                    go_ret
                    exact ⟨by first | rfl | (simp [errW_none, errW_some] <;> rfl) | (simp [*, errW_none, errW_some] <;> rfl), by repeat (first | (with_reducible first | exact HB.out | apply below_alloc | apply pw_below_drewN | apply below_drew1) | exact HB.out)⟩
                · rw [if_neg c15] at H
                  have c15b0 : decide (127 < (bt a0 x7_2)) = false := decide_eq_false c15
                  clear c15
                  have H' := Aside0.mk H
                  clear H
                  have p14 : 0 ≤ (x7_2 : Int) := of_decide_eq_true (by first | (with_reducible assumption) | assumption)
                  have q14 : x7_2 < (a0.size : Int) := of_decide_eq_true (by first | (with_reducible assumption) | assumption)
                  have hx14 := bt_at a0 x7_2
                  replace p14 := eq_true p14
                  replace q14 := eq_true q14
                  go_wp2
                  go_roundg k2
                  case measure => have := HJ2.out; have := HK2.out; omega
                  case rel => exact ⟨(wrap64 (x7_2 + 1)), (by first | rfl | (simp; done) | (simp [*]; done)), H', ⟨by have := HJ2.out; have := HK2.out; omega⟩, ⟨by repeat (first | (with_reducible first | exact HB.out | apply below_alloc | apply pw_below_drewN | apply below_drew1) | exact HB.out)⟩⟩
              · rw [if_neg c13] at H
                exact absurd H (by simp)
            · rw [if_neg c12] at H
              have c12b0 : decide (x7_2 < (a0.size : Int)) = false := decide_eq_false c12
              clear c12
              replace H := Option.bind_eq_some_iff.mp H
              obtain ⟨⟨t249, t252, t253⟩, A170, H⟩ := H
              replace H : (entrepotlaw19_JsonicTexts.l1 k2 a0 a1 t247 t248 t249 0 t252 t253) = some r := H
              have A17 := Aside0.mk A170
              clear A170
              have H' := Aside0.mk H
              clear H
              go_wp2_with (first | ((with_reducible refine gate_callee (f := 15) rfl ?_); refine goesL_ (some 45) rfl rfl Tryd.func15 (by kernel_rfl) rfl #[.string t247] rfl (by (try simp only [List.map_toArray, List.map_cons, List.map_nil]); first | done | rfl | (simp only [List.length_drop, List.length_take]; rfl)) ?_; (with_reducible refine (jsonic_Parse.calls t247 t249 t252 t253 _ (Tab.below HT (by repeat (first | (with_reducible first | exact HB.out | apply below_alloc | apply pw_below_drewN | apply below_drew1) | exact HB.out))) A17.out).mono ?_); rintro e w18 ⟨v250, rfl, ho0, hb⟩; refine ⟨_, rfl, ?_⟩; have n0_ := Aside0.mk (Kd.R_lower ho0 (below_size (by repeat (first | (with_reducible first | exact HB.out | apply below_alloc | apply pw_below_drewN | apply below_drew1) | exact HB.out)))); have n1_ := Aside0.mk (below_step (by repeat (first | (with_reducible first | exact HB.out | apply below_alloc | apply pw_below_drewN | apply below_drew1) | exact HB.out)) hb); clear HB; have HO251 := n0_; have HB := n1_; clear n0_ n1_; (try clear hb); (try clear hb2); (try clear hk); (try clear hi); (try clear ho0)) | ((with_reducible refine gate_dst (N := 9) rfl ?_); (try (refine gate_guard (by rfl) ?_; dsimp only)); refine box_event ?hg (N := 9) ?hd (cs := #[.int .i64 0, .int .i64 0]) (t := 34) ?hr ?_; (case hd => rfl); (case hg => rfl); (case hr => first | (go_simp; done) | (go_simp; rfl)); intro gb254 hg w19 hbox hb; have n0_ := Aside0.mk (Kd.R_below (by (with_reducible repeat (first | apply Kd.R_alloc | apply Kd.R_drewN | apply Kd.R_drew)); exact HO251.out) hb); have n1_ := Aside0.mk (below_step (by repeat (first | (with_reducible first | exact HB.out | apply below_alloc | apply pw_below_drewN | apply below_drew1) | exact HB.out)) hb); have n2_ := Aside0.mk (hbox); have n3_ := Aside0.mk ((by rw [hg]; exact (below_size (by repeat (first | (with_reducible first | exact HB.out | apply below_alloc | apply pw_below_drewN | apply below_drew1) | exact HB.out))) : w.heap.size ≤ gb254)); have n4_ := Aside0.mk ((by rw [hg]; exact (below_size (by repeat (first | (with_reducible first | exact HB.out | apply below_alloc | apply pw_below_drewN | apply below_drew1) | exact HB.out))) : w.heap.size ≤ gb254)); clear HO251; clear HB; have HO251 := n0_; have HB := n1_; have BK254 := n2_; have GW254 := n3_; have GE254 := n4_; clear n0_ n1_ n2_ n3_ n4_; clear hb hbox hg; have hcz20_0 : w19.cell? ⟨gb254, 0, none⟩ = some (.int .i64 0) := (blk_cell BK254.out 0).trans rfl; have hcz20_1 : w19.cell? ⟨gb254, 1, none⟩ = some (.int .i64 0) := (blk_cell BK254.out 1).trans rfl; have hfz20_0 := blk_frozen BK254.out 0; have hfz20_1 := blk_frozen BK254.out 1))
              go_loopg [10] k2 (fun kq v10 w' => ∃ (x10_3 : Int), v10 = .int .i64 x10_3 ∧ Aside0 (entrepotlaw19_JsonicTexts.l1 kq a0 a1 t247 t248 t249 x10_3 t252 t253 = some r) ∧ Aside0 (kq ≤ k2) ∧ Aside0 (Kd.R k38 38 w' w.heap.size (fun _ => True) v250 t249) ∧ Aside0 (w'.heap[gb254]? = some (.cells #[.int .i64 t252, .int .i64 t253] 34 (0, 0))) ∧ Aside0 (Below w.heap.size w w'))
              case atStart => exact ⟨(0), (by first | rfl | (simp; done) | (simp [*]; done)), H', ⟨Nat.le_refl _⟩, ⟨by (with_reducible repeat (first | apply Kd.R_alloc | apply Kd.R_drewN | apply Kd.R_drew)); exact Kd.R_mono (Kd.R_far (p := ⟨gb254, 1, none⟩) (Kd.R_far (p := ⟨gb254, 0, none⟩) (Kd.R_types HO251.out BK254.out (by decide)) (fun _ hk => hk.2) (.int .i64 t252)) (fun _ hk => hk.2) (.int .i64 t253)) (fun _ hk => trivial)⟩, ⟨by (with_reducible repeat (first | refine blk_drewN ?_ _ | refine blk_drew ?_ | refine blk_alloc ?_ _)); refine blk_put (cs := #[.int .i64 t252, .int .i64 0]) ?_ 1 _ rfl; (with_reducible repeat (first | refine blk_drewN ?_ _ | refine blk_drew ?_ | refine blk_alloc ?_ _)); refine blk_put (cs := #[.int .i64 0, .int .i64 0]) ?_ 0 _ rfl; (with_reducible repeat (first | refine blk_drewN ?_ _ | refine blk_drew ?_ | refine blk_alloc ?_ _)); exact BK254.out⟩, ⟨by repeat (first | (with_reducible first | exact HB.out | apply below_alloc | apply pw_below_drewN | apply below_drew1 | refine below_set ?_ GE254.out) | exact HB.out)⟩⟩
              case round =>
                clear H'
                try clear c1
                try clear p1
                try clear q1
                try clear hx1
                try clear p2
                try clear c4
                try clear c4b0
                try clear c4b1
                try clear p6
                try clear c7
                try clear c9
                try clear c12
                try clear c12b0
                try clear c13
                try clear c13b0
                try clear p14
                try clear q14
                try clear hx14
                try clear c15
                try clear c15b0
                try clear c16
                try clear c16b0
                try clear c16b1
                try clear hcz20_0
                try clear hcz20_1
                try clear hfz20_0
                try clear hfz20_1
                try clear p14
                try clear p2
                try clear q14
                obtain ⟨x10_3, rfl, HA, HK3, HO_8, BK254, HB⟩ := hrel
                cases gk with
                | zero => exact absurd HA.out (by simp [entrepotlaw19_JsonicTexts.l1])
                | succ k3 =>
                  have H := HA.out
                  clear HA
                  simp only [entrepotlaw19_JsonicTexts.l1] at H
                  by_cases c21 : x10_3 < (t247.size : Int)
                  · rw [if_pos c21] at H
                    have c21b0 : decide (x10_3 < (t247.size : Int)) = true := decide_eq_true c21
                    clear c21
                    by_cases c22 : 0 ≤ x10_3
                    · rw [if_pos c22] at H
                      have c22b0 : decide (0 ≤ x10_3) = true := decide_eq_true c22
                      clear c22
                      by_cases c24 : (bt t247 x10_3) < 32
                      · rw [if_pos c24] at H
                        have c24b0 : decide ((bt t247 x10_3) < 32) = true := decide_eq_true c24
                        clear c24
                        obtain rfl := Option.some.inj H
                        have p23 : 0 ≤ (x10_3 : Int) := of_decide_eq_true (by first | (with_reducible assumption) | assumption)
                        have q23 : x10_3 < (t247.size : Int) := of_decide_eq_true (by first | (with_reducible assumption) | assumption)
                        have hx23 := bt_at t247 x10_3
                        replace p23 := eq_true p23
                        replace q23 := eq_true q23
                        go_wp2
                        go_ret
                        exact ⟨by first | rfl | (simp [errW_none, errW_some] <;> rfl) | (simp [*, errW_none, errW_some] <;> rfl), by repeat (first | (with_reducible first | exact HB.out | apply below_alloc | apply pw_below_drewN | apply below_drew1 | refine below_set ?_ GE254.out) | exact HB.out)⟩
                      · rw [if_neg c24] at H
                        have c24b0 : decide ((bt t247 x10_3) < 32) = false := decide_eq_false c24
                        clear c24
                        by_cases c26 : (bt t247 x10_3) > 126
                        · rw [if_pos c26] at H
                          have c26b0 : decide (126 < (bt t247 x10_3)) = true := decide_eq_true c26
                          clear c26
                          obtain rfl := Option.some.inj H
                          have p23 : 0 ≤ (x10_3 : Int) := of_decide_eq_true (by first | (with_reducible assumption) | assumption)
                          have q23 : x10_3 < (t247.size : Int) := of_decide_eq_true (by first | (with_reducible assumption) | assumption)
                          have hx23 := bt_at t247 x10_3
                          replace p23 := eq_true p23
                          replace q23 := eq_true q23
                          have p25 : 0 ≤ (x10_3 : Int) := of_decide_eq_true (by first | (with_reducible assumption) | assumption)
                          have q25 : x10_3 < (t247.size : Int) := of_decide_eq_true (by first | (with_reducible assumption) | assumption)
                          have hx25 := bt_at t247 x10_3
                          replace p25 := eq_true p25
                          replace q25 := eq_true q25
                          go_wp2
                          go_ret
                          exact ⟨by first | rfl | (simp [errW_none, errW_some] <;> rfl) | (simp [*, errW_none, errW_some] <;> rfl), by repeat (first | (with_reducible first | exact HB.out | apply below_alloc | apply pw_below_drewN | apply below_drew1 | refine below_set ?_ GE254.out) | exact HB.out)⟩
                        · rw [if_neg c26] at H
                          have c26b0 : decide (126 < (bt t247 x10_3)) = false := decide_eq_false c26
                          clear c26
                          have H' := Aside0.mk H
                          clear H
                          have p23 : 0 ≤ (x10_3 : Int) := of_decide_eq_true (by first | (with_reducible assumption) | assumption)
                          have q23 : x10_3 < (t247.size : Int) := of_decide_eq_true (by first | (with_reducible assumption) | assumption)
                          have hx23 := bt_at t247 x10_3
                          replace p23 := eq_true p23
                          replace q23 := eq_true q23
                          have p25 : 0 ≤ (x10_3 : Int) := of_decide_eq_true (by first | (with_reducible assumption) | assumption)
                          have q25 : x10_3 < (t247.size : Int) := of_decide_eq_true (by first | (with_reducible assumption) | assumption)
                          have hx25 := bt_at t247 x10_3
                          replace p25 := eq_true p25
                          replace q25 := eq_true q25
                          go_wp2
                          go_roundg k3
                          case measure => have := HJ2.out; have := HK2.out; have := HK3.out; omega
                          case rel => exact ⟨(wrap64 (x10_3 + 1)), (by first | rfl | (simp; done) | (simp [*]; done)), H', ⟨by have := HJ2.out; have := HK2.out; have := HK3.out; omega⟩, ⟨by (with_reducible repeat (first | apply Kd.R_alloc | apply Kd.R_drewN | apply Kd.R_drew)); exact HO_8.out⟩, ⟨by (with_reducible repeat (first | refine blk_drewN ?_ _ | refine blk_drew ?_ | refine blk_alloc ?_ _)); exact BK254.out⟩, ⟨by repeat (first | (with_reducible first | exact HB.out | apply below_alloc | apply pw_below_drewN | apply below_drew1 | refine below_set ?_ GE254.out) | exact HB.out)⟩⟩
                    · rw [if_neg c22] at H
                      exact absurd H (by simp)
                  · rw [if_neg c21] at H
                    have c21b0 : decide (x10_3 < (t247.size : Int)) = false := decide_eq_false c21
                    clear c21
                    by_cases c27 : t248 = true
                    · subst c27
                      have H1 : (if (t249.length : Int) = 1 then (if 0 < (t249.length : Int) then (if (!(((rd_T38 t249 0).f0) == 2) || (!(((rd_T38 t249 0).f1) == 0) || (!((((rd_T38 t249 0).f2).toList) == a0.toList) || (!(((rd_T38 t249 0).f3) == 0))))) = true then (some false) else (if (!(t252 == 0) || (!(t253 == 0))) = true then (some false) else (if (t247.size : Int) < (wrap64 ((a0.size : Int) + 2)) then (some false) else (if (t247.size : Int) = 0 then (none) else (if 0 ≤ (Int.tmod (wrap64 (a1)) (t247.size : Int)) then (if (Int.tmod (wrap64 (a1)) (t247.size : Int)) ≤ (t247.size : Int) then ((jsonic_Parse.f (t247.extract 0 ((Int.tmod (wrap64 (a1)) (t247.size : Int)) : Int).toNat)).bind fun bt256 => (if (bt256.1.length : Int) = 0 then (if bt256.2.2 = 190 then (some (decide (bt256.2.1 ≤ (Int.tmod (wrap64 (a1)) (t247.size : Int))))) else (some false)) else (some false))) else (none)) else (none)))))) else (none)) else (some false)) = some r := by rw [if_pos rfl] at H; exact H
                      clear H
                      have H := H1
                      clear H1
                      by_cases c28 : (t249.length : Int) = 1
                      · rw [if_pos c28] at H
                        have c28b0 : ((t249.length : Int) == 1) = true := beq_iff_eq.mpr c28
                        have c28b1 : ((t249.length : Int) != 1) = false := bne_eq_false_iff_eq.mpr c28
                        clear c28
                        by_cases c29 : 0 < (t249.length : Int)
                        · rw [if_pos c29] at H
                          have c29b0 : decide (0 < (t249.length : Int)) = true := decide_eq_true c29
                          have c29b1 : decide (0 < t249.length) = true := decide_eq_true (by omega)
                          clear c29
                          by_cases c30 : (!(((rd_T38 t249 0).f0) == 2) || (!(((rd_T38 t249 0).f1) == 0) || (!((((rd_T38 t249 0).f2).toList) == a0.toList) || (!(((rd_T38 t249 0).f3) == 0))))) = true
                          · rw [if_pos c30] at H
                            have c30b0 : (!(((rd_T38 t249 0).f0) == 2) || (!(((rd_T38 t249 0).f1) == 0) || (!((((rd_T38 t249 0).f2).toList) == a0.toList) || (!(((rd_T38 t249 0).f3) == 0))))) = true := c30
                            clear c30
                            obtain rfl := Option.some.inj H
                            obtain ⟨Ao31, co31, eo31⟩ := Kd.R_slice HO_8.out
                            subst eo31
                            have p255 : 0 ≤ (0 : Int) := (by omega)
                            have q255 : 0 < (t249.length : Int) := of_decide_eq_true (by first | (with_reducible assumption) | assumption)
                            obtain ⟨ad255, e255, hx255_0, hx255_1, hx255_2, hx255_3⟩ := at_T38 (Kd.R_reads' HO_8.out).2.2 0 p255 q255
                            cases e255
                            have qi255 : (0 < t249.length) = True := eq_true (by omega)
                            (try rw [show ((0 : Int)).toNat = 0 from rfl] at hx255_0)
                            (try rw [show 0 * 4 = 0 from rfl] at hx255_0)
                            (try rw [Addr.add_zero'] at hx255_0)
                            (try rw [show ((0 : Int)).toNat = 0 from rfl] at hx255_1)
                            (try rw [show 0 * 4 = 0 from rfl] at hx255_1)
                            (try rw [Addr.add_zero'] at hx255_1)
                            (try rw [show ((0 : Int)).toNat = 0 from rfl] at hx255_2)
                            (try rw [show 0 * 4 = 0 from rfl] at hx255_2)
                            (try rw [Addr.add_zero'] at hx255_2)
                            (try rw [show ((0 : Int)).toNat = 0 from rfl] at hx255_3)
                            (try rw [show 0 * 4 = 0 from rfl] at hx255_3)
                            (try rw [Addr.add_zero'] at hx255_3)
                            replace p255 := eq_true p255
                            replace q255 := eq_true q255
                            go_wp2
                            go_ret
                            exact ⟨by first | rfl | (simp [errW_none, errW_some] <;> rfl) | (simp [*, errW_none, errW_some] <;> rfl), by repeat (first | (with_reducible first | exact HB.out | apply below_alloc | apply pw_below_drewN | apply below_drew1 | refine below_set ?_ GE254.out) | exact HB.out)⟩
                          · rw [if_neg c30] at H
                            have c30b0 : (!(((rd_T38 t249 0).f0) == 2) || (!(((rd_T38 t249 0).f1) == 0) || (!((((rd_T38 t249 0).f2).toList) == a0.toList) || (!(((rd_T38 t249 0).f3) == 0))))) = false := by simpa using c30
                            clear c30
                            by_cases c32 : (!(t252 == 0) || (!(t253 == 0))) = true
                            · rw [if_pos c32] at H
                              have c32b0 : (!(t252 == 0) || (!(t253 == 0))) = true := c32
                              clear c32
                              obtain rfl := Option.some.inj H
                              obtain ⟨Ao33, co33, eo33⟩ := Kd.R_slice HO_8.out
                              subst eo33
                              have p255 : 0 ≤ (0 : Int) := (by omega)
                              have q255 : 0 < (t249.length : Int) := of_decide_eq_true (by first | (with_reducible assumption) | assumption)
                              obtain ⟨ad255, e255, hx255_0, hx255_1, hx255_2, hx255_3⟩ := at_T38 (Kd.R_reads' HO_8.out).2.2 0 p255 q255
                              cases e255
                              have qi255 : (0 < t249.length) = True := eq_true (by omega)
                              (try rw [show ((0 : Int)).toNat = 0 from rfl] at hx255_0)
                              (try rw [show 0 * 4 = 0 from rfl] at hx255_0)
                              (try rw [Addr.add_zero'] at hx255_0)
                              (try rw [show ((0 : Int)).toNat = 0 from rfl] at hx255_1)
                              (try rw [show 0 * 4 = 0 from rfl] at hx255_1)
                              (try rw [Addr.add_zero'] at hx255_1)
                              (try rw [show ((0 : Int)).toNat = 0 from rfl] at hx255_2)
                              (try rw [show 0 * 4 = 0 from rfl] at hx255_2)
                              (try rw [Addr.add_zero'] at hx255_2)
                              (try rw [show ((0 : Int)).toNat = 0 from rfl] at hx255_3)
                              (try rw [show 0 * 4 = 0 from rfl] at hx255_3)
                              (try rw [Addr.add_zero'] at hx255_3)
                              replace p255 := eq_true p255
                              replace q255 := eq_true q255
                              have hcz34_0 : wr.cell? ⟨gb254, 0, none⟩ = some (.int .i64 t252) := (blk_cell BK254.out 0).trans rfl
                              have hcz34_1 : wr.cell? ⟨gb254, 1, none⟩ = some (.int .i64 t253) := (blk_cell BK254.out 1).trans rfl
                              have hfz34_0 := blk_frozen BK254.out 0
                              have hfz34_1 := blk_frozen BK254.out 1
                              go_wp2
                              go_ret
                              exact ⟨by first | rfl | (simp [errW_none, errW_some] <;> rfl) | (simp [*, errW_none, errW_some] <;> rfl), by repeat (first | (with_reducible first | exact HB.out | apply below_alloc | apply pw_below_drewN | apply below_drew1 | refine below_set ?_ GE254.out) | exact HB.out)⟩
                            · rw [if_neg c32] at H
                              have c32b0 : (!(t252 == 0) || (!(t253 == 0))) = false := by simpa using c32
                              clear c32
                              by_cases c35 : (t247.size : Int) < (wrap64 ((a0.size : Int) + 2))
                              · rw [if_pos c35] at H
                                have c35b0 : decide ((t247.size : Int) < (wrap64 ((a0.size : Int) + 2))) = true := decide_eq_true c35
                                clear c35
                                obtain rfl := Option.some.inj H
                                obtain ⟨Ao36, co36, eo36⟩ := Kd.R_slice HO_8.out
                                subst eo36
                                have p255 : 0 ≤ (0 : Int) := (by omega)
                                have q255 : 0 < (t249.length : Int) := of_decide_eq_true (by first | (with_reducible assumption) | assumption)
                                obtain ⟨ad255, e255, hx255_0, hx255_1, hx255_2, hx255_3⟩ := at_T38 (Kd.R_reads' HO_8.out).2.2 0 p255 q255
                                cases e255
                                have qi255 : (0 < t249.length) = True := eq_true (by omega)
                                (try rw [show ((0 : Int)).toNat = 0 from rfl] at hx255_0)
                                (try rw [show 0 * 4 = 0 from rfl] at hx255_0)
                                (try rw [Addr.add_zero'] at hx255_0)
                                (try rw [show ((0 : Int)).toNat = 0 from rfl] at hx255_1)
                                (try rw [show 0 * 4 = 0 from rfl] at hx255_1)
                                (try rw [Addr.add_zero'] at hx255_1)
                                (try rw [show ((0 : Int)).toNat = 0 from rfl] at hx255_2)
                                (try rw [show 0 * 4 = 0 from rfl] at hx255_2)
                                (try rw [Addr.add_zero'] at hx255_2)
                                (try rw [show ((0 : Int)).toNat = 0 from rfl] at hx255_3)
                                (try rw [show 0 * 4 = 0 from rfl] at hx255_3)
                                (try rw [Addr.add_zero'] at hx255_3)
                                replace p255 := eq_true p255
                                replace q255 := eq_true q255
                                have hcz37_0 : wr.cell? ⟨gb254, 0, none⟩ = some (.int .i64 t252) := (blk_cell BK254.out 0).trans rfl
                                have hcz37_1 : wr.cell? ⟨gb254, 1, none⟩ = some (.int .i64 t253) := (blk_cell BK254.out 1).trans rfl
                                have hfz37_0 := blk_frozen BK254.out 0
                                have hfz37_1 := blk_frozen BK254.out 1
                                go_wp2
                                go_ret
                                exact ⟨by first | rfl | (simp [errW_none, errW_some] <;> rfl) | (simp [*, errW_none, errW_some] <;> rfl), by repeat (first | (with_reducible first | exact HB.out | apply below_alloc | apply pw_below_drewN | apply below_drew1 | refine below_set ?_ GE254.out) | exact HB.out)⟩
                              · rw [if_neg c35] at H
                                have c35b0 : decide ((t247.size : Int) < (wrap64 ((a0.size : Int) + 2))) = false := decide_eq_false c35
                                clear c35
                                by_cases c38 : (t247.size : Int) = 0
                                · rw [if_pos c38] at H
                                  exact absurd H (by simp)
                                · rw [if_neg c38] at H
                                  have c38b0 : ((t247.size : Int) == 0) = false := beq_eq_false_iff_ne.mpr c38
                                  have c38b1 : ((t247.size : Int) != 0) = true := bne_iff_ne.mpr c38
                                  obtain ⟨ji39, hji39⟩ : ∃ j_ : Int, (Int.tmod (wrap64 (a1)) (t247.size : Int)) = j_ := ⟨_, rfl⟩
                                  replace H : (if 0 ≤ (ji39) then (if (ji39) ≤ (t247.size : Int) then ((jsonic_Parse.f (t247.extract 0 ((ji39) : Int).toNat)).bind fun bt256 => (if (bt256.1.length : Int) = 0 then (if bt256.2.2 = 190 then (some (decide (bt256.2.1 ≤ (ji39)))) else (some false)) else (some false))) else (none)) else (none)) = some r := by first | (rw [hji39] at H; exact H) | (simp only [hji39] at H ⊢; exact H)
                                  by_cases c40 : 0 ≤ (ji39)
                                  · rw [if_pos c40] at H
                                    have c40b0 := eq_true c40
                                    have c40b1 : decide (0 ≤ (ji39)) = true := decide_eq_true c40
                                    clear c40
                                    by_cases c41 : (ji39) ≤ (t247.size : Int)
                                    · rw [if_pos c41] at H
                                      have c41b0 := eq_true c41
                                      have c41b1 : decide ((ji39) ≤ (t247.size : Int)) = true := decide_eq_true c41
                                      clear c41
                                      replace H := Option.bind_eq_some_iff.mp H
                                      obtain ⟨⟨t256, t259, t260⟩, A420, H⟩ := H
                                      replace H : (if (t256.length : Int) = 0 then (if t260 = 190 then (some (decide (t259 ≤ (ji39)))) else (some false)) else (some false)) = some r := H
                                      have A42 := Aside0.mk A420
                                      clear A420
                                      by_cases c43 : (t256.length : Int) = 0
                                      · rw [if_pos c43] at H
                                        have c43b0 : ((t256.length : Int) == 0) = true := beq_iff_eq.mpr c43
                                        have c43b1 : ((t256.length : Int) != 0) = false := bne_eq_false_iff_eq.mpr c43
                                        clear c43
                                        by_cases c44 : t260 = 190
                                        · rw [if_pos c44] at H
                                          have c44b0 : (t260 == 190) = true := beq_iff_eq.mpr c44
                                          have c44b1 : (t260 != 190) = false := bne_eq_false_iff_eq.mpr c44
                                          clear c44
                                          obtain rfl := Option.some.inj H
                                          obtain ⟨Ao45, co45, eo45⟩ := Kd.R_slice HO_8.out
                                          subst eo45
                                          have p255 : 0 ≤ (0 : Int) := (by omega)
                                          have q255 : 0 < (t249.length : Int) := of_decide_eq_true (by first | (with_reducible assumption) | assumption)
                                          obtain ⟨ad255, e255, hx255_0, hx255_1, hx255_2, hx255_3⟩ := at_T38 (Kd.R_reads' HO_8.out).2.2 0 p255 q255
                                          cases e255
                                          have qi255 : (0 < t249.length) = True := eq_true (by omega)
                                          (try rw [show ((0 : Int)).toNat = 0 from rfl] at hx255_0)
                                          (try rw [show 0 * 4 = 0 from rfl] at hx255_0)
                                          (try rw [Addr.add_zero'] at hx255_0)
                                          (try rw [show ((0 : Int)).toNat = 0 from rfl] at hx255_1)
                                          (try rw [show 0 * 4 = 0 from rfl] at hx255_1)
                                          (try rw [Addr.add_zero'] at hx255_1)
                                          (try rw [show ((0 : Int)).toNat = 0 from rfl] at hx255_2)
                                          (try rw [show 0 * 4 = 0 from rfl] at hx255_2)
                                          (try rw [Addr.add_zero'] at hx255_2)
                                          (try rw [show ((0 : Int)).toNat = 0 from rfl] at hx255_3)
                                          (try rw [show 0 * 4 = 0 from rfl] at hx255_3)
                                          (try rw [Addr.add_zero'] at hx255_3)
                                          replace p255 := eq_true p255
                                          replace q255 := eq_true q255
                                          have hcz46_0 : wr.cell? ⟨gb254, 0, none⟩ = some (.int .i64 t252) := (blk_cell BK254.out 0).trans rfl
                                          have hcz46_1 : wr.cell? ⟨gb254, 1, none⟩ = some (.int .i64 t253) := (blk_cell BK254.out 1).trans rfl
                                          have hfz46_0 := blk_frozen BK254.out 0
                                          have hfz46_1 := blk_frozen BK254.out 1
                                          go_wp2_with (first | ((with_reducible refine gate_callee (f := 15) rfl ?_); refine goesL_ (some 101) rfl rfl Tryd.func15 (by kernel_rfl) rfl #[.string (t247.extract 0 ((ji39) : Int).toNat)] rfl (by (try simp only [List.map_toArray, List.map_cons, List.map_nil]); first | done | (simp only [hji39]; rfl) | rfl | (simp only [List.length_drop, List.length_take]; rfl)) ?_; (with_reducible refine (jsonic_Parse.calls (t247.extract 0 ((ji39) : Int).toNat) t256 t259 t260 _ (Tab.below HT (by repeat (first | (with_reducible first | exact HB.out | apply below_alloc | apply pw_below_drewN | apply below_drew1 | refine below_set ?_ GE254.out) | exact HB.out))) A42.out).mono ?_); rintro e w47 ⟨v257, rfl, ho0, hb⟩; refine ⟨_, rfl, ?_⟩; have n0_ := Aside0.mk (Kd.R_elder' (by (with_reducible repeat (first | apply Kd.R_alloc | apply Kd.R_drewN | apply Kd.R_drew)); exact HO_8.out) (Kd.R_base ho0) hb); have n1_ := Aside0.mk (Kd.R_lower (Kd.R_new' ho0 (Kd.R_lt (by (with_reducible repeat (first | apply Kd.R_alloc | apply Kd.R_drewN | apply Kd.R_drew)); exact HO_8.out))) (below_size (by repeat (first | (with_reducible first | exact HB.out | apply below_alloc | apply pw_below_drewN | apply below_drew1 | refine below_set ?_ GE254.out) | exact HB.out)))); have n2_ := Aside0.mk (blk_below (g := gb254) (o := .cells #[.int .i64 t252, .int .i64 t253] 34 (0, 0)) (by (with_reducible repeat (first | refine blk_drewN ?_ _ | refine blk_drew ?_ | refine blk_alloc ?_ _)); exact BK254.out) hb); have n3_ := Aside0.mk (below_step (by repeat (first | (with_reducible first | exact HB.out | apply below_alloc | apply pw_below_drewN | apply below_drew1 | refine below_set ?_ GE254.out) | exact HB.out)) hb); clear HO_8; clear BK254; clear HB; have HO_8 := n0_; have HO258 := n1_; have BK254 := n2_; have HB := n3_; clear n0_ n1_ n2_ n3_; (try clear hb); (try clear hb2); (try clear hk); (try clear hi); (try clear ho0)) | ((with_reducible refine gate_dst (N := 13) rfl ?_); (try (refine gate_guard (by rfl) ?_; dsimp only)); refine box_event ?hg (N := 13) ?hd (cs := #[.int .i64 0, .int .i64 0]) (t := 34) ?hr ?_; (case hd => rfl); (case hg => rfl); (case hr => first | (go_simp; done) | (go_simp; rfl)); intro gb261 hg w48 hbox hb; have n0_ := Aside0.mk (Kd.R_below (by (with_reducible repeat (first | apply Kd.R_alloc | apply Kd.R_drewN | apply Kd.R_drew)); exact HO_8.out) hb); have n1_ := Aside0.mk (Kd.R_below (by (with_reducible repeat (first | apply Kd.R_alloc | apply Kd.R_drewN | apply Kd.R_drew)); exact HO258.out) hb); have n2_ := Aside0.mk (blk_below (g := gb254) (o := .cells #[.int .i64 t252, .int .i64 t253] 34 (0, 0)) (by (with_reducible repeat (first | refine blk_drewN ?_ _ | refine blk_drew ?_ | refine blk_alloc ?_ _)); exact BK254.out) hb); have n3_ := Aside0.mk (below_step (by repeat (first | (with_reducible first | exact HB.out | apply below_alloc | apply pw_below_drewN | apply below_drew1 | refine below_set ?_ GE254.out) | exact HB.out)) hb); have n4_ := Aside0.mk (hbox); have n5_ := Aside0.mk ((by rw [hg]; exact (below_size (by repeat (first | (with_reducible first | exact HB.out | apply below_alloc | apply pw_below_drewN | apply below_drew1 | refine below_set ?_ GE254.out) | exact HB.out))) : w.heap.size ≤ gb261)); have n6_ := Aside0.mk ((by rw [hg]; exact (below_size (by repeat (first | (with_reducible first | exact HB.out | apply below_alloc | apply pw_below_drewN | apply below_drew1 | refine below_set ?_ GE254.out) | exact HB.out))) : w.heap.size ≤ gb261)); have n7_ := Aside0.mk ((by rw [hg]; exact Nat.ne_of_lt (blk_lt (g := gb254) (o := .cells #[.int .i64 t252, .int .i64 t253] 34 (0, 0)) (by (with_reducible repeat (first | refine blk_drewN ?_ _ | refine blk_drew ?_ | refine blk_alloc ?_ _)); exact BK254.out)) : gb254 ≠ gb261)); have n8_ := Aside0.mk ((by rw [hg]; exact Nat.ne_of_gt (blk_lt (g := gb254) (o := .cells #[.int .i64 t252, .int .i64 t253] 34 (0, 0)) (by (with_reducible repeat (first | refine blk_drewN ?_ _ | refine blk_drew ?_ | refine blk_alloc ?_ _)); exact BK254.out)) : gb261 ≠ gb254)); clear HO_8; clear HO258; clear BK254; clear HB; have HO_8 := n0_; have HO258 := n1_; have BK254 := n2_; have HB := n3_; have BK261 := n4_; have GW261 := n5_; have GE261 := n6_; have NB254_261 := n7_; have NB261_254 := n8_; clear n0_ n1_ n2_ n3_ n4_ n5_ n6_ n7_ n8_; clear hb hbox hg; have hnb49 := NB261_254.out; have hnc49 := NB254_261.out; have hcz50_0 : w48.cell? ⟨gb261, 0, none⟩ = some (.int .i64 0) := (blk_cell BK261.out 0).trans rfl; have hcz50_1 : w48.cell? ⟨gb261, 1, none⟩ = some (.int .i64 0) := (blk_cell BK261.out 1).trans rfl; have hfz50_0 := blk_frozen BK261.out 0; have hfz50_1 := blk_frozen BK261.out 1; obtain ⟨Ao51, co51, eo51⟩ := Kd.R_slice HO258.out; subst eo51))
                                          go_ret
                                          exact ⟨by first | rfl | (simp [errW_none, errW_some] <;> rfl) | (simp only [← hji39]; first | rfl | (simp [errW_none, errW_some] <;> rfl)) | (simp [*, errW_none, errW_some] <;> rfl), by repeat (first | (with_reducible first | exact HB.out | apply below_alloc | apply pw_below_drewN | apply below_drew1 | refine below_set ?_ GE254.out | refine below_set ?_ GE261.out) | exact HB.out)⟩
                                        · rw [if_neg c44] at H
                                          have c44b0 : (t260 == 190) = false := beq_eq_false_iff_ne.mpr c44
                                          have c44b1 : (t260 != 190) = true := bne_iff_ne.mpr c44
                                          obtain rfl := Option.some.inj H
                                          obtain ⟨Ao52, co52, eo52⟩ := Kd.R_slice HO_8.out
                                          subst eo52
                                          have p255 : 0 ≤ (0 : Int) := (by omega)
                                          have q255 : 0 < (t249.length : Int) := of_decide_eq_true (by first | (with_reducible assumption) | assumption)
                                          obtain ⟨ad255, e255, hx255_0, hx255_1, hx255_2, hx255_3⟩ := at_T38 (Kd.R_reads' HO_8.out).2.2 0 p255 q255
                                          cases e255
                                          have qi255 : (0 < t249.length) = True := eq_true (by omega)
                                          (try rw [show ((0 : Int)).toNat = 0 from rfl] at hx255_0)
                                          (try rw [show 0 * 4 = 0 from rfl] at hx255_0)
                                          (try rw [Addr.add_zero'] at hx255_0)
                                          (try rw [show ((0 : Int)).toNat = 0 from rfl] at hx255_1)
                                          (try rw [show 0 * 4 = 0 from rfl] at hx255_1)
                                          (try rw [Addr.add_zero'] at hx255_1)
                                          (try rw [show ((0 : Int)).toNat = 0 from rfl] at hx255_2)
                                          (try rw [show 0 * 4 = 0 from rfl] at hx255_2)
                                          (try rw [Addr.add_zero'] at hx255_2)
                                          (try rw [show ((0 : Int)).toNat = 0 from rfl] at hx255_3)
                                          (try rw [show 0 * 4 = 0 from rfl] at hx255_3)
                                          (try rw [Addr.add_zero'] at hx255_3)
                                          replace p255 := eq_true p255
                                          replace q255 := eq_true q255
                                          have hcz53_0 : wr.cell? ⟨gb254, 0, none⟩ = some (.int .i64 t252) := (blk_cell BK254.out 0).trans rfl
                                          have hcz53_1 : wr.cell? ⟨gb254, 1, none⟩ = some (.int .i64 t253) := (blk_cell BK254.out 1).trans rfl
                                          have hfz53_0 := blk_frozen BK254.out 0
                                          have hfz53_1 := blk_frozen BK254.out 1
                                          go_wp2_with (first | ((with_reducible refine gate_callee (f := 15) rfl ?_); refine goesL_ (some 101) rfl rfl Tryd.func15 (by kernel_rfl) rfl #[.string (t247.extract 0 ((ji39) : Int).toNat)] rfl (by (try simp only [List.map_toArray, List.map_cons, List.map_nil]); first | done | (simp only [hji39]; rfl) | rfl | (simp only [List.length_drop, List.length_take]; rfl)) ?_; (with_reducible refine (jsonic_Parse.calls (t247.extract 0 ((ji39) : Int).toNat) t256 t259 t260 _ (Tab.below HT (by repeat (first | (with_reducible first | exact HB.out | apply below_alloc | apply pw_below_drewN | apply below_drew1 | refine below_set ?_ GE254.out) | exact HB.out))) A42.out).mono ?_); rintro e w54 ⟨v257, rfl, ho0, hb⟩; refine ⟨_, rfl, ?_⟩; have n0_ := Aside0.mk (Kd.R_elder' (by (with_reducible repeat (first | apply Kd.R_alloc | apply Kd.R_drewN | apply Kd.R_drew)); exact HO_8.out) (Kd.R_base ho0) hb); have n1_ := Aside0.mk (Kd.R_lower (Kd.R_new' ho0 (Kd.R_lt (by (with_reducible repeat (first | apply Kd.R_alloc | apply Kd.R_drewN | apply Kd.R_drew)); exact HO_8.out))) (below_size (by repeat (first | (with_reducible first | exact HB.out | apply below_alloc | apply pw_below_drewN | apply below_drew1 | refine below_set ?_ GE254.out) | exact HB.out)))); have n2_ := Aside0.mk (blk_below (g := gb254) (o := .cells #[.int .i64 t252, .int .i64 t253] 34 (0, 0)) (by (with_reducible repeat (first | refine blk_drewN ?_ _ | refine blk_drew ?_ | refine blk_alloc ?_ _)); exact BK254.out) hb); have n3_ := Aside0.mk (below_step (by repeat (first | (with_reducible first | exact HB.out | apply below_alloc | apply pw_below_drewN | apply below_drew1 | refine below_set ?_ GE254.out) | exact HB.out)) hb); clear HO_8; clear BK254; clear HB; have HO_8 := n0_; have HO258 := n1_; have BK254 := n2_; have HB := n3_; clear n0_ n1_ n2_ n3_; (try clear hb); (try clear hb2); (try clear hk); (try clear hi); (try clear ho0)) | ((with_reducible refine gate_dst (N := 13) rfl ?_); (try (refine gate_guard (by rfl) ?_; dsimp only)); refine box_event ?hg (N := 13) ?hd (cs := #[.int .i64 0, .int .i64 0]) (t := 34) ?hr ?_; (case hd => rfl); (case hg => rfl); (case hr => first | (go_simp; done) | (go_simp; rfl)); intro gb261 hg w55 hbox hb; have n0_ := Aside0.mk (Kd.R_below (by (with_reducible repeat (first | apply Kd.R_alloc | apply Kd.R_drewN | apply Kd.R_drew)); exact HO_8.out) hb); have n1_ := Aside0.mk (Kd.R_below (by (with_reducible repeat (first | apply Kd.R_alloc | apply Kd.R_drewN | apply Kd.R_drew)); exact HO258.out) hb); have n2_ := Aside0.mk (blk_below (g := gb254) (o := .cells #[.int .i64 t252, .int .i64 t253] 34 (0, 0)) (by (with_reducible repeat (first | refine blk_drewN ?_ _ | refine blk_drew ?_ | refine blk_alloc ?_ _)); exact BK254.out) hb); have n3_ := Aside0.mk (below_step (by repeat (first | (with_reducible first | exact HB.out | apply below_alloc | apply pw_below_drewN | apply below_drew1 | refine below_set ?_ GE254.out) | exact HB.out)) hb); have n4_ := Aside0.mk (hbox); have n5_ := Aside0.mk ((by rw [hg]; exact (below_size (by repeat (first | (with_reducible first | exact HB.out | apply below_alloc | apply pw_below_drewN | apply below_drew1 | refine below_set ?_ GE254.out) | exact HB.out))) : w.heap.size ≤ gb261)); have n6_ := Aside0.mk ((by rw [hg]; exact (below_size (by repeat (first | (with_reducible first | exact HB.out | apply below_alloc | apply pw_below_drewN | apply below_drew1 | refine below_set ?_ GE254.out) | exact HB.out))) : w.heap.size ≤ gb261)); have n7_ := Aside0.mk ((by rw [hg]; exact Nat.ne_of_lt (blk_lt (g := gb254) (o := .cells #[.int .i64 t252, .int .i64 t253] 34 (0, 0)) (by (with_reducible repeat (first | refine blk_drewN ?_ _ | refine blk_drew ?_ | refine blk_alloc ?_ _)); exact BK254.out)) : gb254 ≠ gb261)); have n8_ := Aside0.mk ((by rw [hg]; exact Nat.ne_of_gt (blk_lt (g := gb254) (o := .cells #[.int .i64 t252, .int .i64 t253] 34 (0, 0)) (by (with_reducible repeat (first | refine blk_drewN ?_ _ | refine blk_drew ?_ | refine blk_alloc ?_ _)); exact BK254.out)) : gb261 ≠ gb254)); clear HO_8; clear HO258; clear BK254; clear HB; have HO_8 := n0_; have HO258 := n1_; have BK254 := n2_; have HB := n3_; have BK261 := n4_; have GW261 := n5_; have GE261 := n6_; have NB254_261 := n7_; have NB261_254 := n8_; clear n0_ n1_ n2_ n3_ n4_ n5_ n6_ n7_ n8_; clear hb hbox hg; have hnb56 := NB261_254.out; have hnc56 := NB254_261.out; have hcz57_0 : w55.cell? ⟨gb261, 0, none⟩ = some (.int .i64 0) := (blk_cell BK261.out 0).trans rfl; have hcz57_1 : w55.cell? ⟨gb261, 1, none⟩ = some (.int .i64 0) := (blk_cell BK261.out 1).trans rfl; have hfz57_0 := blk_frozen BK261.out 0; have hfz57_1 := blk_frozen BK261.out 1; obtain ⟨Ao58, co58, eo58⟩ := Kd.R_slice HO258.out; subst eo58))
                                          go_ret
                                          exact ⟨by first | rfl | (simp [errW_none, errW_some] <;> rfl) | (simp only [← hji39]; first | rfl | (simp [errW_none, errW_some] <;> rfl)) | (simp [*, errW_none, errW_some] <;> rfl), by repeat (first | (with_reducible first | exact HB.out | apply below_alloc | apply pw_below_drewN | apply below_drew1 | refine below_set ?_ GE254.out | refine below_set ?_ GE261.out) | exact HB.out)⟩
                                      · rw [if_neg c43] at H
                                        have c43b0 : ((t256.length : Int) == 0) = false := beq_eq_false_iff_ne.mpr c43
                                        have c43b1 : ((t256.length : Int) != 0) = true := bne_iff_ne.mpr c43
                                        have c43b2 : ¬ (t256 = []) := fun h_ => c43 (by rw [h_]; rfl)
                                        obtain rfl := Option.some.inj H
                                        obtain ⟨Ao59, co59, eo59⟩ := Kd.R_slice HO_8.out
                                        subst eo59
                                        have p255 : 0 ≤ (0 : Int) := (by omega)
                                        have q255 : 0 < (t249.length : Int) := of_decide_eq_true (by first | (with_reducible assumption) | assumption)
                                        obtain ⟨ad255, e255, hx255_0, hx255_1, hx255_2, hx255_3⟩ := at_T38 (Kd.R_reads' HO_8.out).2.2 0 p255 q255
                                        cases e255
                                        have qi255 : (0 < t249.length) = True := eq_true (by omega)
                                        (try rw [show ((0 : Int)).toNat = 0 from rfl] at hx255_0)
                                        (try rw [show 0 * 4 = 0 from rfl] at hx255_0)
                                        (try rw [Addr.add_zero'] at hx255_0)
                                        (try rw [show ((0 : Int)).toNat = 0 from rfl] at hx255_1)
                                        (try rw [show 0 * 4 = 0 from rfl] at hx255_1)
                                        (try rw [Addr.add_zero'] at hx255_1)
                                        (try rw [show ((0 : Int)).toNat = 0 from rfl] at hx255_2)
                                        (try rw [show 0 * 4 = 0 from rfl] at hx255_2)
                                        (try rw [Addr.add_zero'] at hx255_2)
                                        (try rw [show ((0 : Int)).toNat = 0 from rfl] at hx255_3)
                                        (try rw [show 0 * 4 = 0 from rfl] at hx255_3)
                                        (try rw [Addr.add_zero'] at hx255_3)
                                        replace p255 := eq_true p255
                                        replace q255 := eq_true q255
                                        have hcz60_0 : wr.cell? ⟨gb254, 0, none⟩ = some (.int .i64 t252) := (blk_cell BK254.out 0).trans rfl
                                        have hcz60_1 : wr.cell? ⟨gb254, 1, none⟩ = some (.int .i64 t253) := (blk_cell BK254.out 1).trans rfl
                                        have hfz60_0 := blk_frozen BK254.out 0
                                        have hfz60_1 := blk_frozen BK254.out 1
                                        go_wp2_with (first | ((with_reducible refine gate_callee (f := 15) rfl ?_); refine goesL_ (some 101) rfl rfl Tryd.func15 (by kernel_rfl) rfl #[.string (t247.extract 0 ((ji39) : Int).toNat)] rfl (by (try simp only [List.map_toArray, List.map_cons, List.map_nil]); first | done | (simp only [hji39]; rfl) | rfl | (simp only [List.length_drop, List.length_take]; rfl)) ?_; (with_reducible refine (jsonic_Parse.calls (t247.extract 0 ((ji39) : Int).toNat) t256 t259 t260 _ (Tab.below HT (by repeat (first | (with_reducible first | exact HB.out | apply below_alloc | apply pw_below_drewN | apply below_drew1 | refine below_set ?_ GE254.out) | exact HB.out))) A42.out).mono ?_); rintro e w61 ⟨v257, rfl, ho0, hb⟩; refine ⟨_, rfl, ?_⟩; have n0_ := Aside0.mk (Kd.R_elder' (by (with_reducible repeat (first | apply Kd.R_alloc | apply Kd.R_drewN | apply Kd.R_drew)); exact HO_8.out) (Kd.R_base ho0) hb); have n1_ := Aside0.mk (Kd.R_lower (Kd.R_new' ho0 (Kd.R_lt (by (with_reducible repeat (first | apply Kd.R_alloc | apply Kd.R_drewN | apply Kd.R_drew)); exact HO_8.out))) (below_size (by repeat (first | (with_reducible first | exact HB.out | apply below_alloc | apply pw_below_drewN | apply below_drew1 | refine below_set ?_ GE254.out) | exact HB.out)))); have n2_ := Aside0.mk (blk_below (g := gb254) (o := .cells #[.int .i64 t252, .int .i64 t253] 34 (0, 0)) (by (with_reducible repeat (first | refine blk_drewN ?_ _ | refine blk_drew ?_ | refine blk_alloc ?_ _)); exact BK254.out) hb); have n3_ := Aside0.mk (below_step (by repeat (first | (with_reducible first | exact HB.out | apply below_alloc | apply pw_below_drewN | apply below_drew1 | refine below_set ?_ GE254.out) | exact HB.out)) hb); clear HO_8; clear BK254; clear HB; have HO_8 := n0_; have HO258 := n1_; have BK254 := n2_; have HB := n3_; clear n0_ n1_ n2_ n3_; (try clear hb); (try clear hb2); (try clear hk); (try clear hi); (try clear ho0)) | ((with_reducible refine gate_dst (N := 13) rfl ?_); (try (refine gate_guard (by rfl) ?_; dsimp only)); refine box_event ?hg (N := 13) ?hd (cs := #[.int .i64 0, .int .i64 0]) (t := 34) ?hr ?_; (case hd => rfl); (case hg => rfl); (case hr => first | (go_simp; done) | (go_simp; rfl)); intro gb261 hg w62 hbox hb; have n0_ := Aside0.mk (Kd.R_below (by (with_reducible repeat (first | apply Kd.R_alloc | apply Kd.R_drewN | apply Kd.R_drew)); exact HO_8.out) hb); have n1_ := Aside0.mk (Kd.R_below (by (with_reducible repeat (first | apply Kd.R_alloc | apply Kd.R_drewN | apply Kd.R_drew)); exact HO258.out) hb); have n2_ := Aside0.mk (blk_below (g := gb254) (o := .cells #[.int .i64 t252, .int .i64 t253] 34 (0, 0)) (by (with_reducible repeat (first | refine blk_drewN ?_ _ | refine blk_drew ?_ | refine blk_alloc ?_ _)); exact BK254.out) hb); have n3_ := Aside0.mk (below_step (by repeat (first | (with_reducible first | exact HB.out | apply below_alloc | apply pw_below_drewN | apply below_drew1 | refine below_set ?_ GE254.out) | exact HB.out)) hb); have n4_ := Aside0.mk (hbox); have n5_ := Aside0.mk ((by rw [hg]; exact (below_size (by repeat (first | (with_reducible first | exact HB.out | apply below_alloc | apply pw_below_drewN | apply below_drew1 | refine below_set ?_ GE254.out) | exact HB.out))) : w.heap.size ≤ gb261)); have n6_ := Aside0.mk ((by rw [hg]; exact (below_size (by repeat (first | (with_reducible first | exact HB.out | apply below_alloc | apply pw_below_drewN | apply below_drew1 | refine below_set ?_ GE254.out) | exact HB.out))) : w.heap.size ≤ gb261)); have n7_ := Aside0.mk ((by rw [hg]; exact Nat.ne_of_lt (blk_lt (g := gb254) (o := .cells #[.int .i64 t252, .int .i64 t253] 34 (0, 0)) (by (with_reducible repeat (first | refine blk_drewN ?_ _ | refine blk_drew ?_ | refine blk_alloc ?_ _)); exact BK254.out)) : gb254 ≠ gb261)); have n8_ := Aside0.mk ((by rw [hg]; exact Nat.ne_of_gt (blk_lt (g := gb254) (o := .cells #[.int .i64 t252, .int .i64 t253] 34 (0, 0)) (by (with_reducible repeat (first | refine blk_drewN ?_ _ | refine blk_drew ?_ | refine blk_alloc ?_ _)); exact BK254.out)) : gb261 ≠ gb254)); clear HO_8; clear HO258; clear BK254; clear HB; have HO_8 := n0_; have HO258 := n1_; have BK254 := n2_; have HB := n3_; have BK261 := n4_; have GW261 := n5_; have GE261 := n6_; have NB254_261 := n7_; have NB261_254 := n8_; clear n0_ n1_ n2_ n3_ n4_ n5_ n6_ n7_ n8_; clear hb hbox hg; have hnb63 := NB261_254.out; have hnc63 := NB254_261.out; have hcz64_0 : w62.cell? ⟨gb261, 0, none⟩ = some (.int .i64 0) := (blk_cell BK261.out 0).trans rfl; have hcz64_1 : w62.cell? ⟨gb261, 1, none⟩ = some (.int .i64 0) := (blk_cell BK261.out 1).trans rfl; have hfz64_0 := blk_frozen BK261.out 0; have hfz64_1 := blk_frozen BK261.out 1; obtain ⟨Ao65, co65, eo65⟩ := Kd.R_slice HO258.out; subst eo65))
                                        go_ret
                                        exact ⟨by first | rfl | (simp [errW_none, errW_some] <;> rfl) | (simp only [← hji39]; first | rfl | (simp [errW_none, errW_some] <;> rfl)) | (simp [*, errW_none, errW_some] <;> rfl), by repeat (first | (with_reducible first | exact HB.out | apply below_alloc | apply pw_below_drewN | apply below_drew1 | refine below_set ?_ GE254.out | refine below_set ?_ GE261.out) | exact HB.out)⟩
                                    · rw [if_neg c41] at H
                                      exact absurd H (by simp)
                                  · rw [if_neg c40] at H
                                    exact absurd H (by simp)
                        · rw [if_neg c29] at H
                          exact absurd H (by simp)
                      · rw [if_neg c28] at H
                        have c28b0 : ((t249.length : Int) == 1) = false := beq_eq_false_iff_ne.mpr c28
                        have c28b1 : ((t249.length : Int) != 1) = true := bne_iff_ne.mpr c28
                        obtain rfl := Option.some.inj H
                        obtain ⟨Ao66, co66, eo66⟩ := Kd.R_slice HO_8.out
                        subst eo66
                        go_wp2
                        go_ret
                        exact ⟨by first | rfl | (simp [errW_none, errW_some] <;> rfl) | (simp [*, errW_none, errW_some] <;> rfl), by repeat (first | (with_reducible first | exact HB.out | apply below_alloc | apply pw_below_drewN | apply below_drew1 | refine below_set ?_ GE254.out) | exact HB.out)⟩
                    · replace c27 := Bool.eq_false_iff.mpr c27
                      subst c27
                      have H1 : (some false) = some r := by rw [if_neg (show ¬ (false = true) by decide)] at H; exact H
                      clear H
                      have H := H1
                      clear H1
                      obtain rfl := Option.some.inj H
                      go_wp2
                      go_ret
                      exact ⟨by first | rfl | (simp [errW_none, errW_some] <;> rfl) | (simp [*, errW_none, errW_some] <;> rfl), by repeat (first | (with_reducible first | exact HB.out | apply below_alloc | apply pw_below_drewN | apply below_drew1 | refine below_set ?_ GE254.out) | exact HB.out)⟩

/-- THE ONE PURE STATEMENT of entrepotlaw19_JsonicTexts: yours. -/
def entrepotlaw19_JsonicTexts.Pure : Prop := ∀ (a0 : ByteArray) (a1 : Int), a0.size ≤ 140737488351232 → (Lit.int .u16 a1).wf = true → ∃ k, entrepotlaw19_JsonicTexts.f k a0 a1 = some true
theorem entrepotlaw19_JsonicTexts.walk (P : entrepotlaw19_JsonicTexts.Pure) (a0 : ByteArray) (a1 : Int) (w : World) (HT : Tab w) (w0 : a0.size ≤ 140737488351232) (w1 : (Lit.int .u16 a1).wf = true) :
    Calls Tryd.prog 7 #[.string a0, .int .u16 a1] w fun e w' => e = .returned (.bool true) ∧ Below w.heap.size w w' := by
  obtain ⟨k, h⟩ := P a0 a1 w0 w1
  refine (entrepotlaw19_JsonicTexts.calls k a0 a1 true w HT h).mono ?_
  rintro e w' ⟨rfl, hd⟩
  exact ⟨rfl, hd⟩

end Go.Proofs.YtainnkpoibgkcaaDoor.PAll
