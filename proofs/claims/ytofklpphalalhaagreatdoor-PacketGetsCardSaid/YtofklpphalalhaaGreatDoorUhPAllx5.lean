/- A text of this claim, cut to what the claim uses. Conditions: each theorem's own. -/
import Derived.Test.YtofklpphalalhaaGreatDoorUhJ1
import Derived.Test.YtofklpphalalhaaGreatDoorUhPAllx4
import Derived.Test.YtofklpphalalhaaGreatDoorUhJ4
-- Written by a program out of the translation, for several roots at once (set All). Not trusted: Lean checks it.
namespace Go.Proofs.YtofklpphalalhaaGreatDoor.PAll
open Go.RowKit Go.Proofs.YtofklpphalalhaaGreatDoorW.PrintWords Go.Proofs.YtofklpphalalhaaGreatDoorW.PrintLast Go.Proofs.YtofklpphalalhaaGreatDoorW.PrintMore
attribute [local go_sem] min2_int min_two
set_option linter.unusedVariables false
set_option linter.unusedSimpArgs false
/-! ### entrepotref08_matrix: function 145 -/
def entrepotref08_matrix.l0 : Nat → Int → Int → ByteArray → Int → Int → Int → Int → Int → List (S128) → List Int → Option (Bool)
 | 0, _, _, _, _, _, _, _, _, _, _ => none
 | k + 1, x3, x4, x102000, x102001, x102002, x102003, x102004, x102005, x102006, x102007 => if x4 < (wrap64 (x3 * x3)) then (if 0 ≤ x4 then (if x4 < (x102007.length : Int) then ((entrepotref08_number.f (rd x102007 x4)).bind fun t103 => (if t103 = true then (if (wrap64 (x3 + 1)) = 0 then (none) else (if (Int.tmod x4 (wrap64 (x3 + 1))) = 0 then (if (rd x102007 x4) = 0 then (entrepotref08_matrix.l0 k x3 (wrap64 (x4 + 1)) x102000 x102001 x102002 x102003 x102004 x102005 x102006 x102007) else (some false)) else (entrepotref08_matrix.l0 k x3 (wrap64 (x4 + 1)) x102000 x102001 x102002 x102003 x102004 x102005 x102006 x102007))) else (some false))) else (none)) else (none)) else (some true)
def entrepotref08_matrix.f (k : Nat) (a0_0 : ByteArray) (a0_1 : Int) (a0_2 : Int) (a0_3 : Int) (a0_4 : Int) (a0_5 : Int) (l0_6 : List (S128)) (l0_7 : List Int) : Option (Bool) := if a0_2 = 0 then (if (l0_7.length : Int) = (wrap64 ((l0_6.length : Int) * (l0_6.length : Int))) then (entrepotref08_matrix.l0 k (l0_6.length : Int) 0 a0_0 a0_1 a0_2 a0_3 a0_4 a0_5 l0_6 l0_7) else (some false)) else (some ((l0_7.length : Int) == 0))
set_option maxHeartbeats 8000000 in
set_option maxRecDepth 100000 in
theorem entrepotref08_matrix.calls (k : Nat) (a0_0 : ByteArray) (a0_1 : Int) (a0_2 : Int) (a0_3 : Int) (a0_4 : Int) (a0_5 : Int) (A0_6 : Option Addr) (c0_6 : Nat) (l0_6 : List (S128)) (A0_7 : Option Addr) (c0_7 : Nat) (l0_7 : List Int) (r : Bool) (w : World) (hr0_6 : Kd.C k128 w A0_6 l0_6.length l0_6) (hc0_6 : l0_6.length ≤ c0_6) (hr0_7 : Kd.C (Kd.int .i64) w A0_7 l0_7.length l0_7) (hc0_7 : l0_7.length ≤ c0_7) (h : entrepotref08_matrix.f k a0_0 a0_1 a0_2 a0_3 a0_4 a0_5 l0_6 l0_7 = some r) :
    Calls Tryz.prog 145 #[.agg #[.string a0_0, .int .i64 a0_1, .int .i64 a0_2, .int .i64 a0_3, .int .i64 a0_4, .int .i64 a0_5, .slice A0_6 l0_6.length c0_6, .slice A0_7 l0_7.length c0_7]] w fun e w' => e = .returned (.bool r) ∧ Below w.heap.size w w' := by
  have hu51 := Tryz.underlying51
  have HR0_6 := Aside0.mk hr0_6
  have HC0_6 := Aside0.mk hc0_6
  clear hr0_6 hc0_6
  have HR0_7 := Aside0.mk hr0_7
  have HC0_7 := Aside0.mk hc0_7
  clear hr0_7 hc0_7
  have HB := Aside0.mk (Below.refl w.heap.size w)
  have H : (if a0_2 = 0 then (if (l0_7.length : Int) = (wrap64 ((l0_6.length : Int) * (l0_6.length : Int))) then (entrepotref08_matrix.l0 k (l0_6.length : Int) 0 a0_0 a0_1 a0_2 a0_3 a0_4 a0_5 l0_6 l0_7) else (some false)) else (some ((l0_7.length : Int) == 0))) = some r := h
  clear h
  by_cases c2 : a0_2 = 0
  · rw [if_pos c2] at H
    have c2b0 := beq_iff_eq.mpr c2
    have c2b1 := bne_eq_false_iff_eq.mpr c2
    clear c2
    by_cases c3 : (l0_7.length : Int) = (wrap64 ((l0_6.length : Int) * (l0_6.length : Int)))
    · rw [if_pos c3] at H
      have c3b0 := beq_iff_eq.mpr c3
      have c3b1 := bne_eq_false_iff_eq.mpr c3
      clear c3
      have H' := Aside0.mk H
      clear H
      go_enter Tryz.func145, Tryz.ntmps145
      go_wp2_with (first | ((with_reducible refine gate_dst (N := 1) rfl ?_); refine bx (N := 1) (cs := #[.string a0_0, .int .i64 a0_1, .int .i64 a0_2, .int .i64 a0_3, .int .i64 a0_4, .int .i64 a0_5, .slice A0_6 l0_6.length c0_6, .slice A0_7 l0_7.length c0_7]) (t := 51) ?_; intro gb101 hg w4 hbox hb; have BK101 := am (hbox); have GW101 := am ((zz hg (zb HB))); have GE101 := am ((zz hg (zb HB))); replace HB := am (below_step (zb HB) hb); clear hb hbox hg; obtain ⟨hcz5_0, hcz5_1, hcz5_2, hcz5_3, hcz5_4, hcz5_5, hcz5_6, hcz5_7, hfz5_0, hfz5_1, hfz5_2, hfz5_3, hfz5_4, hfz5_5, hfz5_6, hfz5_7⟩ := cz8 BK101))
      go_loopg [4] k (fun kq v4 w' => ∃ (x4_1 : Int), v4 = .int .i64 x4_1 ∧ Aside0 (entrepotref08_matrix.l0 kq (l0_6.length : Int) x4_1 a0_0 a0_1 a0_2 a0_3 a0_4 a0_5 l0_6 l0_7 = some r) ∧ Aside0 (kq ≤ k) ∧ Aside0 (w'.heap[gb101]? = some (.cells #[.string a0_0, .int .i64 a0_1, .int .i64 a0_2, .int .i64 a0_3, .int .i64 a0_4, .int .i64 a0_5, (.slice A0_6 l0_6.length c0_6), (.slice A0_7 l0_7.length c0_7)] 51 (0, 0))) ∧ Aside0 (Below w.heap.size w w'))
      case atStart => exact ⟨(0), zs, H', ⟨Nat.le_refl _⟩, ⟨zk BK101⟩, ⟨zb HB⟩⟩
      case round =>
        clear H'
        try clear c1
        try clear c2
        try clear c2b0
        try clear c2b1
        try clear p2
        try clear c3
        try clear c3b0
        try clear c3b1
        try clear hcz5_0
        try clear hcz5_1
        try clear hcz5_2
        try clear hcz5_3
        try clear hcz5_4
        try clear hcz5_5
        try clear hcz5_6
        try clear hcz5_7
        try clear hfz5_0
        try clear hfz5_1
        try clear hfz5_2
        try clear hfz5_3
        try clear hfz5_4
        try clear hfz5_5
        try clear hfz5_6
        try clear hfz5_7
        obtain ⟨x4_1, rfl, HA, HK1, BK101, HB⟩ := hrel
        cases gk with
        | zero => exact absurd HA.out (by simp [entrepotref08_matrix.l0])
        | succ k1 =>
          have H := HA.out
          clear HA
          simp only [entrepotref08_matrix.l0] at H
          by_cases c6 : x4_1 < (wrap64 ((l0_6.length : Int) * (l0_6.length : Int)))
          · rw [if_pos c6] at H
            have c6b0 := decide_eq_true c6
            clear c6
            by_cases c7 : 0 ≤ x4_1
            · rw [if_pos c7] at H
              have c7b0 := decide_eq_true c7
              clear c7
              by_cases c8 : x4_1 < (l0_7.length : Int)
              · rw [if_pos c8] at H
                have c8b0 := decide_eq_true c8
                clear c8
                replace H := Option.bind_eq_some_iff.mp H
                obtain ⟨t103, A90, H⟩ := H
                have A9 := Aside0.mk A90
                clear A90
                by_cases c10 : t103 = true
                · subst c10
                  rw [if_pos rfl] at H
                  by_cases c11 : (wrap64 ((l0_6.length : Int) + 1)) = 0
                  · rw [if_pos c11] at H
                    exact absurd H (by simp)
                  · rw [if_neg c11] at H
                    have c11b0 := beq_eq_false_iff_ne.mpr c11
                    have c11b1 := bne_iff_ne.mpr c11
                    by_cases c12 : (Int.tmod x4_1 (wrap64 ((l0_6.length : Int) + 1))) = 0
                    · rw [if_pos c12] at H
                      have c12b0 := beq_iff_eq.mpr c12
                      have c12b1 := bne_eq_false_iff_eq.mpr c12
                      clear c12
                      by_cases c13 : (rd l0_7 x4_1) = 0
                      · rw [if_pos c13] at H
                        have c13b0 := beq_iff_eq.mpr c13
                        have c13b1 := bne_eq_false_iff_eq.mpr c13
                        clear c13
                        have H' := Aside0.mk H
                        clear H
                        obtain ⟨hcz14_0, hcz14_1, hcz14_2, hcz14_3, hcz14_4, hcz14_5, hcz14_6, hcz14_7, hfz14_0, hfz14_1, hfz14_2, hfz14_3, hfz14_4, hfz14_5, hfz14_6, hfz14_7⟩ := cz8 BK101
                        have p102 : 0 ≤ (x4_1 : Int) := of_decide_eq_true za
                        have q102 : x4_1 < (l0_7.length : Int) := of_decide_eq_true za
                        obtain ⟨ad102, e102, hx102_0⟩ := Kd.at_int HR0_7.out x4_1 p102 q102
                        cases e102
                        replace hx102_0 := zx HB hx102_0
                        replace p102 := eq_true p102
                        replace q102 := eq_true q102
                        go_wp2_with (first | ((with_reducible refine gate_callee (f := 186) rfl ?_); refine gl (some 34) Tryz.func186 #[.int .i64 (rd l0_7 x4_1)] rfl ?_; (with_reducible refine (entrepotref08_number.calls (rd l0_7 x4_1) true _ A9.out).mono ?_); rintro e w' ⟨rfl, ⟨nd, rfl⟩⟩; refine ⟨_, rfl, ?_⟩; have p104 : 0 ≤ (x4_1 : Int) := of_decide_eq_true za; have q104 : x4_1 < (l0_7.length : Int) := of_decide_eq_true za; obtain ⟨ad104, e104, hx104_0⟩ := Kd.at_int HR0_7.out x4_1 p104 q104; obtain rfl : ad102 = ad104 := (by injection e104); replace hx104_0 := zx HB hx104_0; replace p104 := eq_true p104; replace q104 := eq_true q104))
                        go_roundg k1
                        case measure => have := HK1.out; omega
                        case rel => exact ⟨(wrap64 (x4_1 + 1)), zs, H', ⟨by have := HK1.out; omega⟩, ⟨zk BK101⟩, ⟨zb HB⟩⟩
                      · rw [if_neg c13] at H
                        have c13b0 := beq_eq_false_iff_ne.mpr c13
                        have c13b1 := bne_iff_ne.mpr c13
                        obtain rfl := Option.some.inj H
                        obtain ⟨hcz15_0, hcz15_1, hcz15_2, hcz15_3, hcz15_4, hcz15_5, hcz15_6, hcz15_7, hfz15_0, hfz15_1, hfz15_2, hfz15_3, hfz15_4, hfz15_5, hfz15_6, hfz15_7⟩ := cz8 BK101
                        have p102 : 0 ≤ (x4_1 : Int) := of_decide_eq_true za
                        have q102 : x4_1 < (l0_7.length : Int) := of_decide_eq_true za
                        obtain ⟨ad102, e102, hx102_0⟩ := Kd.at_int HR0_7.out x4_1 p102 q102
                        cases e102
                        replace hx102_0 := zx HB hx102_0
                        replace p102 := eq_true p102
                        replace q102 := eq_true q102
                        go_wp2_with (first | ((with_reducible refine gate_callee (f := 186) rfl ?_); refine gl (some 34) Tryz.func186 #[.int .i64 (rd l0_7 x4_1)] rfl ?_; (with_reducible refine (entrepotref08_number.calls (rd l0_7 x4_1) true _ A9.out).mono ?_); rintro e w' ⟨rfl, ⟨nd, rfl⟩⟩; refine ⟨_, rfl, ?_⟩; have p104 : 0 ≤ (x4_1 : Int) := of_decide_eq_true za; have q104 : x4_1 < (l0_7.length : Int) := of_decide_eq_true za; obtain ⟨ad104, e104, hx104_0⟩ := Kd.at_int HR0_7.out x4_1 p104 q104; obtain rfl : ad102 = ad104 := (by injection e104); replace hx104_0 := zx HB hx104_0; replace p104 := eq_true p104; replace q104 := eq_true q104))
                        go_ret
                        exact ⟨ze, zb HB⟩
                    · rw [if_neg c12] at H
                      have c12b0 := beq_eq_false_iff_ne.mpr c12
                      have c12b1 := bne_iff_ne.mpr c12
                      have H' := Aside0.mk H
                      clear H
                      obtain ⟨hcz16_0, hcz16_1, hcz16_2, hcz16_3, hcz16_4, hcz16_5, hcz16_6, hcz16_7, hfz16_0, hfz16_1, hfz16_2, hfz16_3, hfz16_4, hfz16_5, hfz16_6, hfz16_7⟩ := cz8 BK101
                      have p102 : 0 ≤ (x4_1 : Int) := of_decide_eq_true za
                      have q102 : x4_1 < (l0_7.length : Int) := of_decide_eq_true za
                      obtain ⟨ad102, e102, hx102_0⟩ := Kd.at_int HR0_7.out x4_1 p102 q102
                      cases e102
                      replace hx102_0 := zx HB hx102_0
                      replace p102 := eq_true p102
                      replace q102 := eq_true q102
                      go_wp2_with (first | ((with_reducible refine gate_callee (f := 186) rfl ?_); refine gl (some 34) Tryz.func186 #[.int .i64 (rd l0_7 x4_1)] rfl ?_; (with_reducible refine (entrepotref08_number.calls (rd l0_7 x4_1) true _ A9.out).mono ?_); rintro e w' ⟨rfl, ⟨nd, rfl⟩⟩; refine ⟨_, rfl, ?_⟩))
                      go_roundg k1
                      case measure => have := HK1.out; omega
                      case rel => exact ⟨(wrap64 (x4_1 + 1)), zs, H', ⟨by have := HK1.out; omega⟩, ⟨zk BK101⟩, ⟨zb HB⟩⟩
                · replace c10 := Bool.eq_false_iff.mpr c10
                  subst c10
                  rw [if_neg (show ¬ (false = true) by decide)] at H
                  obtain rfl := Option.some.inj H
                  obtain ⟨hcz17_0, hcz17_1, hcz17_2, hcz17_3, hcz17_4, hcz17_5, hcz17_6, hcz17_7, hfz17_0, hfz17_1, hfz17_2, hfz17_3, hfz17_4, hfz17_5, hfz17_6, hfz17_7⟩ := cz8 BK101
                  have p102 : 0 ≤ (x4_1 : Int) := of_decide_eq_true za
                  have q102 : x4_1 < (l0_7.length : Int) := of_decide_eq_true za
                  obtain ⟨ad102, e102, hx102_0⟩ := Kd.at_int HR0_7.out x4_1 p102 q102
                  cases e102
                  replace hx102_0 := zx HB hx102_0
                  replace p102 := eq_true p102
                  replace q102 := eq_true q102
                  go_wp2_with (first | ((with_reducible refine gate_callee (f := 186) rfl ?_); refine gl (some 34) Tryz.func186 #[.int .i64 (rd l0_7 x4_1)] rfl ?_; (with_reducible refine (entrepotref08_number.calls (rd l0_7 x4_1) false _ A9.out).mono ?_); rintro e w' ⟨rfl, ⟨nd, rfl⟩⟩; refine ⟨_, rfl, ?_⟩))
                  go_ret
                  exact ⟨ze, zb HB⟩
              · rw [if_neg c8] at H
                exact absurd H (by simp)
            · rw [if_neg c7] at H
              exact absurd H (by simp)
          · rw [if_neg c6] at H
            have c6b0 := decide_eq_false c6
            clear c6
            obtain rfl := Option.some.inj H
            go_wp2
            go_ret
            exact ⟨ze, zb HB⟩
    · rw [if_neg c3] at H
      have c3b0 := beq_eq_false_iff_ne.mpr c3
      have c3b1 := bne_iff_ne.mpr c3
      obtain rfl := Option.some.inj H
      go_enter Tryz.func145, Tryz.ntmps145
      go_wp2_with (first | ((with_reducible refine gate_dst (N := 1) rfl ?_); refine bx (N := 1) (cs := #[.string a0_0, .int .i64 a0_1, .int .i64 a0_2, .int .i64 a0_3, .int .i64 a0_4, .int .i64 a0_5, .slice A0_6 l0_6.length c0_6, .slice A0_7 l0_7.length c0_7]) (t := 51) ?_; intro gb101 hg w18 hbox hb; have BK101 := am (hbox); have GW101 := am ((zz hg (zb HB))); have GE101 := am ((zz hg (zb HB))); replace HB := am (below_step (zb HB) hb); clear hb hbox hg; obtain ⟨hcz19_0, hcz19_1, hcz19_2, hcz19_3, hcz19_4, hcz19_5, hcz19_6, hcz19_7, hfz19_0, hfz19_1, hfz19_2, hfz19_3, hfz19_4, hfz19_5, hfz19_6, hfz19_7⟩ := cz8 BK101))
      go_ret
      exact ⟨ze, zb HB⟩
  · rw [if_neg c2] at H
    have c2b0 := beq_eq_false_iff_ne.mpr c2
    have c2b1 := bne_iff_ne.mpr c2
    obtain rfl := Option.some.inj H
    go_enter Tryz.func145, Tryz.ntmps145
    go_wp2_with (first | ((with_reducible refine gate_dst (N := 1) rfl ?_); refine bx (N := 1) (cs := #[.string a0_0, .int .i64 a0_1, .int .i64 a0_2, .int .i64 a0_3, .int .i64 a0_4, .int .i64 a0_5, .slice A0_6 l0_6.length c0_6, .slice A0_7 l0_7.length c0_7]) (t := 51) ?_; intro gb101 hg w20 hbox hb; have BK101 := am (hbox); have GW101 := am ((zz hg (zb HB))); have GE101 := am ((zz hg (zb HB))); replace HB := am (below_step (zb HB) hb); clear hb hbox hg; obtain ⟨hcz21_0, hcz21_1, hcz21_2, hcz21_3, hcz21_4, hcz21_5, hcz21_6, hcz21_7, hfz21_0, hfz21_1, hfz21_2, hfz21_3, hfz21_4, hfz21_5, hfz21_6, hfz21_7⟩ := cz8 BK101))
    go_ret
    exact ⟨ze, zb HB⟩
/-! ### entrepotref08_signed: function 187 -/
def entrepotref08_signed.f (a0 : Int) : Option (Bool) := if a0 ≥ (-100000000) then (some (decide (a0 ≤ 100000000))) else (some false)
set_option maxHeartbeats 8000000 in
set_option maxRecDepth 100000 in
theorem entrepotref08_signed.calls (a0 : Int) (r : Bool) (w : World) (h : entrepotref08_signed.f a0 = some r) :
  Calls Tryz.prog 187 #[.int .i64 a0] w fun e w' => e = .returned (.bool r) ∧ Drawn0 w w' := by
 have H : (if a0 ≥ (-100000000) then (some (decide (a0 ≤ 100000000))) else (some false)) = some r := h
 clear h
 by_cases c2 : a0 ≥ (-100000000)
 ·rw [if_pos c2] at H
  have c2b0 := decide_eq_true c2
  clear c2
  obtain rfl := Option.some.inj H
  go_enter Tryz.func187, Tryz.ntmps187
  go_wp2
  go_ret
  exact ⟨zs, zd⟩
 ·rw [if_neg c2] at H
  have c2b0 := decide_eq_false c2
  clear c2
  obtain rfl := Option.some.inj H
  go_enter Tryz.func187, Tryz.ntmps187
  go_wp2
  go_ret
  exact ⟨zs, zd⟩
/-! ### entrepotref08_coord: function 146 -/
def entrepotref08_coord.f (a0_0 : ByteArray) (a0_1 : Int) (a0_2 : Int) (a0_3 : Int) (a0_4 : Int) (a0_5 : Int) (l0_6 : List (S128)) (l0_7 : List Int) (a1 : Int) : Option (Bool) := if 0 ≤ a1 then (if a1 < (l0_6.length : Int) then ((entrepotref08_signed.f ((rd_T128 l0_6 a1).f0)).bind fun t108 => (if t108 = true then ((entrepotref08_signed.f ((rd_T128 l0_6 a1).f1)).bind fun t109 => (if t109 = true then (if a0_2 = 0 then (if ((rd_T128 l0_6 a1).f0) = 0 then (some (((rd_T128 l0_6 a1).f1) == 0)) else (some false)) else (some true)) else (some false))) else (some false))) else (none)) else (none)
set_option maxHeartbeats 8000000 in
set_option maxRecDepth 100000 in
theorem entrepotref08_coord.calls (a0_0 : ByteArray) (a0_1 : Int) (a0_2 : Int) (a0_3 : Int) (a0_4 : Int) (a0_5 : Int) (A0_6 : Option Addr) (c0_6 : Nat) (l0_6 : List (S128)) (A0_7 : Option Addr) (c0_7 : Nat) (l0_7 : List Int) (a1 : Int) (r : Bool) (w : World) (hr0_6 : Kd.C k128 w A0_6 l0_6.length l0_6) (hc0_6 : l0_6.length ≤ c0_6) (hr0_7 : Kd.C (Kd.int .i64) w A0_7 l0_7.length l0_7) (hc0_7 : l0_7.length ≤ c0_7) (h : entrepotref08_coord.f a0_0 a0_1 a0_2 a0_3 a0_4 a0_5 l0_6 l0_7 a1 = some r) :
  Calls Tryz.prog 146 #[.agg #[.string a0_0, .int .i64 a0_1, .int .i64 a0_2, .int .i64 a0_3, .int .i64 a0_4, .int .i64 a0_5, .slice A0_6 l0_6.length c0_6, .slice A0_7 l0_7.length c0_7], .int .i64 a1] w fun e w' => e = .returned (.bool r) ∧ Below w.heap.size w w' := by
 have hu51 := Tryz.underlying51
 have hu128 := Tryz.underlying128
 have HR0_6 := Aside0.mk hr0_6
 have HC0_6 := Aside0.mk hc0_6
 clear hr0_6 hc0_6
 have HR0_7 := Aside0.mk hr0_7
 have HC0_7 := Aside0.mk hc0_7
 clear hr0_7 hc0_7
 have HB := Aside0.mk (Below.refl w.heap.size w)
 have H : (if 0 ≤ a1 then (if a1 < (l0_6.length : Int) then ((entrepotref08_signed.f ((rd_T128 l0_6 a1).f0)).bind fun t108 => (if t108 = true then ((entrepotref08_signed.f ((rd_T128 l0_6 a1).f1)).bind fun t109 => (if t109 = true then (if a0_2 = 0 then (if ((rd_T128 l0_6 a1).f0) = 0 then (some (((rd_T128 l0_6 a1).f1) == 0)) else (some false)) else (some true)) else (some false))) else (some false))) else (none)) else (none)) = some r := h
 clear h
 by_cases c3 : 0 ≤ a1
 ·rw [if_pos c3] at H
  have c3b0 := decide_eq_true c3
  clear c3
  by_cases c4 : a1 < (l0_6.length : Int)
  ·rw [if_pos c4] at H
   have c4b0 := decide_eq_true c4
   clear c4
   replace H := Option.bind_eq_some_iff.mp H
   obtain ⟨t108, A50, H⟩ := H
   have A5 := Aside0.mk A50
   clear A50
   by_cases c6 : t108 = true
   ·subst c6
    rw [if_pos rfl] at H
    replace H := Option.bind_eq_some_iff.mp H
    obtain ⟨t109, A70, H⟩ := H
    have A7 := Aside0.mk A70
    clear A70
    by_cases c8 : t109 = true
    ·subst c8
     rw [if_pos rfl] at H
     by_cases c9 : a0_2 = 0
     ·rw [if_pos c9] at H
      have c9b0 := beq_iff_eq.mpr c9
      have c9b1 := bne_eq_false_iff_eq.mpr c9
      clear c9
      by_cases c10 : ((rd_T128 l0_6 a1).f0) = 0
      ·rw [if_pos c10] at H
       have c10b0 := beq_iff_eq.mpr c10
       have c10b1 := bne_eq_false_iff_eq.mpr c10
       clear c10
       obtain rfl := Option.some.inj H
       go_enter Tryz.func146, Tryz.ntmps146
       go_wp2_with (first | ((with_reducible refine gate_dst (N := 2) rfl ?_); refine bx (N := 2) (cs := #[.string a0_0, .int .i64 a0_1, .int .i64 a0_2, .int .i64 a0_3, .int .i64 a0_4, .int .i64 a0_5, .slice A0_6 l0_6.length c0_6, .slice A0_7 l0_7.length c0_7]) (t := 51) ?_; intro gb105 hg w11 hbox hb; have BK105 := am (hbox); have GW105 := am ((zz hg (zb HB))); have GE105 := am ((zz hg (zb HB))); replace HB := am (below_step (zb HB) hb); clear hb hbox hg; obtain ⟨hcz12_0, hcz12_1, hcz12_2, hcz12_3, hcz12_4, hcz12_5, hcz12_6, hcz12_7, hfz12_0, hfz12_1, hfz12_2, hfz12_3, hfz12_4, hfz12_5, hfz12_6, hfz12_7⟩ := cz8 BK105; have p106 : 0 ≤ (a1 : Int) := of_decide_eq_true za; have q106 : a1 < (l0_6.length : Int) := of_decide_eq_true za; obtain ⟨ad106, e106, hx106_0, hx106_1, hx106_2, hx106_3, hx106_4, hx106_5, hx106_6⟩ := at_T128 HR0_6.out a1 p106 q106; cases e106; replace hx106_0 := zx HB hx106_0; replace hx106_1 := zx HB hx106_1; replace hx106_2 := zx HB hx106_2; replace hx106_3 := zx HB hx106_3; replace hx106_4 := zx HB hx106_4; replace hx106_5 := zx HB hx106_5; replace hx106_6 := zx HB hx106_6; replace p106 := eq_true p106; replace q106 := eq_true q106) | ((with_reducible refine gate_dst (N := 5) rfl ?_); refine bx (N := 5) (cs := #[.int .i64 0, .int .i64 0, .int .i64 0, .int .i64 0, .int .i64 0, .int .i64 0, .int .i64 0]) (t := 128) ?_; intro gb107 hg w13 hbox hb; have BK107 := am (hbox); have GW107 := am ((zz hg (zb HB))); have GE107 := am ((zz hg (zb HB))); replace HB := am (below_step (zb HB) hb); have NB105_107 := am ((zl hg (zk BK105))); have NB107_105 := am ((zg hg (zk BK105))); replace BK105 := am (blk_below (zk BK105) hb); clear hb hbox hg; have hnb14 := NB107_105.out; have hnc14 := NB105_107.out; obtain ⟨hcz15_0, hcz15_1, hcz15_2, hcz15_3, hcz15_4, hcz15_5, hcz15_6, hfz15_0, hfz15_1, hfz15_2, hfz15_3, hfz15_4, hfz15_5, hfz15_6⟩ := cz7 BK107) | ((with_reducible refine gate_callee (f := 187) rfl ?_); refine gl (some 13) Tryz.func187 #[.int .i64 ((rd_T128 l0_6 a1).f0)] rfl ?_; (with_reducible refine (entrepotref08_signed.calls ((rd_T128 l0_6 a1).f0) true _ A5.out).mono ?_); rintro e w' ⟨rfl, ⟨nd, rfl⟩⟩; refine ⟨_, rfl, ?_⟩) | (go_at_call 187; (with_reducible refine (entrepotref08_signed.calls ((rd_T128 l0_6 a1).f1) true _ A7.out).mono ?_); rintro e w' ⟨rfl, ⟨nd, rfl⟩⟩; obtain ⟨hcz16_0, hcz16_1, hcz16_2, hcz16_3, hcz16_4, hcz16_5, hcz16_6, hcz16_7, hfz16_0, hfz16_1, hfz16_2, hfz16_3, hfz16_4, hfz16_5, hfz16_6, hfz16_7⟩ := cz8 BK105))
       go_ret
       exact ⟨ze, zb HB⟩
      ·rw [if_neg c10] at H
       have c10b0 := beq_eq_false_iff_ne.mpr c10
       have c10b1 := bne_iff_ne.mpr c10
       obtain rfl := Option.some.inj H
       go_enter Tryz.func146, Tryz.ntmps146
       go_wp2_with (first | ((with_reducible refine gate_dst (N := 2) rfl ?_); refine bx (N := 2) (cs := #[.string a0_0, .int .i64 a0_1, .int .i64 a0_2, .int .i64 a0_3, .int .i64 a0_4, .int .i64 a0_5, .slice A0_6 l0_6.length c0_6, .slice A0_7 l0_7.length c0_7]) (t := 51) ?_; intro gb105 hg w17 hbox hb; have BK105 := am (hbox); have GW105 := am ((zz hg (zb HB))); have GE105 := am ((zz hg (zb HB))); replace HB := am (below_step (zb HB) hb); clear hb hbox hg; obtain ⟨hcz18_0, hcz18_1, hcz18_2, hcz18_3, hcz18_4, hcz18_5, hcz18_6, hcz18_7, hfz18_0, hfz18_1, hfz18_2, hfz18_3, hfz18_4, hfz18_5, hfz18_6, hfz18_7⟩ := cz8 BK105; have p106 : 0 ≤ (a1 : Int) := of_decide_eq_true za; have q106 : a1 < (l0_6.length : Int) := of_decide_eq_true za; obtain ⟨ad106, e106, hx106_0, hx106_1, hx106_2, hx106_3, hx106_4, hx106_5, hx106_6⟩ := at_T128 HR0_6.out a1 p106 q106; cases e106; replace hx106_0 := zx HB hx106_0; replace hx106_1 := zx HB hx106_1; replace hx106_2 := zx HB hx106_2; replace hx106_3 := zx HB hx106_3; replace hx106_4 := zx HB hx106_4; replace hx106_5 := zx HB hx106_5; replace hx106_6 := zx HB hx106_6; replace p106 := eq_true p106; replace q106 := eq_true q106) | ((with_reducible refine gate_dst (N := 5) rfl ?_); refine bx (N := 5) (cs := #[.int .i64 0, .int .i64 0, .int .i64 0, .int .i64 0, .int .i64 0, .int .i64 0, .int .i64 0]) (t := 128) ?_; intro gb107 hg w19 hbox hb; have BK107 := am (hbox); have GW107 := am ((zz hg (zb HB))); have GE107 := am ((zz hg (zb HB))); replace HB := am (below_step (zb HB) hb); have NB105_107 := am ((zl hg (zk BK105))); have NB107_105 := am ((zg hg (zk BK105))); replace BK105 := am (blk_below (zk BK105) hb); clear hb hbox hg; have hnb20 := NB107_105.out; have hnc20 := NB105_107.out; obtain ⟨hcz21_0, hcz21_1, hcz21_2, hcz21_3, hcz21_4, hcz21_5, hcz21_6, hfz21_0, hfz21_1, hfz21_2, hfz21_3, hfz21_4, hfz21_5, hfz21_6⟩ := cz7 BK107) | ((with_reducible refine gate_callee (f := 187) rfl ?_); refine gl (some 13) Tryz.func187 #[.int .i64 ((rd_T128 l0_6 a1).f0)] rfl ?_; (with_reducible refine (entrepotref08_signed.calls ((rd_T128 l0_6 a1).f0) true _ A5.out).mono ?_); rintro e w' ⟨rfl, ⟨nd, rfl⟩⟩; refine ⟨_, rfl, ?_⟩) | (go_at_call 187; (with_reducible refine (entrepotref08_signed.calls ((rd_T128 l0_6 a1).f1) true _ A7.out).mono ?_); rintro e w' ⟨rfl, ⟨nd, rfl⟩⟩; obtain ⟨hcz22_0, hcz22_1, hcz22_2, hcz22_3, hcz22_4, hcz22_5, hcz22_6, hcz22_7, hfz22_0, hfz22_1, hfz22_2, hfz22_3, hfz22_4, hfz22_5, hfz22_6, hfz22_7⟩ := cz8 BK105))
       go_ret
       exact ⟨ze, zb HB⟩
     ·rw [if_neg c9] at H
      have c9b0 := beq_eq_false_iff_ne.mpr c9
      have c9b1 := bne_iff_ne.mpr c9
      obtain rfl := Option.some.inj H
      go_enter Tryz.func146, Tryz.ntmps146
      go_wp2_with (first | ((with_reducible refine gate_dst (N := 2) rfl ?_); refine bx (N := 2) (cs := #[.string a0_0, .int .i64 a0_1, .int .i64 a0_2, .int .i64 a0_3, .int .i64 a0_4, .int .i64 a0_5, .slice A0_6 l0_6.length c0_6, .slice A0_7 l0_7.length c0_7]) (t := 51) ?_; intro gb105 hg w23 hbox hb; have BK105 := am (hbox); have GW105 := am ((zz hg (zb HB))); have GE105 := am ((zz hg (zb HB))); replace HB := am (below_step (zb HB) hb); clear hb hbox hg; obtain ⟨hcz24_0, hcz24_1, hcz24_2, hcz24_3, hcz24_4, hcz24_5, hcz24_6, hcz24_7, hfz24_0, hfz24_1, hfz24_2, hfz24_3, hfz24_4, hfz24_5, hfz24_6, hfz24_7⟩ := cz8 BK105; have p106 : 0 ≤ (a1 : Int) := of_decide_eq_true za; have q106 : a1 < (l0_6.length : Int) := of_decide_eq_true za; obtain ⟨ad106, e106, hx106_0, hx106_1, hx106_2, hx106_3, hx106_4, hx106_5, hx106_6⟩ := at_T128 HR0_6.out a1 p106 q106; cases e106; replace hx106_0 := zx HB hx106_0; replace hx106_1 := zx HB hx106_1; replace hx106_2 := zx HB hx106_2; replace hx106_3 := zx HB hx106_3; replace hx106_4 := zx HB hx106_4; replace hx106_5 := zx HB hx106_5; replace hx106_6 := zx HB hx106_6; replace p106 := eq_true p106; replace q106 := eq_true q106) | ((with_reducible refine gate_dst (N := 5) rfl ?_); refine bx (N := 5) (cs := #[.int .i64 0, .int .i64 0, .int .i64 0, .int .i64 0, .int .i64 0, .int .i64 0, .int .i64 0]) (t := 128) ?_; intro gb107 hg w25 hbox hb; have BK107 := am (hbox); have GW107 := am ((zz hg (zb HB))); have GE107 := am ((zz hg (zb HB))); replace HB := am (below_step (zb HB) hb); have NB105_107 := am ((zl hg (zk BK105))); have NB107_105 := am ((zg hg (zk BK105))); replace BK105 := am (blk_below (zk BK105) hb); clear hb hbox hg; have hnb26 := NB107_105.out; have hnc26 := NB105_107.out; obtain ⟨hcz27_0, hcz27_1, hcz27_2, hcz27_3, hcz27_4, hcz27_5, hcz27_6, hfz27_0, hfz27_1, hfz27_2, hfz27_3, hfz27_4, hfz27_5, hfz27_6⟩ := cz7 BK107) | ((with_reducible refine gate_callee (f := 187) rfl ?_); refine gl (some 13) Tryz.func187 #[.int .i64 ((rd_T128 l0_6 a1).f0)] rfl ?_; (with_reducible refine (entrepotref08_signed.calls ((rd_T128 l0_6 a1).f0) true _ A5.out).mono ?_); rintro e w' ⟨rfl, ⟨nd, rfl⟩⟩; refine ⟨_, rfl, ?_⟩) | (go_at_call 187; (with_reducible refine (entrepotref08_signed.calls ((rd_T128 l0_6 a1).f1) true _ A7.out).mono ?_); rintro e w' ⟨rfl, ⟨nd, rfl⟩⟩; obtain ⟨hcz28_0, hcz28_1, hcz28_2, hcz28_3, hcz28_4, hcz28_5, hcz28_6, hcz28_7, hfz28_0, hfz28_1, hfz28_2, hfz28_3, hfz28_4, hfz28_5, hfz28_6, hfz28_7⟩ := cz8 BK105))
      go_ret
      exact ⟨ze, zb HB⟩
    ·replace c8 := Bool.eq_false_iff.mpr c8
     subst c8
     rw [if_neg (show ¬ (false = true) by decide)] at H
     obtain rfl := Option.some.inj H
     go_enter Tryz.func146, Tryz.ntmps146
     go_wp2_with (first | ((with_reducible refine gate_dst (N := 2) rfl ?_); refine bx (N := 2) (cs := #[.string a0_0, .int .i64 a0_1, .int .i64 a0_2, .int .i64 a0_3, .int .i64 a0_4, .int .i64 a0_5, .slice A0_6 l0_6.length c0_6, .slice A0_7 l0_7.length c0_7]) (t := 51) ?_; intro gb105 hg w29 hbox hb; have BK105 := am (hbox); have GW105 := am ((zz hg (zb HB))); have GE105 := am ((zz hg (zb HB))); replace HB := am (below_step (zb HB) hb); clear hb hbox hg; obtain ⟨hcz30_0, hcz30_1, hcz30_2, hcz30_3, hcz30_4, hcz30_5, hcz30_6, hcz30_7, hfz30_0, hfz30_1, hfz30_2, hfz30_3, hfz30_4, hfz30_5, hfz30_6, hfz30_7⟩ := cz8 BK105; have p106 : 0 ≤ (a1 : Int) := of_decide_eq_true za; have q106 : a1 < (l0_6.length : Int) := of_decide_eq_true za; obtain ⟨ad106, e106, hx106_0, hx106_1, hx106_2, hx106_3, hx106_4, hx106_5, hx106_6⟩ := at_T128 HR0_6.out a1 p106 q106; cases e106; replace hx106_0 := zx HB hx106_0; replace hx106_1 := zx HB hx106_1; replace hx106_2 := zx HB hx106_2; replace hx106_3 := zx HB hx106_3; replace hx106_4 := zx HB hx106_4; replace hx106_5 := zx HB hx106_5; replace hx106_6 := zx HB hx106_6; replace p106 := eq_true p106; replace q106 := eq_true q106) | ((with_reducible refine gate_dst (N := 5) rfl ?_); refine bx (N := 5) (cs := #[.int .i64 0, .int .i64 0, .int .i64 0, .int .i64 0, .int .i64 0, .int .i64 0, .int .i64 0]) (t := 128) ?_; intro gb107 hg w31 hbox hb; have BK107 := am (hbox); have GW107 := am ((zz hg (zb HB))); have GE107 := am ((zz hg (zb HB))); replace HB := am (below_step (zb HB) hb); have NB105_107 := am ((zl hg (zk BK105))); have NB107_105 := am ((zg hg (zk BK105))); replace BK105 := am (blk_below (zk BK105) hb); clear hb hbox hg; have hnb32 := NB107_105.out; have hnc32 := NB105_107.out; obtain ⟨hcz33_0, hcz33_1, hcz33_2, hcz33_3, hcz33_4, hcz33_5, hcz33_6, hfz33_0, hfz33_1, hfz33_2, hfz33_3, hfz33_4, hfz33_5, hfz33_6⟩ := cz7 BK107) | ((with_reducible refine gate_callee (f := 187) rfl ?_); refine gl (some 13) Tryz.func187 #[.int .i64 ((rd_T128 l0_6 a1).f0)] rfl ?_; (with_reducible refine (entrepotref08_signed.calls ((rd_T128 l0_6 a1).f0) true _ A5.out).mono ?_); rintro e w' ⟨rfl, ⟨nd, rfl⟩⟩; refine ⟨_, rfl, ?_⟩) | (go_at_call 187; (with_reducible refine (entrepotref08_signed.calls ((rd_T128 l0_6 a1).f1) false _ A7.out).mono ?_); rintro e w' ⟨rfl, ⟨nd, rfl⟩⟩))
     go_ret
     exact ⟨ze, zb HB⟩
   ·replace c6 := Bool.eq_false_iff.mpr c6
    subst c6
    rw [if_neg (show ¬ (false = true) by decide)] at H
    obtain rfl := Option.some.inj H
    go_enter Tryz.func146, Tryz.ntmps146
    go_wp2_with (first | ((with_reducible refine gate_dst (N := 2) rfl ?_); refine bx (N := 2) (cs := #[.string a0_0, .int .i64 a0_1, .int .i64 a0_2, .int .i64 a0_3, .int .i64 a0_4, .int .i64 a0_5, .slice A0_6 l0_6.length c0_6, .slice A0_7 l0_7.length c0_7]) (t := 51) ?_; intro gb105 hg w34 hbox hb; have BK105 := am (hbox); have GW105 := am ((zz hg (zb HB))); have GE105 := am ((zz hg (zb HB))); replace HB := am (below_step (zb HB) hb); clear hb hbox hg; obtain ⟨hcz35_0, hcz35_1, hcz35_2, hcz35_3, hcz35_4, hcz35_5, hcz35_6, hcz35_7, hfz35_0, hfz35_1, hfz35_2, hfz35_3, hfz35_4, hfz35_5, hfz35_6, hfz35_7⟩ := cz8 BK105; have p106 : 0 ≤ (a1 : Int) := of_decide_eq_true za; have q106 : a1 < (l0_6.length : Int) := of_decide_eq_true za; obtain ⟨ad106, e106, hx106_0, hx106_1, hx106_2, hx106_3, hx106_4, hx106_5, hx106_6⟩ := at_T128 HR0_6.out a1 p106 q106; cases e106; replace hx106_0 := zx HB hx106_0; replace hx106_1 := zx HB hx106_1; replace hx106_2 := zx HB hx106_2; replace hx106_3 := zx HB hx106_3; replace hx106_4 := zx HB hx106_4; replace hx106_5 := zx HB hx106_5; replace hx106_6 := zx HB hx106_6; replace p106 := eq_true p106; replace q106 := eq_true q106) | ((with_reducible refine gate_dst (N := 5) rfl ?_); refine bx (N := 5) (cs := #[.int .i64 0, .int .i64 0, .int .i64 0, .int .i64 0, .int .i64 0, .int .i64 0, .int .i64 0]) (t := 128) ?_; intro gb107 hg w36 hbox hb; have BK107 := am (hbox); have GW107 := am ((zz hg (zb HB))); have GE107 := am ((zz hg (zb HB))); replace HB := am (below_step (zb HB) hb); have NB105_107 := am ((zl hg (zk BK105))); have NB107_105 := am ((zg hg (zk BK105))); replace BK105 := am (blk_below (zk BK105) hb); clear hb hbox hg; have hnb37 := NB107_105.out; have hnc37 := NB105_107.out; obtain ⟨hcz38_0, hcz38_1, hcz38_2, hcz38_3, hcz38_4, hcz38_5, hcz38_6, hfz38_0, hfz38_1, hfz38_2, hfz38_3, hfz38_4, hfz38_5, hfz38_6⟩ := cz7 BK107) | ((with_reducible refine gate_callee (f := 187) rfl ?_); refine gl (some 13) Tryz.func187 #[.int .i64 ((rd_T128 l0_6 a1).f0)] rfl ?_; (with_reducible refine (entrepotref08_signed.calls ((rd_T128 l0_6 a1).f0) false _ A5.out).mono ?_); rintro e w' ⟨rfl, ⟨nd, rfl⟩⟩; refine ⟨_, rfl, ?_⟩))
    go_ret
    exact ⟨ze, zb HB⟩
  ·rw [if_neg c4] at H
   exact absurd H (by simp)
 ·rw [if_neg c3] at H
  exact absurd H (by simp)
/-! ### entrepotref08_demand: function 147 -/
def entrepotref08_demand.j0 : Nat → Int → Bool → ByteArray → Int → Int → Int → Int → Int → List (S128) → List Int → Option (Bool)
 | 0, _, _, _, _, _, _, _, _, _, _ => none
 | k + 1, x5, x18, x111000, x111001, x111002, x111003, x111004, x111005, x111006, x111007 => if x18 = true then (some (x5 == 0)) else ((entrepotref08_number.f x5).bind fun t112 => (if t112 = true then (some true) else (if x111001 = 4 then ((entrepotref08_signed.f x5).bind fun t113 => (some t113)) else (some false))))
def entrepotref08_demand.f (k : Nat) (a0_0 : ByteArray) (a0_1 : Int) (a0_2 : Int) (a0_3 : Int) (a0_4 : Int) (a0_5 : Int) (l0_6 : List (S128)) (l0_7 : List Int) (a1 : Int) : Option (Bool) := if 0 ≤ a1 then (if a1 < (l0_6.length : Int) then (if a0_1 = 1 then (entrepotref08_demand.j0 k ((rd_T128 l0_6 a1).f2) true a0_0 a0_1 a0_2 a0_3 a0_4 a0_5 l0_6 l0_7) else (entrepotref08_demand.j0 k ((rd_T128 l0_6 a1).f2) (a1 == 0) a0_0 a0_1 a0_2 a0_3 a0_4 a0_5 l0_6 l0_7)) else (none)) else (none)
set_option maxHeartbeats 8000000 in
set_option maxRecDepth 100000 in
theorem entrepotref08_demand.calls (k : Nat) (a0_0 : ByteArray) (a0_1 : Int) (a0_2 : Int) (a0_3 : Int) (a0_4 : Int) (a0_5 : Int) (A0_6 : Option Addr) (c0_6 : Nat) (l0_6 : List (S128)) (A0_7 : Option Addr) (c0_7 : Nat) (l0_7 : List Int) (a1 : Int) (r : Bool) (w : World) (hr0_6 : Kd.C k128 w A0_6 l0_6.length l0_6) (hc0_6 : l0_6.length ≤ c0_6) (hr0_7 : Kd.C (Kd.int .i64) w A0_7 l0_7.length l0_7) (hc0_7 : l0_7.length ≤ c0_7) (h : entrepotref08_demand.f k a0_0 a0_1 a0_2 a0_3 a0_4 a0_5 l0_6 l0_7 a1 = some r) :
    Calls Tryz.prog 147 #[.agg #[.string a0_0, .int .i64 a0_1, .int .i64 a0_2, .int .i64 a0_3, .int .i64 a0_4, .int .i64 a0_5, .slice A0_6 l0_6.length c0_6, .slice A0_7 l0_7.length c0_7], .int .i64 a1] w fun e w' => e = .returned (.bool r) ∧ Below w.heap.size w w' := by
  have hu51 := Tryz.underlying51
  have HR0_6 := Aside0.mk hr0_6
  have HC0_6 := Aside0.mk hc0_6
  clear hr0_6 hc0_6
  have HR0_7 := Aside0.mk hr0_7
  have HC0_7 := Aside0.mk hc0_7
  clear hr0_7 hc0_7
  have HB := Aside0.mk (Below.refl w.heap.size w)
  have H : (if 0 ≤ a1 then (if a1 < (l0_6.length : Int) then (if a0_1 = 1 then (entrepotref08_demand.j0 k ((rd_T128 l0_6 a1).f2) true a0_0 a0_1 a0_2 a0_3 a0_4 a0_5 l0_6 l0_7) else (entrepotref08_demand.j0 k ((rd_T128 l0_6 a1).f2) (a1 == 0) a0_0 a0_1 a0_2 a0_3 a0_4 a0_5 l0_6 l0_7)) else (none)) else (none)) = some r := h
  clear h
  by_cases c3 : 0 ≤ a1
  · rw [if_pos c3] at H
    have c3b0 := decide_eq_true c3
    clear c3
    by_cases c4 : a1 < (l0_6.length : Int)
    · rw [if_pos c4] at H
      have c4b0 := decide_eq_true c4
      clear c4
      have HC5 := Aside0.mk H
      clear H
      go_enter Tryz.func147, Tryz.ntmps147
      go_upto_region 2 with (first | ((with_reducible refine gate_dst (N := 2) rfl ?_); refine bx (N := 2) (cs := #[.string a0_0, .int .i64 a0_1, .int .i64 a0_2, .int .i64 a0_3, .int .i64 a0_4, .int .i64 a0_5, .slice A0_6 l0_6.length c0_6, .slice A0_7 l0_7.length c0_7]) (t := 51) ?_; intro gb110 hg w6 hbox hb; have BK110 := am (hbox); have GW110 := am ((zz hg (zb HB))); have GE110 := am ((zz hg (zb HB))); replace HB := am (below_step (zb HB) hb); clear hb hbox hg; obtain ⟨hcz7_0, hcz7_1, hcz7_2, hcz7_3, hcz7_4, hcz7_5, hcz7_6, hcz7_7, hfz7_0, hfz7_1, hfz7_2, hfz7_3, hfz7_4, hfz7_5, hfz7_6, hfz7_7⟩ := cz8 BK110; have p111 : 0 ≤ (a1 : Int) := of_decide_eq_true za; have q111 : a1 < (l0_6.length : Int) := of_decide_eq_true za; obtain ⟨ad111, e111, hx111_0, hx111_1, hx111_2, hx111_3, hx111_4, hx111_5, hx111_6⟩ := at_T128 HR0_6.out a1 p111 q111; cases e111; replace hx111_0 := zx HB hx111_0; replace hx111_1 := zx HB hx111_1; replace hx111_2 := zx HB hx111_2; replace hx111_3 := zx HB hx111_3; replace hx111_4 := zx HB hx111_4; replace hx111_5 := zx HB hx111_5; replace hx111_6 := zx HB hx111_6; replace p111 := eq_true p111; replace q111 := eq_true q111))
      (try simp only [Act.put, List.setIfInBounds_toArray, List.set_cons_zero, List.set_cons_succ])
      go_cut [18] (fun v18 wc => ∃ (kq : Nat) (x18_4 : Bool), v18 = .bool x18_4 ∧ Aside0 (entrepotref08_demand.j0 kq ((rd_T128 l0_6 a1).f2) x18_4 a0_0 a0_1 a0_2 a0_3 a0_4 a0_5 l0_6 l0_7 = some r) ∧ Aside0 (kq ≤ k) ∧ Aside0 (wc.heap[gb110]? = some (.cells #[.string a0_0, .int .i64 a0_1, .int .i64 a0_2, .int .i64 a0_3, .int .i64 a0_4, .int .i64 a0_5, (.slice (some ad111) l0_6.length c0_6), (.slice A0_7 l0_7.length c0_7)] 51 (0, 0))) ∧ Aside0 (Below w.heap.size w wc))
      case first =>
        have H := HC5.out
        clear HC5
        by_cases c8 : a0_1 = 1
        · rw [if_pos c8] at H
          have c8b0 := beq_iff_eq.mpr c8
          have c8b1 := bne_eq_false_iff_eq.mpr c8
          clear c8
          (first | rw [c8b0] | (simp only [i64_w, i32_w]; rw [c8b0]) | skip)
          have H' := Aside0.mk H
          clear H
          obtain ⟨hcz9_0, hcz9_1, hcz9_2, hcz9_3, hcz9_4, hcz9_5, hcz9_6, hcz9_7, hfz9_0, hfz9_1, hfz9_2, hfz9_3, hfz9_4, hfz9_5, hfz9_6, hfz9_7⟩ := cz8 BK110
          go_wp2
          go_meet
          case rel => exact ⟨_, (true), zs, H', ⟨zo⟩, ⟨zk BK110⟩, ⟨zb HB⟩⟩
        · rw [if_neg c8] at H
          have c8b0 := beq_eq_false_iff_ne.mpr c8
          have c8b1 := bne_iff_ne.mpr c8
          (first | rw [c8b0] | (simp only [i64_w, i32_w]; rw [c8b0]) | skip)
          have H' := Aside0.mk H
          clear H
          obtain ⟨hcz10_0, hcz10_1, hcz10_2, hcz10_3, hcz10_4, hcz10_5, hcz10_6, hcz10_7, hfz10_0, hfz10_1, hfz10_2, hfz10_3, hfz10_4, hfz10_5, hfz10_6, hfz10_7⟩ := cz8 BK110
          go_wp2
          go_meet
          case rel => exact ⟨_, ((a1 == 0)), zs, H', ⟨zo⟩, ⟨zk BK110⟩, ⟨zb HB⟩⟩
      case rest =>
        clear HC5
        try clear c1
        try clear p1
        try clear q1
        try clear hx1
        try clear p2
        try clear c3
        try clear c3b0
        try clear c4
        try clear c4b0
        try clear c8
        try clear c8b0
        try clear c8b1
        try clear hcz10_0
        try clear hcz10_1
        try clear hcz10_2
        try clear hcz10_3
        try clear hcz10_4
        try clear hcz10_5
        try clear hcz10_6
        try clear hcz10_7
        try clear hcz7_0
        try clear hcz7_1
        try clear hcz7_2
        try clear hcz7_3
        try clear hcz7_4
        try clear hcz7_5
        try clear hcz7_6
        try clear hcz7_7
        try clear hcz9_0
        try clear hcz9_1
        try clear hcz9_2
        try clear hcz9_3
        try clear hcz9_4
        try clear hcz9_5
        try clear hcz9_6
        try clear hcz9_7
        try clear hfz10_0
        try clear hfz10_1
        try clear hfz10_2
        try clear hfz10_3
        try clear hfz10_4
        try clear hfz10_5
        try clear hfz10_6
        try clear hfz10_7
        try clear hfz7_0
        try clear hfz7_1
        try clear hfz7_2
        try clear hfz7_3
        try clear hfz7_4
        try clear hfz7_5
        try clear hfz7_6
        try clear hfz7_7
        try clear hfz9_0
        try clear hfz9_1
        try clear hfz9_2
        try clear hfz9_3
        try clear hfz9_4
        try clear hfz9_5
        try clear hfz9_6
        try clear hfz9_7
        try clear hx111_0
        try clear hx111_1
        try clear hx111_2
        try clear hx111_3
        try clear hx111_4
        try clear hx111_5
        try clear hx111_6
        try clear p111
        try clear q111
        obtain ⟨kq, x18_4, rfl, HA, HJ4, BK110, HB⟩ := hcut
        cases kq with
        | zero => exact absurd HA.out (by simp [entrepotref08_demand.j0])
        | succ kj4 =>
          have H := HA.out
          clear HA
          simp only [entrepotref08_demand.j0] at H
          by_cases c11 : x18_4 = true
          · subst c11
            rw [if_pos rfl] at H
            obtain rfl := Option.some.inj H
            go_wp2
            go_ret
            exact ⟨ze, zb HB⟩
          · replace c11 := Bool.eq_false_iff.mpr c11
            subst c11
            rw [if_neg (show ¬ (false = true) by decide)] at H
            replace H := Option.bind_eq_some_iff.mp H
            obtain ⟨t112, A120, H⟩ := H
            have A12 := Aside0.mk A120
            clear A120
            by_cases c13 : t112 = true
            · subst c13
              rw [if_pos rfl] at H
              obtain rfl := Option.some.inj H
              go_wp2_with (first | ((with_reducible refine gate_callee (f := 186) rfl ?_); refine gl (some 22) Tryz.func186 #[.int .i64 ((rd_T128 l0_6 a1).f2)] rfl ?_; (with_reducible refine (entrepotref08_number.calls ((rd_T128 l0_6 a1).f2) true _ A12.out).mono ?_); rintro e w' ⟨rfl, ⟨nd, rfl⟩⟩; refine ⟨_, rfl, ?_⟩))
              go_ret
              exact ⟨ze, zb HB⟩
            · replace c13 := Bool.eq_false_iff.mpr c13
              subst c13
              rw [if_neg (show ¬ (false = true) by decide)] at H
              by_cases c14 : a0_1 = 4
              · rw [if_pos c14] at H
                have c14b0 := beq_iff_eq.mpr c14
                have c14b1 := bne_eq_false_iff_eq.mpr c14
                clear c14
                replace H := Option.bind_eq_some_iff.mp H
                obtain ⟨t113, A150, H⟩ := H
                have A15 := Aside0.mk A150
                clear A150
                obtain rfl := Option.some.inj H
                go_wp2_with (first | ((with_reducible refine gate_callee (f := 186) rfl ?_); refine gl (some 22) Tryz.func186 #[.int .i64 ((rd_T128 l0_6 a1).f2)] rfl ?_; (with_reducible refine (entrepotref08_number.calls ((rd_T128 l0_6 a1).f2) false _ A12.out).mono ?_); rintro e w' ⟨rfl, ⟨nd, rfl⟩⟩; refine ⟨_, rfl, ?_⟩; obtain ⟨hcz16_0, hcz16_1, hcz16_2, hcz16_3, hcz16_4, hcz16_5, hcz16_6, hcz16_7, hfz16_0, hfz16_1, hfz16_2, hfz16_3, hfz16_4, hfz16_5, hfz16_6, hfz16_7⟩ := cz8 BK110) | (go_at_call 187; (with_reducible refine (entrepotref08_signed.calls ((rd_T128 l0_6 a1).f2) t113 _ A15.out).mono ?_); rintro e w' ⟨rfl, ⟨nd, rfl⟩⟩))
                go_ret
                exact ⟨ze, zb HB⟩
              · rw [if_neg c14] at H
                have c14b0 := beq_eq_false_iff_ne.mpr c14
                have c14b1 := bne_iff_ne.mpr c14
                obtain rfl := Option.some.inj H
                go_wp2_with (first | ((with_reducible refine gate_callee (f := 186) rfl ?_); refine gl (some 22) Tryz.func186 #[.int .i64 ((rd_T128 l0_6 a1).f2)] rfl ?_; (with_reducible refine (entrepotref08_number.calls ((rd_T128 l0_6 a1).f2) false _ A12.out).mono ?_); rintro e w' ⟨rfl, ⟨nd, rfl⟩⟩; refine ⟨_, rfl, ?_⟩; obtain ⟨hcz17_0, hcz17_1, hcz17_2, hcz17_3, hcz17_4, hcz17_5, hcz17_6, hcz17_7, hfz17_0, hfz17_1, hfz17_2, hfz17_3, hfz17_4, hfz17_5, hfz17_6, hfz17_7⟩ := cz8 BK110))
                go_ret
                exact ⟨ze, zb HB⟩
    · rw [if_neg c4] at H
      exact absurd H (by simp)
  · rw [if_neg c3] at H
    exact absurd H (by simp)
end Go.Proofs.YtofklpphalalhaaGreatDoor.PAll
