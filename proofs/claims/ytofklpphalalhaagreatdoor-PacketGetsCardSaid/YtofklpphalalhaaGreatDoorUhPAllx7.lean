/- A text of this claim, cut to what the claim uses. Conditions: each theorem's own. -/
import Derived.Test.YtofklpphalalhaaGreatDoorUhJ1
import Derived.Test.YtofklpphalalhaaGreatDoorUhJ4
-- Written by a program out of the translation, for several roots at once (set All). Not trusted: Lean checks it.
namespace Go.Proofs.YtofklpphalalhaaGreatDoor.PAll
open Go.RowKit Go.Proofs.YtofklpphalalhaaGreatDoorW.PrintWords Go.Proofs.YtofklpphalalhaaGreatDoorW.PrintLast Go.Proofs.YtofklpphalalhaaGreatDoorW.PrintMore
attribute [local go_sem] min2_int min_two
set_option linter.unusedVariables false
set_option linter.unusedSimpArgs false
/-! ### entrepotref08_mate: function 150 -/
def entrepotref08_mate.j0 : Nat → Int → Int → Bool → ByteArray → Int → Int → Int → Int → Int → List (S128) → List Int → Option (Bool)
 | 0, _, _, _, _, _, _, _, _, _, _, _ => none
 | k + 1, x1, x5, x18, x123000, x123001, x123002, x123003, x123004, x123005, x123006, x123007 => if x18 = true then (some (x5 == 0)) else (if x5 < 1 then (some false) else (if x5 ≥ (x123006.length : Int) then (some false) else (if x5 = x1 then (some false) else (if 0 ≤ x5 then (if x5 < (x123006.length : Int) then (if ((rd_T128 x123006 x5).f6) = x1 then (if 0 ≤ x1 then (if x1 < (x123006.length : Int) then (if ((rd_T128 x123006 x1).f2) = 0 then (some false) else (some (((rd_T128 x123006 x5).f2) == (wrap64 (-((rd_T128 x123006 x1).f2)))))) else (none)) else (none)) else (some false)) else (none)) else (none)))))
def entrepotref08_mate.f (k : Nat) (a0_0 : ByteArray) (a0_1 : Int) (a0_2 : Int) (a0_3 : Int) (a0_4 : Int) (a0_5 : Int) (l0_6 : List (S128)) (l0_7 : List Int) (a1 : Int) : Option (Bool) := if 0 ≤ a1 then (if a1 < (l0_6.length : Int) then (if a0_1 = 4 then (entrepotref08_mate.j0 k a1 ((rd_T128 l0_6 a1).f6) (a1 == 0) a0_0 a0_1 a0_2 a0_3 a0_4 a0_5 l0_6 l0_7) else (entrepotref08_mate.j0 k a1 ((rd_T128 l0_6 a1).f6) true a0_0 a0_1 a0_2 a0_3 a0_4 a0_5 l0_6 l0_7)) else (none)) else (none)
set_option maxHeartbeats 8000000 in
set_option maxRecDepth 100000 in
theorem entrepotref08_mate.calls (k : Nat) (a0_0 : ByteArray) (a0_1 : Int) (a0_2 : Int) (a0_3 : Int) (a0_4 : Int) (a0_5 : Int) (A0_6 : Option Addr) (c0_6 : Nat) (l0_6 : List (S128)) (A0_7 : Option Addr) (c0_7 : Nat) (l0_7 : List Int) (a1 : Int) (r : Bool) (w : World) (hr0_6 : Kd.C k128 w A0_6 l0_6.length l0_6) (hc0_6 : l0_6.length ≤ c0_6) (hr0_7 : Kd.C (Kd.int .i64) w A0_7 l0_7.length l0_7) (hc0_7 : l0_7.length ≤ c0_7) (h : entrepotref08_mate.f k a0_0 a0_1 a0_2 a0_3 a0_4 a0_5 l0_6 l0_7 a1 = some r) :
    Calls Tryz.prog 150 #[.agg #[.string a0_0, .int .i64 a0_1, .int .i64 a0_2, .int .i64 a0_3, .int .i64 a0_4, .int .i64 a0_5, .slice A0_6 l0_6.length c0_6, .slice A0_7 l0_7.length c0_7], .int .i64 a1] w fun e w' => e = .returned (.bool r) ∧ Below w.heap.size w w' := by
  have hu51 := Tryz.underlying51
  have HR0_6 := Aside0.mk hr0_6
  have HC0_6 := Aside0.mk hc0_6
  clear hr0_6 hc0_6
  have HR0_7 := Aside0.mk hr0_7
  have HC0_7 := Aside0.mk hc0_7
  clear hr0_7 hc0_7
  have HB := Aside0.mk (Below.refl w.heap.size w)
  have H : (if 0 ≤ a1 then (if a1 < (l0_6.length : Int) then (if a0_1 = 4 then (entrepotref08_mate.j0 k a1 ((rd_T128 l0_6 a1).f6) (a1 == 0) a0_0 a0_1 a0_2 a0_3 a0_4 a0_5 l0_6 l0_7) else (entrepotref08_mate.j0 k a1 ((rd_T128 l0_6 a1).f6) true a0_0 a0_1 a0_2 a0_3 a0_4 a0_5 l0_6 l0_7)) else (none)) else (none)) = some r := h
  clear h
  by_cases c3 : 0 ≤ a1
  · rw [if_pos c3] at H
    have c3b0 := decide_eq_true c3
    clear c3
    by_cases c4 : a1 < (l0_6.length : Int)
    · rw [if_pos c4] at H
      have c4b0 := decide_eq_true c4
      clear c4
      have HC5 := Aside0.mk H
      clear H
      go_enter Tryz.func150, Tryz.ntmps150
      go_upto_region 2 with (first | ((with_reducible refine gate_dst (N := 2) rfl ?_); (try (refine gate_guard (by rfl) ?_; dsimp only)); refine bx (N := 2) (cs := #[.string a0_0, .int .i64 a0_1, .int .i64 a0_2, .int .i64 a0_3, .int .i64 a0_4, .int .i64 a0_5, .slice A0_6 l0_6.length c0_6, .slice A0_7 l0_7.length c0_7]) (t := 51) ?_; intro gb122 hg w6 hbox hb; have BK122 := am (hbox); have GW122 := am ((zz hg (zb HB))); have GE122 := am ((zz hg (zb HB))); replace HB := am (below_step (zb HB) hb); clear hb hbox hg; obtain ⟨hcz7_0, hcz7_1, hcz7_2, hcz7_3, hcz7_4, hcz7_5, hcz7_6, hcz7_7, hfz7_0, hfz7_1, hfz7_2, hfz7_3, hfz7_4, hfz7_5, hfz7_6, hfz7_7⟩ := cz8 BK122; have p123 : 0 ≤ (a1 : Int) := of_decide_eq_true za; have q123 : a1 < (l0_6.length : Int) := of_decide_eq_true za; obtain ⟨ad123, e123, hx123_0, hx123_1, hx123_2, hx123_3, hx123_4, hx123_5, hx123_6⟩ := at_T128 HR0_6.out a1 p123 q123; cases e123; replace hx123_0 := zx HB hx123_0; replace hx123_1 := zx HB hx123_1; replace hx123_2 := zx HB hx123_2; replace hx123_3 := zx HB hx123_3; replace hx123_4 := zx HB hx123_4; replace hx123_5 := zx HB hx123_5; replace hx123_6 := zx HB hx123_6; replace p123 := eq_true p123; replace q123 := eq_true q123))
      repeat (go_quiet (first | ((with_reducible refine gate_dst (N := 2) rfl ?_); (try (refine gate_guard (by rfl) ?_; dsimp only)); refine bx (N := 2) (cs := #[.string a0_0, .int .i64 a0_1, .int .i64 a0_2, .int .i64 a0_3, .int .i64 a0_4, .int .i64 a0_5, .slice A0_6 l0_6.length c0_6, .slice A0_7 l0_7.length c0_7]) (t := 51) ?_; intro gb122 hg w6 hbox hb; have BK122 := am (hbox); have GW122 := am ((zz hg (zb HB))); have GE122 := am ((zz hg (zb HB))); replace HB := am (below_step (zb HB) hb); clear hb hbox hg; obtain ⟨hcz7_0, hcz7_1, hcz7_2, hcz7_3, hcz7_4, hcz7_5, hcz7_6, hcz7_7, hfz7_0, hfz7_1, hfz7_2, hfz7_3, hfz7_4, hfz7_5, hfz7_6, hfz7_7⟩ := cz8 BK122; have p123 : 0 ≤ (a1 : Int) := of_decide_eq_true za; have q123 : a1 < (l0_6.length : Int) := of_decide_eq_true za; obtain ⟨ad123, e123, hx123_0, hx123_1, hx123_2, hx123_3, hx123_4, hx123_5, hx123_6⟩ := at_T128 HR0_6.out a1 p123 q123; cases e123; replace hx123_0 := zx HB hx123_0; replace hx123_1 := zx HB hx123_1; replace hx123_2 := zx HB hx123_2; replace hx123_3 := zx HB hx123_3; replace hx123_4 := zx HB hx123_4; replace hx123_5 := zx HB hx123_5; replace hx123_6 := zx HB hx123_6; replace p123 := eq_true p123; replace q123 := eq_true q123)); go_upto_region 2 with (first | ((with_reducible refine gate_dst (N := 2) rfl ?_); (try (refine gate_guard (by rfl) ?_; dsimp only)); refine bx (N := 2) (cs := #[.string a0_0, .int .i64 a0_1, .int .i64 a0_2, .int .i64 a0_3, .int .i64 a0_4, .int .i64 a0_5, .slice A0_6 l0_6.length c0_6, .slice A0_7 l0_7.length c0_7]) (t := 51) ?_; intro gb122 hg w6 hbox hb; have BK122 := am (hbox); have GW122 := am ((zz hg (zb HB))); have GE122 := am ((zz hg (zb HB))); replace HB := am (below_step (zb HB) hb); clear hb hbox hg; obtain ⟨hcz7_0, hcz7_1, hcz7_2, hcz7_3, hcz7_4, hcz7_5, hcz7_6, hcz7_7, hfz7_0, hfz7_1, hfz7_2, hfz7_3, hfz7_4, hfz7_5, hfz7_6, hfz7_7⟩ := cz8 BK122; have p123 : 0 ≤ (a1 : Int) := of_decide_eq_true za; have q123 : a1 < (l0_6.length : Int) := of_decide_eq_true za; obtain ⟨ad123, e123, hx123_0, hx123_1, hx123_2, hx123_3, hx123_4, hx123_5, hx123_6⟩ := at_T128 HR0_6.out a1 p123 q123; cases e123; replace hx123_0 := zx HB hx123_0; replace hx123_1 := zx HB hx123_1; replace hx123_2 := zx HB hx123_2; replace hx123_3 := zx HB hx123_3; replace hx123_4 := zx HB hx123_4; replace hx123_5 := zx HB hx123_5; replace hx123_6 := zx HB hx123_6; replace p123 := eq_true p123; replace q123 := eq_true q123)))
      (try simp only [Act.put, List.setIfInBounds_toArray, List.set_cons_zero, List.set_cons_succ])
      go_cut [18] (fun v18 wc => ∃ (kq : Nat) (x18_4 : Bool), v18 = .bool x18_4 ∧ Aside0 (entrepotref08_mate.j0 kq a1 ((rd_T128 l0_6 a1).f6) x18_4 a0_0 a0_1 a0_2 a0_3 a0_4 a0_5 l0_6 l0_7 = some r) ∧ Aside0 (kq ≤ k) ∧ Aside0 (wc.heap[gb122]? = some (.cells #[.string a0_0, .int .i64 a0_1, .int .i64 a0_2, .int .i64 a0_3, .int .i64 a0_4, .int .i64 a0_5, (.slice (some ad123) l0_6.length c0_6), (.slice A0_7 l0_7.length c0_7)] 51 (0, 0))) ∧ Aside0 (Below w.heap.size w wc))
      case first =>
        have H := HC5.out
        clear HC5
        by_cases c8 : a0_1 = 4
        · rw [if_pos c8] at H
          have c8b0 := beq_iff_eq.mpr c8
          have c8b1 := bne_eq_false_iff_eq.mpr c8
          clear c8
          (first | rw [c8b0] | (simp only [i64_w, i32_w]; rw [c8b0]) | skip)
          have H' := Aside0.mk H
          clear H
          obtain ⟨hcz9_0, hcz9_1, hcz9_2, hcz9_3, hcz9_4, hcz9_5, hcz9_6, hcz9_7, hfz9_0, hfz9_1, hfz9_2, hfz9_3, hfz9_4, hfz9_5, hfz9_6, hfz9_7⟩ := cz8 BK122
          go_wp2
          repeat (go_quiet (fail); try go_wp2)
          go_meet
          case rel => exact ⟨_, ((a1 == 0)), zs, H', ⟨zo⟩, ⟨zk BK122⟩, ⟨zb HB⟩⟩
        · rw [if_neg c8] at H
          have c8b0 := beq_eq_false_iff_ne.mpr c8
          have c8b1 := bne_iff_ne.mpr c8
          (first | rw [c8b0] | (simp only [i64_w, i32_w]; rw [c8b0]) | skip)
          have H' := Aside0.mk H
          clear H
          obtain ⟨hcz10_0, hcz10_1, hcz10_2, hcz10_3, hcz10_4, hcz10_5, hcz10_6, hcz10_7, hfz10_0, hfz10_1, hfz10_2, hfz10_3, hfz10_4, hfz10_5, hfz10_6, hfz10_7⟩ := cz8 BK122
          go_wp2
          repeat (go_quiet (fail); try go_wp2)
          go_meet
          case rel => exact ⟨_, (true), zs, H', ⟨zo⟩, ⟨zk BK122⟩, ⟨zb HB⟩⟩
      case rest =>
        clear HC5
        try clear c1
        try clear p1
        try clear q1
        try clear hx1
        try clear p2
        try clear c3
        try clear c3b0
        try clear c4
        try clear c4b0
        try clear c8
        try clear c8b0
        try clear c8b1
        try clear hcz10_0
        try clear hcz10_1
        try clear hcz10_2
        try clear hcz10_3
        try clear hcz10_4
        try clear hcz10_5
        try clear hcz10_6
        try clear hcz10_7
        try clear hcz7_0
        try clear hcz7_1
        try clear hcz7_2
        try clear hcz7_3
        try clear hcz7_4
        try clear hcz7_5
        try clear hcz7_6
        try clear hcz7_7
        try clear hcz9_0
        try clear hcz9_1
        try clear hcz9_2
        try clear hcz9_3
        try clear hcz9_4
        try clear hcz9_5
        try clear hcz9_6
        try clear hcz9_7
        try clear hfz10_0
        try clear hfz10_1
        try clear hfz10_2
        try clear hfz10_3
        try clear hfz10_4
        try clear hfz10_5
        try clear hfz10_6
        try clear hfz10_7
        try clear hfz7_0
        try clear hfz7_1
        try clear hfz7_2
        try clear hfz7_3
        try clear hfz7_4
        try clear hfz7_5
        try clear hfz7_6
        try clear hfz7_7
        try clear hfz9_0
        try clear hfz9_1
        try clear hfz9_2
        try clear hfz9_3
        try clear hfz9_4
        try clear hfz9_5
        try clear hfz9_6
        try clear hfz9_7
        try clear hx123_0
        try clear hx123_1
        try clear hx123_2
        try clear hx123_3
        try clear hx123_4
        try clear hx123_5
        try clear hx123_6
        try clear p123
        try clear q123
        obtain ⟨kq, x18_4, rfl, HA, HJ4, BK122, HB⟩ := hcut
        cases kq with
        | zero => exact absurd HA.out (by simp [entrepotref08_mate.j0])
        | succ kj4 =>
          have H := HA.out
          clear HA
          simp only [entrepotref08_mate.j0] at H
          by_cases c11 : x18_4 = true
          · subst c11
            rw [if_pos rfl] at H
            obtain rfl := Option.some.inj H
            go_wp2
            repeat (go_quiet (fail); try go_wp2)
            go_ret
            exact ⟨ze, zb HB⟩
          · replace c11 := Bool.eq_false_iff.mpr c11
            subst c11
            rw [if_neg (show ¬ (false = true) by decide)] at H
            by_cases c12 : ((rd_T128 l0_6 a1).f6) < 1
            · rw [if_pos c12] at H
              have c12b0 := decide_eq_true c12
              clear c12
              obtain rfl := Option.some.inj H
              go_wp2
              repeat (go_quiet (fail); try go_wp2)
              go_ret
              exact ⟨ze, zb HB⟩
            · rw [if_neg c12] at H
              have c12b0 := decide_eq_false c12
              clear c12
              by_cases c13 : ((rd_T128 l0_6 a1).f6) ≥ (l0_6.length : Int)
              · rw [if_pos c13] at H
                have c13b0 := decide_eq_true c13
                clear c13
                obtain rfl := Option.some.inj H
                obtain ⟨hcz14_0, hcz14_1, hcz14_2, hcz14_3, hcz14_4, hcz14_5, hcz14_6, hcz14_7, hfz14_0, hfz14_1, hfz14_2, hfz14_3, hfz14_4, hfz14_5, hfz14_6, hfz14_7⟩ := cz8 BK122
                go_wp2
                repeat (go_quiet (fail); try go_wp2)
                go_ret
                exact ⟨ze, zb HB⟩
              · rw [if_neg c13] at H
                have c13b0 := decide_eq_false c13
                clear c13
                by_cases c15 : ((rd_T128 l0_6 a1).f6) = a1
                · rw [if_pos c15] at H
                  have c15b0 := beq_iff_eq.mpr c15
                  have c15b1 := bne_eq_false_iff_eq.mpr c15
                  clear c15
                  obtain rfl := Option.some.inj H
                  obtain ⟨hcz16_0, hcz16_1, hcz16_2, hcz16_3, hcz16_4, hcz16_5, hcz16_6, hcz16_7, hfz16_0, hfz16_1, hfz16_2, hfz16_3, hfz16_4, hfz16_5, hfz16_6, hfz16_7⟩ := cz8 BK122
                  go_wp2
                  repeat (go_quiet (fail); try go_wp2)
                  go_ret
                  exact ⟨ze, zb HB⟩
                · rw [if_neg c15] at H
                  have c15b0 := beq_eq_false_iff_ne.mpr c15
                  have c15b1 := bne_iff_ne.mpr c15
                  by_cases c17 : 0 ≤ ((rd_T128 l0_6 a1).f6)
                  · rw [if_pos c17] at H
                    have c17b0 := decide_eq_true c17
                    clear c17
                    by_cases c18 : ((rd_T128 l0_6 a1).f6) < (l0_6.length : Int)
                    · rw [if_pos c18] at H
                      have c18b0 := decide_eq_true c18
                      clear c18
                      by_cases c19 : ((rd_T128 l0_6 ((rd_T128 l0_6 a1).f6)).f6) = a1
                      · rw [if_pos c19] at H
                        have c19b0 := beq_iff_eq.mpr c19
                        have c19b1 := bne_eq_false_iff_eq.mpr c19
                        clear c19
                        by_cases c20 : 0 ≤ a1
                        · rw [if_pos c20] at H
                          have c20b0 := decide_eq_true c20
                          clear c20
                          by_cases c21 : a1 < (l0_6.length : Int)
                          · rw [if_pos c21] at H
                            have c21b0 := decide_eq_true c21
                            clear c21
                            by_cases c22 : ((rd_T128 l0_6 a1).f2) = 0
                            · rw [if_pos c22] at H
                              have c22b0 := beq_iff_eq.mpr c22
                              have c22b1 := bne_eq_false_iff_eq.mpr c22
                              clear c22
                              obtain rfl := Option.some.inj H
                              obtain ⟨hcz23_0, hcz23_1, hcz23_2, hcz23_3, hcz23_4, hcz23_5, hcz23_6, hcz23_7, hfz23_0, hfz23_1, hfz23_2, hfz23_3, hfz23_4, hfz23_5, hfz23_6, hfz23_7⟩ := cz8 BK122
                              have p124 : 0 ≤ (((rd_T128 l0_6 a1).f6) : Int) := of_decide_eq_true za
                              have q124 : ((rd_T128 l0_6 a1).f6) < (l0_6.length : Int) := of_decide_eq_true za
                              obtain ⟨ad124, e124, hx124_0, hx124_1, hx124_2, hx124_3, hx124_4, hx124_5, hx124_6⟩ := at_T128 HR0_6.out ((rd_T128 l0_6 a1).f6) p124 q124
                              obtain rfl : ad123 = ad124 := (by injection e124)
                              replace hx124_0 := zx HB hx124_0
                              replace hx124_1 := zx HB hx124_1
                              replace hx124_2 := zx HB hx124_2
                              replace hx124_3 := zx HB hx124_3
                              replace hx124_4 := zx HB hx124_4
                              replace hx124_5 := zx HB hx124_5
                              replace hx124_6 := zx HB hx124_6
                              replace p124 := eq_true p124
                              replace q124 := eq_true q124
                              have p125 : 0 ≤ (a1 : Int) := of_decide_eq_true za
                              have q125 : a1 < (l0_6.length : Int) := of_decide_eq_true za
                              obtain ⟨ad125, e125, hx125_0, hx125_1, hx125_2, hx125_3, hx125_4, hx125_5, hx125_6⟩ := at_T128 HR0_6.out a1 p125 q125
                              obtain rfl : ad123 = ad125 := (by injection e125)
                              replace hx125_0 := zx HB hx125_0
                              replace hx125_1 := zx HB hx125_1
                              replace hx125_2 := zx HB hx125_2
                              replace hx125_3 := zx HB hx125_3
                              replace hx125_4 := zx HB hx125_4
                              replace hx125_5 := zx HB hx125_5
                              replace hx125_6 := zx HB hx125_6
                              replace p125 := eq_true p125
                              replace q125 := eq_true q125
                              go_wp2
                              repeat (go_quiet (fail); try go_wp2)
                              go_ret
                              exact ⟨ze, zb HB⟩
                            · rw [if_neg c22] at H
                              have c22b0 := beq_eq_false_iff_ne.mpr c22
                              have c22b1 := bne_iff_ne.mpr c22
                              obtain rfl := Option.some.inj H
                              obtain ⟨hcz24_0, hcz24_1, hcz24_2, hcz24_3, hcz24_4, hcz24_5, hcz24_6, hcz24_7, hfz24_0, hfz24_1, hfz24_2, hfz24_3, hfz24_4, hfz24_5, hfz24_6, hfz24_7⟩ := cz8 BK122
                              have p124 : 0 ≤ (((rd_T128 l0_6 a1).f6) : Int) := of_decide_eq_true za
                              have q124 : ((rd_T128 l0_6 a1).f6) < (l0_6.length : Int) := of_decide_eq_true za
                              obtain ⟨ad124, e124, hx124_0, hx124_1, hx124_2, hx124_3, hx124_4, hx124_5, hx124_6⟩ := at_T128 HR0_6.out ((rd_T128 l0_6 a1).f6) p124 q124
                              obtain rfl : ad123 = ad124 := (by injection e124)
                              replace hx124_0 := zx HB hx124_0
                              replace hx124_1 := zx HB hx124_1
                              replace hx124_2 := zx HB hx124_2
                              replace hx124_3 := zx HB hx124_3
                              replace hx124_4 := zx HB hx124_4
                              replace hx124_5 := zx HB hx124_5
                              replace hx124_6 := zx HB hx124_6
                              replace p124 := eq_true p124
                              replace q124 := eq_true q124
                              have p125 : 0 ≤ (a1 : Int) := of_decide_eq_true za
                              have q125 : a1 < (l0_6.length : Int) := of_decide_eq_true za
                              obtain ⟨ad125, e125, hx125_0, hx125_1, hx125_2, hx125_3, hx125_4, hx125_5, hx125_6⟩ := at_T128 HR0_6.out a1 p125 q125
                              obtain rfl : ad123 = ad125 := (by injection e125)
                              replace hx125_0 := zx HB hx125_0
                              replace hx125_1 := zx HB hx125_1
                              replace hx125_2 := zx HB hx125_2
                              replace hx125_3 := zx HB hx125_3
                              replace hx125_4 := zx HB hx125_4
                              replace hx125_5 := zx HB hx125_5
                              replace hx125_6 := zx HB hx125_6
                              replace p125 := eq_true p125
                              replace q125 := eq_true q125
                              have p126 : 0 ≤ (((rd_T128 l0_6 a1).f6) : Int) := of_decide_eq_true za
                              have q126 : ((rd_T128 l0_6 a1).f6) < (l0_6.length : Int) := of_decide_eq_true za
                              obtain ⟨ad126, e126, hx126_0, hx126_1, hx126_2, hx126_3, hx126_4, hx126_5, hx126_6⟩ := at_T128 HR0_6.out ((rd_T128 l0_6 a1).f6) p126 q126
                              obtain rfl : ad123 = ad126 := (by injection e126)
                              replace hx126_0 := zx HB hx126_0
                              replace hx126_1 := zx HB hx126_1
                              replace hx126_2 := zx HB hx126_2
                              replace hx126_3 := zx HB hx126_3
                              replace hx126_4 := zx HB hx126_4
                              replace hx126_5 := zx HB hx126_5
                              replace hx126_6 := zx HB hx126_6
                              replace p126 := eq_true p126
                              replace q126 := eq_true q126
                              have p127 : 0 ≤ (a1 : Int) := of_decide_eq_true za
                              have q127 : a1 < (l0_6.length : Int) := of_decide_eq_true za
                              obtain ⟨ad127, e127, hx127_0, hx127_1, hx127_2, hx127_3, hx127_4, hx127_5, hx127_6⟩ := at_T128 HR0_6.out a1 p127 q127
                              obtain rfl : ad123 = ad127 := (by injection e127)
                              replace hx127_0 := zx HB hx127_0
                              replace hx127_1 := zx HB hx127_1
                              replace hx127_2 := zx HB hx127_2
                              replace hx127_3 := zx HB hx127_3
                              replace hx127_4 := zx HB hx127_4
                              replace hx127_5 := zx HB hx127_5
                              replace hx127_6 := zx HB hx127_6
                              replace p127 := eq_true p127
                              replace q127 := eq_true q127
                              go_wp2
                              repeat (go_quiet (fail); try go_wp2)
                              go_ret
                              exact ⟨ze, zb HB⟩
                          · rw [if_neg c21] at H
                            exact absurd H (by simp)
                        · rw [if_neg c20] at H
                          exact absurd H (by simp)
                      · rw [if_neg c19] at H
                        have c19b0 := beq_eq_false_iff_ne.mpr c19
                        have c19b1 := bne_iff_ne.mpr c19
                        obtain rfl := Option.some.inj H
                        obtain ⟨hcz25_0, hcz25_1, hcz25_2, hcz25_3, hcz25_4, hcz25_5, hcz25_6, hcz25_7, hfz25_0, hfz25_1, hfz25_2, hfz25_3, hfz25_4, hfz25_5, hfz25_6, hfz25_7⟩ := cz8 BK122
                        have p124 : 0 ≤ (((rd_T128 l0_6 a1).f6) : Int) := of_decide_eq_true za
                        have q124 : ((rd_T128 l0_6 a1).f6) < (l0_6.length : Int) := of_decide_eq_true za
                        obtain ⟨ad124, e124, hx124_0, hx124_1, hx124_2, hx124_3, hx124_4, hx124_5, hx124_6⟩ := at_T128 HR0_6.out ((rd_T128 l0_6 a1).f6) p124 q124
                        obtain rfl : ad123 = ad124 := (by injection e124)
                        replace hx124_0 := zx HB hx124_0
                        replace hx124_1 := zx HB hx124_1
                        replace hx124_2 := zx HB hx124_2
                        replace hx124_3 := zx HB hx124_3
                        replace hx124_4 := zx HB hx124_4
                        replace hx124_5 := zx HB hx124_5
                        replace hx124_6 := zx HB hx124_6
                        replace p124 := eq_true p124
                        replace q124 := eq_true q124
                        go_wp2
                        repeat (go_quiet (fail); try go_wp2)
                        go_ret
                        exact ⟨ze, zb HB⟩
                    · rw [if_neg c18] at H
                      exact absurd H (by simp)
                  · rw [if_neg c17] at H
                    exact absurd H (by simp)
    · rw [if_neg c4] at H
      exact absurd H (by simp)
  · rw [if_neg c3] at H
    exact absurd H (by simp)
end Go.Proofs.YtofklpphalalhaaGreatDoor.PAll
