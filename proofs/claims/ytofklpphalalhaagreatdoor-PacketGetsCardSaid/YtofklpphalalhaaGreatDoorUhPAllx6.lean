/- A text of this claim, cut to what the claim uses. Conditions: each theorem's own. -/
import Derived.Test.YtofklpphalalhaaGreatDoorUhJ1
import Derived.Test.YtofklpphalalhaaGreatDoorUhPAllx4
import Derived.Test.YtofklpphalalhaaGreatDoorUhJ4
-- Written by a program out of the translation, for several roots at once (set All). Not trusted: Lean checks it.
namespace Go.Proofs.YtofklpphalalhaaGreatDoor.PAll
open Go.RowKit Go.Proofs.YtofklpphalalhaaGreatDoorW.PrintWords Go.Proofs.YtofklpphalalhaaGreatDoorW.PrintLast Go.Proofs.YtofklpphalalhaaGreatDoorW.PrintMore
attribute [local go_sem] min2_int min_two
set_option linter.unusedVariables false
set_option linter.unusedSimpArgs false
/-! ### entrepotref08_window: function 148 -/
def entrepotref08_window.j0 : Nat → Bool → Int → Int → Int → Int → Int → Int → Int → Option (Bool)
 | 0, _, _, _, _, _, _, _, _ => none
 | k + 1, x18, x117000, x117001, x117002, x117003, x117004, x117005, x117006 => if x18 = true then (if x117003 = 0 then (some (x117004 == 0)) else (some false)) else ((entrepotref08_number.f x117003).bind fun t117 => (if t117 = true then ((entrepotref08_number.f x117004).bind fun t118 => (if t118 = true then (some (decide (x117003 ≤ x117004))) else (some false))) else (some false)))
def entrepotref08_window.f (k : Nat) (a0_0 : ByteArray) (a0_1 : Int) (a0_2 : Int) (a0_3 : Int) (a0_4 : Int) (a0_5 : Int) (l0_6 : List (S128)) (l0_7 : List Int) (a1 : Int) : Option (Bool) := if 0 ≤ a1 then (if a1 < (l0_6.length : Int) then (if a0_1 = 1 then (entrepotref08_window.j0 k true ((rd_T128 l0_6 a1).f0) ((rd_T128 l0_6 a1).f1) ((rd_T128 l0_6 a1).f2) ((rd_T128 l0_6 a1).f3) ((rd_T128 l0_6 a1).f4) ((rd_T128 l0_6 a1).f5) ((rd_T128 l0_6 a1).f6)) else (entrepotref08_window.j0 k (a0_1 == 2) ((rd_T128 l0_6 a1).f0) ((rd_T128 l0_6 a1).f1) ((rd_T128 l0_6 a1).f2) ((rd_T128 l0_6 a1).f3) ((rd_T128 l0_6 a1).f4) ((rd_T128 l0_6 a1).f5) ((rd_T128 l0_6 a1).f6))) else (none)) else (none)
set_option maxHeartbeats 8000000 in
set_option maxRecDepth 100000 in
theorem entrepotref08_window.calls (k : Nat) (a0_0 : ByteArray) (a0_1 : Int) (a0_2 : Int) (a0_3 : Int) (a0_4 : Int) (a0_5 : Int) (A0_6 : Option Addr) (c0_6 : Nat) (l0_6 : List (S128)) (A0_7 : Option Addr) (c0_7 : Nat) (l0_7 : List Int) (a1 : Int) (r : Bool) (w : World) (hr0_6 : Kd.C k128 w A0_6 l0_6.length l0_6) (hc0_6 : l0_6.length ≤ c0_6) (hr0_7 : Kd.C (Kd.int .i64) w A0_7 l0_7.length l0_7) (hc0_7 : l0_7.length ≤ c0_7) (h : entrepotref08_window.f k a0_0 a0_1 a0_2 a0_3 a0_4 a0_5 l0_6 l0_7 a1 = some r) :
    Calls Tryz.prog 148 #[.agg #[.string a0_0, .int .i64 a0_1, .int .i64 a0_2, .int .i64 a0_3, .int .i64 a0_4, .int .i64 a0_5, .slice A0_6 l0_6.length c0_6, .slice A0_7 l0_7.length c0_7], .int .i64 a1] w fun e w' => e = .returned (.bool r) ∧ Below w.heap.size w w' := by
  have hu51 := Tryz.underlying51
  have hu128 := Tryz.underlying128
  have HR0_6 := Aside0.mk hr0_6
  have HC0_6 := Aside0.mk hc0_6
  clear hr0_6 hc0_6
  have HR0_7 := Aside0.mk hr0_7
  have HC0_7 := Aside0.mk hc0_7
  clear hr0_7 hc0_7
  have HB := Aside0.mk (Below.refl w.heap.size w)
  have H : (if 0 ≤ a1 then (if a1 < (l0_6.length : Int) then (if a0_1 = 1 then (entrepotref08_window.j0 k true ((rd_T128 l0_6 a1).f0) ((rd_T128 l0_6 a1).f1) ((rd_T128 l0_6 a1).f2) ((rd_T128 l0_6 a1).f3) ((rd_T128 l0_6 a1).f4) ((rd_T128 l0_6 a1).f5) ((rd_T128 l0_6 a1).f6)) else (entrepotref08_window.j0 k (a0_1 == 2) ((rd_T128 l0_6 a1).f0) ((rd_T128 l0_6 a1).f1) ((rd_T128 l0_6 a1).f2) ((rd_T128 l0_6 a1).f3) ((rd_T128 l0_6 a1).f4) ((rd_T128 l0_6 a1).f5) ((rd_T128 l0_6 a1).f6))) else (none)) else (none)) = some r := h
  clear h
  by_cases c3 : 0 ≤ a1
  · rw [if_pos c3] at H
    have c3b0 := decide_eq_true c3
    clear c3
    by_cases c4 : a1 < (l0_6.length : Int)
    · rw [if_pos c4] at H
      have c4b0 := decide_eq_true c4
      clear c4
      have HC5 := Aside0.mk H
      clear H
      go_enter Tryz.func148, Tryz.ntmps148
      go_upto_region 2 with (first | ((with_reducible refine gate_dst (N := 2) rfl ?_); refine bx (N := 2) (cs := #[.string a0_0, .int .i64 a0_1, .int .i64 a0_2, .int .i64 a0_3, .int .i64 a0_4, .int .i64 a0_5, .slice A0_6 l0_6.length c0_6, .slice A0_7 l0_7.length c0_7]) (t := 51) ?_; intro gb114 hg w6 hbox hb; have BK114 := am (hbox); have GW114 := am ((zz hg (zb HB))); have GE114 := am ((zz hg (zb HB))); replace HB := am (below_step (zb HB) hb); clear hb hbox hg; obtain ⟨hcz7_0, hcz7_1, hcz7_2, hcz7_3, hcz7_4, hcz7_5, hcz7_6, hcz7_7, hfz7_0, hfz7_1, hfz7_2, hfz7_3, hfz7_4, hfz7_5, hfz7_6, hfz7_7⟩ := cz8 BK114; have p115 : 0 ≤ (a1 : Int) := of_decide_eq_true za; have q115 : a1 < (l0_6.length : Int) := of_decide_eq_true za; obtain ⟨ad115, e115, hx115_0, hx115_1, hx115_2, hx115_3, hx115_4, hx115_5, hx115_6⟩ := at_T128 HR0_6.out a1 p115 q115; cases e115; replace hx115_0 := zx HB hx115_0; replace hx115_1 := zx HB hx115_1; replace hx115_2 := zx HB hx115_2; replace hx115_3 := zx HB hx115_3; replace hx115_4 := zx HB hx115_4; replace hx115_5 := zx HB hx115_5; replace hx115_6 := zx HB hx115_6; replace p115 := eq_true p115; replace q115 := eq_true q115) | ((with_reducible refine gate_dst (N := 5) rfl ?_); refine bx (N := 5) (cs := #[.int .i64 0, .int .i64 0, .int .i64 0, .int .i64 0, .int .i64 0, .int .i64 0, .int .i64 0]) (t := 128) ?_; intro gb116 hg w8 hbox hb; have BK116 := am (hbox); have GW116 := am ((zz hg (zb HB))); have GE116 := am ((zz hg (zb HB))); replace HB := am (below_step (zb HB) hb); have NB114_116 := am ((zl hg (zk BK114))); have NB116_114 := am ((zg hg (zk BK114))); replace BK114 := am (blk_below (zk BK114) hb); clear hb hbox hg; have hnb9 := NB116_114.out; have hnc9 := NB114_116.out; obtain ⟨hcz10_0, hcz10_1, hcz10_2, hcz10_3, hcz10_4, hcz10_5, hcz10_6, hfz10_0, hfz10_1, hfz10_2, hfz10_3, hfz10_4, hfz10_5, hfz10_6⟩ := cz7 BK116))
      (try simp only [Act.put, List.setIfInBounds_toArray, List.set_cons_zero, List.set_cons_succ])
      go_cut [18] (fun v18 wc => ∃ (kq : Nat) (x18_4 : Bool), v18 = .bool x18_4 ∧ Aside0 (entrepotref08_window.j0 kq x18_4 ((rd_T128 l0_6 a1).f0) ((rd_T128 l0_6 a1).f1) ((rd_T128 l0_6 a1).f2) ((rd_T128 l0_6 a1).f3) ((rd_T128 l0_6 a1).f4) ((rd_T128 l0_6 a1).f5) ((rd_T128 l0_6 a1).f6) = some r) ∧ Aside0 (kq ≤ k) ∧ Aside0 (wc.heap[gb114]? = some (.cells #[.string a0_0, .int .i64 a0_1, .int .i64 a0_2, .int .i64 a0_3, .int .i64 a0_4, .int .i64 a0_5, (.slice (some ad115) l0_6.length c0_6), (.slice A0_7 l0_7.length c0_7)] 51 (0, 0))) ∧ Aside0 (wc.heap[gb116]? = some (.cells #[.int .i64 ((rd_T128 l0_6 a1).f0), .int .i64 ((rd_T128 l0_6 a1).f1), .int .i64 ((rd_T128 l0_6 a1).f2), .int .i64 ((rd_T128 l0_6 a1).f3), .int .i64 ((rd_T128 l0_6 a1).f4), .int .i64 ((rd_T128 l0_6 a1).f5), .int .i64 ((rd_T128 l0_6 a1).f6)] 128 (0, 0))) ∧ Aside0 (Below w.heap.size w wc))
      case first =>
        have H := HC5.out
        clear HC5
        by_cases c11 : a0_1 = 1
        · rw [if_pos c11] at H
          have c11b0 := beq_iff_eq.mpr c11
          have c11b1 := bne_eq_false_iff_eq.mpr c11
          clear c11
          (first | rw [c11b0] | (simp only [i64_w, i32_w]; rw [c11b0]) | skip)
          have H' := Aside0.mk H
          clear H
          have hnb12 := NB114_116.out
          have hnc12 := NB116_114.out
          obtain ⟨hcz13_0, hcz13_1, hcz13_2, hcz13_3, hcz13_4, hcz13_5, hcz13_6, hcz13_7, hfz13_0, hfz13_1, hfz13_2, hfz13_3, hfz13_4, hfz13_5, hfz13_6, hfz13_7⟩ := cz8 BK114
          go_wp2
          go_meet
          case rel => exact ⟨_, (true), zs, H', ⟨zo⟩, ⟨zp BK114⟩, ⟨zp BK116⟩, ⟨zb HB⟩⟩
        · rw [if_neg c11] at H
          have c11b0 := beq_eq_false_iff_ne.mpr c11
          have c11b1 := bne_iff_ne.mpr c11
          (first | rw [c11b0] | (simp only [i64_w, i32_w]; rw [c11b0]) | skip)
          have H' := Aside0.mk H
          clear H
          have hnb14 := NB114_116.out
          have hnc14 := NB116_114.out
          obtain ⟨hcz15_0, hcz15_1, hcz15_2, hcz15_3, hcz15_4, hcz15_5, hcz15_6, hcz15_7, hfz15_0, hfz15_1, hfz15_2, hfz15_3, hfz15_4, hfz15_5, hfz15_6, hfz15_7⟩ := cz8 BK114
          go_wp2
          go_meet
          case rel => exact ⟨_, ((a0_1 == 2)), zs, H', ⟨zo⟩, ⟨zp BK114⟩, ⟨zp BK116⟩, ⟨zb HB⟩⟩
      case rest =>
        clear HC5
        try clear c1
        try clear p1
        try clear q1
        try clear hx1
        try clear p2
        try clear c3
        try clear c3b0
        try clear c4
        try clear c4b0
        try clear c9
        try clear c11
        try clear c11b0
        try clear c11b1
        try clear p11
        try clear q11
        try clear hx11
        try clear c12
        try clear c14
        try clear hcz10_0
        try clear hcz10_1
        try clear hcz10_2
        try clear hcz10_3
        try clear hcz10_4
        try clear hcz10_5
        try clear hcz10_6
        try clear hcz13_0
        try clear hcz13_1
        try clear hcz13_2
        try clear hcz13_3
        try clear hcz13_4
        try clear hcz13_5
        try clear hcz13_6
        try clear hcz13_7
        try clear hcz15_0
        try clear hcz15_1
        try clear hcz15_2
        try clear hcz15_3
        try clear hcz15_4
        try clear hcz15_5
        try clear hcz15_6
        try clear hcz15_7
        try clear hcz7_0
        try clear hcz7_1
        try clear hcz7_2
        try clear hcz7_3
        try clear hcz7_4
        try clear hcz7_5
        try clear hcz7_6
        try clear hcz7_7
        try clear hfz10_0
        try clear hfz10_1
        try clear hfz10_2
        try clear hfz10_3
        try clear hfz10_4
        try clear hfz10_5
        try clear hfz10_6
        try clear hfz13_0
        try clear hfz13_1
        try clear hfz13_2
        try clear hfz13_3
        try clear hfz13_4
        try clear hfz13_5
        try clear hfz13_6
        try clear hfz13_7
        try clear hfz15_0
        try clear hfz15_1
        try clear hfz15_2
        try clear hfz15_3
        try clear hfz15_4
        try clear hfz15_5
        try clear hfz15_6
        try clear hfz15_7
        try clear hfz7_0
        try clear hfz7_1
        try clear hfz7_2
        try clear hfz7_3
        try clear hfz7_4
        try clear hfz7_5
        try clear hfz7_6
        try clear hfz7_7
        try clear hx115_0
        try clear hx115_1
        try clear hx115_2
        try clear hx115_3
        try clear hx115_4
        try clear hx115_5
        try clear hx115_6
        try clear p115
        try clear q115
        obtain ⟨kq, x18_4, rfl, HA, HJ4, BK114, BK116, HB⟩ := hcut
        cases kq with
        | zero => exact absurd HA.out (by simp [entrepotref08_window.j0])
        | succ kj4 =>
          have H := HA.out
          clear HA
          simp only [entrepotref08_window.j0] at H
          by_cases c16 : x18_4 = true
          · subst c16
            rw [if_pos rfl] at H
            by_cases c17 : ((rd_T128 l0_6 a1).f3) = 0
            · rw [if_pos c17] at H
              have c17b0 := beq_iff_eq.mpr c17
              have c17b1 := bne_eq_false_iff_eq.mpr c17
              clear c17
              obtain rfl := Option.some.inj H
              have hnb18 := NB116_114.out
              have hnc18 := NB114_116.out
              obtain ⟨hcz19_0, hcz19_1, hcz19_2, hcz19_3, hcz19_4, hcz19_5, hcz19_6, hfz19_0, hfz19_1, hfz19_2, hfz19_3, hfz19_4, hfz19_5, hfz19_6⟩ := cz7 BK116
              go_wp2
              go_ret
              exact ⟨ze, zb HB⟩
            · rw [if_neg c17] at H
              have c17b0 := beq_eq_false_iff_ne.mpr c17
              have c17b1 := bne_iff_ne.mpr c17
              obtain rfl := Option.some.inj H
              have hnb20 := NB116_114.out
              have hnc20 := NB114_116.out
              obtain ⟨hcz21_0, hcz21_1, hcz21_2, hcz21_3, hcz21_4, hcz21_5, hcz21_6, hfz21_0, hfz21_1, hfz21_2, hfz21_3, hfz21_4, hfz21_5, hfz21_6⟩ := cz7 BK116
              go_wp2
              go_ret
              exact ⟨ze, zb HB⟩
          · replace c16 := Bool.eq_false_iff.mpr c16
            subst c16
            rw [if_neg (show ¬ (false = true) by decide)] at H
            replace H := Option.bind_eq_some_iff.mp H
            obtain ⟨t117, A220, H⟩ := H
            have A22 := Aside0.mk A220
            clear A220
            by_cases c23 : t117 = true
            · subst c23
              rw [if_pos rfl] at H
              replace H := Option.bind_eq_some_iff.mp H
              obtain ⟨t118, A240, H⟩ := H
              have A24 := Aside0.mk A240
              clear A240
              by_cases c25 : t118 = true
              · subst c25
                rw [if_pos rfl] at H
                obtain rfl := Option.some.inj H
                have hnb26 := NB116_114.out
                have hnc26 := NB114_116.out
                obtain ⟨hcz27_0, hcz27_1, hcz27_2, hcz27_3, hcz27_4, hcz27_5, hcz27_6, hfz27_0, hfz27_1, hfz27_2, hfz27_3, hfz27_4, hfz27_5, hfz27_6⟩ := cz7 BK116
                go_wp2_with (first | ((with_reducible refine gate_callee (f := 186) rfl ?_); refine gl (some 29) Tryz.func186 #[.int .i64 ((rd_T128 l0_6 a1).f3)] rfl ?_; (with_reducible refine (entrepotref08_number.calls ((rd_T128 l0_6 a1).f3) true _ A22.out).mono ?_); rintro e w' ⟨rfl, ⟨nd, rfl⟩⟩; refine ⟨_, rfl, ?_⟩) | (go_at_call 186; (with_reducible refine (entrepotref08_number.calls ((rd_T128 l0_6 a1).f4) true _ A24.out).mono ?_); rintro e w' ⟨rfl, ⟨nd, rfl⟩⟩))
                go_ret
                exact ⟨ze, zb HB⟩
              · replace c25 := Bool.eq_false_iff.mpr c25
                subst c25
                rw [if_neg (show ¬ (false = true) by decide)] at H
                obtain rfl := Option.some.inj H
                have hnb28 := NB116_114.out
                have hnc28 := NB114_116.out
                obtain ⟨hcz29_0, hcz29_1, hcz29_2, hcz29_3, hcz29_4, hcz29_5, hcz29_6, hfz29_0, hfz29_1, hfz29_2, hfz29_3, hfz29_4, hfz29_5, hfz29_6⟩ := cz7 BK116
                go_wp2_with (first | ((with_reducible refine gate_callee (f := 186) rfl ?_); refine gl (some 29) Tryz.func186 #[.int .i64 ((rd_T128 l0_6 a1).f3)] rfl ?_; (with_reducible refine (entrepotref08_number.calls ((rd_T128 l0_6 a1).f3) true _ A22.out).mono ?_); rintro e w' ⟨rfl, ⟨nd, rfl⟩⟩; refine ⟨_, rfl, ?_⟩) | (go_at_call 186; (with_reducible refine (entrepotref08_number.calls ((rd_T128 l0_6 a1).f4) false _ A24.out).mono ?_); rintro e w' ⟨rfl, ⟨nd, rfl⟩⟩))
                go_ret
                exact ⟨ze, zb HB⟩
            · replace c23 := Bool.eq_false_iff.mpr c23
              subst c23
              rw [if_neg (show ¬ (false = true) by decide)] at H
              obtain rfl := Option.some.inj H
              have hnb30 := NB116_114.out
              have hnc30 := NB114_116.out
              obtain ⟨hcz31_0, hcz31_1, hcz31_2, hcz31_3, hcz31_4, hcz31_5, hcz31_6, hfz31_0, hfz31_1, hfz31_2, hfz31_3, hfz31_4, hfz31_5, hfz31_6⟩ := cz7 BK116
              go_wp2_with (first | ((with_reducible refine gate_callee (f := 186) rfl ?_); refine gl (some 29) Tryz.func186 #[.int .i64 ((rd_T128 l0_6 a1).f3)] rfl ?_; (with_reducible refine (entrepotref08_number.calls ((rd_T128 l0_6 a1).f3) false _ A22.out).mono ?_); rintro e w' ⟨rfl, ⟨nd, rfl⟩⟩; refine ⟨_, rfl, ?_⟩))
              go_ret
              exact ⟨ze, zb HB⟩
    · rw [if_neg c4] at H
      exact absurd H (by simp)
  · rw [if_neg c3] at H
    exact absurd H (by simp)
/-! ### entrepotref08_service: function 149 -/
def entrepotref08_service.f (a0_0 : ByteArray) (a0_1 : Int) (a0_2 : Int) (a0_3 : Int) (a0_4 : Int) (a0_5 : Int) (l0_6 : List (S128)) (l0_7 : List Int) (a1 : Int) : Option (Bool) := if 0 ≤ a1 then (if a1 < (l0_6.length : Int) then (if a0_1 = 1 then (some (((rd_T128 l0_6 a1).f5) == 0)) else (if a0_1 = 2 then (some (((rd_T128 l0_6 a1).f5) == 0)) else ((entrepotref08_number.f ((rd_T128 l0_6 a1).f5)).bind fun t121 => (some t121)))) else (none)) else (none)
set_option maxHeartbeats 8000000 in
set_option maxRecDepth 100000 in
theorem entrepotref08_service.calls (a0_0 : ByteArray) (a0_1 : Int) (a0_2 : Int) (a0_3 : Int) (a0_4 : Int) (a0_5 : Int) (A0_6 : Option Addr) (c0_6 : Nat) (l0_6 : List (S128)) (A0_7 : Option Addr) (c0_7 : Nat) (l0_7 : List Int) (a1 : Int) (r : Bool) (w : World) (hr0_6 : Kd.C k128 w A0_6 l0_6.length l0_6) (hc0_6 : l0_6.length ≤ c0_6) (hr0_7 : Kd.C (Kd.int .i64) w A0_7 l0_7.length l0_7) (hc0_7 : l0_7.length ≤ c0_7) (h : entrepotref08_service.f a0_0 a0_1 a0_2 a0_3 a0_4 a0_5 l0_6 l0_7 a1 = some r) :
  Calls Tryz.prog 149 #[.agg #[.string a0_0, .int .i64 a0_1, .int .i64 a0_2, .int .i64 a0_3, .int .i64 a0_4, .int .i64 a0_5, .slice A0_6 l0_6.length c0_6, .slice A0_7 l0_7.length c0_7], .int .i64 a1] w fun e w' => e = .returned (.bool r) ∧ Below w.heap.size w w' := by
 have hu51 := Tryz.underlying51
 have HR0_6 := Aside0.mk hr0_6
 have HC0_6 := Aside0.mk hc0_6
 clear hr0_6 hc0_6
 have HR0_7 := Aside0.mk hr0_7
 have HC0_7 := Aside0.mk hc0_7
 clear hr0_7 hc0_7
 have HB := Aside0.mk (Below.refl w.heap.size w)
 have H : (if 0 ≤ a1 then (if a1 < (l0_6.length : Int) then (if a0_1 = 1 then (some (((rd_T128 l0_6 a1).f5) == 0)) else (if a0_1 = 2 then (some (((rd_T128 l0_6 a1).f5) == 0)) else ((entrepotref08_number.f ((rd_T128 l0_6 a1).f5)).bind fun t121 => (some t121)))) else (none)) else (none)) = some r := h
 clear h
 by_cases c3 : 0 ≤ a1
 ·rw [if_pos c3] at H
  have c3b0 := decide_eq_true c3
  clear c3
  by_cases c4 : a1 < (l0_6.length : Int)
  ·rw [if_pos c4] at H
   have c4b0 := decide_eq_true c4
   clear c4
   by_cases c5 : a0_1 = 1
   ·rw [if_pos c5] at H
    have c5b0 := beq_iff_eq.mpr c5
    have c5b1 := bne_eq_false_iff_eq.mpr c5
    clear c5
    obtain rfl := Option.some.inj H
    go_enter Tryz.func149, Tryz.ntmps149
    go_wp2_with (first | ((with_reducible refine gate_dst (N := 2) rfl ?_); refine bx (N := 2) (cs := #[.string a0_0, .int .i64 a0_1, .int .i64 a0_2, .int .i64 a0_3, .int .i64 a0_4, .int .i64 a0_5, .slice A0_6 l0_6.length c0_6, .slice A0_7 l0_7.length c0_7]) (t := 51) ?_; intro gb119 hg w6 hbox hb; have BK119 := am (hbox); have GW119 := am ((zz hg (zb HB))); have GE119 := am ((zz hg (zb HB))); replace HB := am (below_step (zb HB) hb); clear hb hbox hg; obtain ⟨hcz7_0, hcz7_1, hcz7_2, hcz7_3, hcz7_4, hcz7_5, hcz7_6, hcz7_7, hfz7_0, hfz7_1, hfz7_2, hfz7_3, hfz7_4, hfz7_5, hfz7_6, hfz7_7⟩ := cz8 BK119; have p120 : 0 ≤ (a1 : Int) := of_decide_eq_true za; have q120 : a1 < (l0_6.length : Int) := of_decide_eq_true za; obtain ⟨ad120, e120, hx120_0, hx120_1, hx120_2, hx120_3, hx120_4, hx120_5, hx120_6⟩ := at_T128 HR0_6.out a1 p120 q120; cases e120; replace hx120_0 := zx HB hx120_0; replace hx120_1 := zx HB hx120_1; replace hx120_2 := zx HB hx120_2; replace hx120_3 := zx HB hx120_3; replace hx120_4 := zx HB hx120_4; replace hx120_5 := zx HB hx120_5; replace hx120_6 := zx HB hx120_6; replace p120 := eq_true p120; replace q120 := eq_true q120))
    go_ret
    exact ⟨ze, zb HB⟩
   ·rw [if_neg c5] at H
    have c5b0 := beq_eq_false_iff_ne.mpr c5
    have c5b1 := bne_iff_ne.mpr c5
    by_cases c8 : a0_1 = 2
    ·rw [if_pos c8] at H
     have c8b0 := beq_iff_eq.mpr c8
     have c8b1 := bne_eq_false_iff_eq.mpr c8
     clear c8
     obtain rfl := Option.some.inj H
     go_enter Tryz.func149, Tryz.ntmps149
     go_wp2_with (first | ((with_reducible refine gate_dst (N := 2) rfl ?_); refine bx (N := 2) (cs := #[.string a0_0, .int .i64 a0_1, .int .i64 a0_2, .int .i64 a0_3, .int .i64 a0_4, .int .i64 a0_5, .slice A0_6 l0_6.length c0_6, .slice A0_7 l0_7.length c0_7]) (t := 51) ?_; intro gb119 hg w9 hbox hb; have BK119 := am (hbox); have GW119 := am ((zz hg (zb HB))); have GE119 := am ((zz hg (zb HB))); replace HB := am (below_step (zb HB) hb); clear hb hbox hg; obtain ⟨hcz10_0, hcz10_1, hcz10_2, hcz10_3, hcz10_4, hcz10_5, hcz10_6, hcz10_7, hfz10_0, hfz10_1, hfz10_2, hfz10_3, hfz10_4, hfz10_5, hfz10_6, hfz10_7⟩ := cz8 BK119; have p120 : 0 ≤ (a1 : Int) := of_decide_eq_true za; have q120 : a1 < (l0_6.length : Int) := of_decide_eq_true za; obtain ⟨ad120, e120, hx120_0, hx120_1, hx120_2, hx120_3, hx120_4, hx120_5, hx120_6⟩ := at_T128 HR0_6.out a1 p120 q120; cases e120; replace hx120_0 := zx HB hx120_0; replace hx120_1 := zx HB hx120_1; replace hx120_2 := zx HB hx120_2; replace hx120_3 := zx HB hx120_3; replace hx120_4 := zx HB hx120_4; replace hx120_5 := zx HB hx120_5; replace hx120_6 := zx HB hx120_6; replace p120 := eq_true p120; replace q120 := eq_true q120))
     go_ret
     exact ⟨ze, zb HB⟩
    ·rw [if_neg c8] at H
     have c8b0 := beq_eq_false_iff_ne.mpr c8
     have c8b1 := bne_iff_ne.mpr c8
     replace H := Option.bind_eq_some_iff.mp H
     obtain ⟨t121, A110, H⟩ := H
     have A11 := Aside0.mk A110
     clear A110
     obtain rfl := Option.some.inj H
     go_enter Tryz.func149, Tryz.ntmps149
     go_wp2_with (first | ((with_reducible refine gate_dst (N := 2) rfl ?_); refine bx (N := 2) (cs := #[.string a0_0, .int .i64 a0_1, .int .i64 a0_2, .int .i64 a0_3, .int .i64 a0_4, .int .i64 a0_5, .slice A0_6 l0_6.length c0_6, .slice A0_7 l0_7.length c0_7]) (t := 51) ?_; intro gb119 hg w12 hbox hb; have BK119 := am (hbox); have GW119 := am ((zz hg (zb HB))); have GE119 := am ((zz hg (zb HB))); replace HB := am (below_step (zb HB) hb); clear hb hbox hg; obtain ⟨hcz13_0, hcz13_1, hcz13_2, hcz13_3, hcz13_4, hcz13_5, hcz13_6, hcz13_7, hfz13_0, hfz13_1, hfz13_2, hfz13_3, hfz13_4, hfz13_5, hfz13_6, hfz13_7⟩ := cz8 BK119; have p120 : 0 ≤ (a1 : Int) := of_decide_eq_true za; have q120 : a1 < (l0_6.length : Int) := of_decide_eq_true za; obtain ⟨ad120, e120, hx120_0, hx120_1, hx120_2, hx120_3, hx120_4, hx120_5, hx120_6⟩ := at_T128 HR0_6.out a1 p120 q120; cases e120; replace hx120_0 := zx HB hx120_0; replace hx120_1 := zx HB hx120_1; replace hx120_2 := zx HB hx120_2; replace hx120_3 := zx HB hx120_3; replace hx120_4 := zx HB hx120_4; replace hx120_5 := zx HB hx120_5; replace hx120_6 := zx HB hx120_6; replace p120 := eq_true p120; replace q120 := eq_true q120) | ((with_reducible refine gate_callee (f := 186) rfl ?_); refine gl (some 23) Tryz.func186 #[.int .i64 ((rd_T128 l0_6 a1).f5)] rfl ?_; (with_reducible refine (entrepotref08_number.calls ((rd_T128 l0_6 a1).f5) t121 _ A11.out).mono ?_); rintro e w' ⟨rfl, ⟨nd, rfl⟩⟩; refine ⟨_, rfl, ?_⟩))
     go_ret
     exact ⟨ze, zb HB⟩
  ·rw [if_neg c4] at H
   exact absurd H (by simp)
 ·rw [if_neg c3] at H
  exact absurd H (by simp)
end Go.Proofs.YtofklpphalalhaaGreatDoor.PAll
