-- Written by a program out of the translation, for several roots at once (set All). Not trusted: Lean checks it.
import Derived.Test.YtainnkpoibgkcaaDoorPAllx0
import Derived.Test.YtainnkpoibgkcaaDoorBackA
import Derived.Test.YtainnkpoibgkcaaDoorPAllx1
import Derived.Test.YtainnkpoibgkcaaDoorGivenX
namespace Go.Proofs.YtainnkpoibgkcaaDoor.PAll
open Go.RowKit Go.Proofs.YtainnkpoibgkcaaDoorW.PrintWords Go.Proofs.YtainnkpoibgkcaaDoorW.PrintLast Go.Proofs.YtainnkpoibgkcaaDoorW.PrintMore
attribute [local go_sem] max2_int min2_int max_two min_two max_three min_three max_four min_four   -- for this text's walks alone
set_option linter.unusedVariables false
set_option linter.unusedSimpArgs false

attribute [local go_sem high] eqA34
/-! ### entrepotlaw19_JsonicBack: function 4 -/
mutual
def entrepotlaw19_JsonicBack.j0 : Nat → List (S38) → ByteArray → Bool → Option (Bool)
  | 0, _, _, _ => none
  | k + 1, x0, x1, x28 => if x28 = true then ((entrepotlaw19_shown.f).bind fun t155 => (some t155)) else ((jsonic_Print.f x0).bind fun bt156 => (if bt156.2 = true then ((jsonic_Parse.f bt156.1).bind fun bt158 => (entrepotlaw19_JsonicBack.l0 k x0 x1 bt158.1 (([] : List (S39))) 0 bt158.2.1 bt158.2.2)) else (entrepotlaw19_JsonicBack.j2 k x1)))
def entrepotlaw19_JsonicBack.j2 : Nat → ByteArray → Option (Bool)
  | 0, _ => none
  | k + 1, x1 => (jsonic_Parse.f x1).bind fun bt196 => (if bt196.2.2 = 0 then ((jsonic_Print.f bt196.1).bind fun bt202 => ((jsonic_Parse.f bt202.1).bind fun bt204 => (if bt202.2 = true then (if (bt204.2.1 == 0 && (bt204.2.2 == 0)) = true then ((entrepotlaw19_placeless.f k bt196.1).bind fun t210 => ((entrepotlaw19_placeless.f k bt204.1).bind fun t213 => ((entrepotref19_Same.f k t210 t213).bind fun t216 => (some t216)))) else (some false)) else (some false)))) else (some ((bt196.1.length : Int) == 0)))
def entrepotlaw19_JsonicBack.l0 : Nat → List (S38) → ByteArray → List (S38) → List (S39) → Int → Int → Int → Option (Bool)
  | 0, _, _, _, _, _, _, _ => none
  | k + 1, x0, x1, x7, x9, x10, x164000, x164001 => if x10 < (x0.length : Int) then (if 0 ≤ x10 then (if ((rd_T38 x0 x10).f0) = 1 then (if ((rd_T38 x0 x10).f0) = 2 then (if x9.length < 3518437208883 then (entrepotlaw19_JsonicBack.l0 k x0 x1 x7 (x9 ++ [(⟨(rd_T38 x0 x10).f0, (rd_T38 x0 x10).f1, (rd_T38 x0 x10).f2, 0⟩ : S39)]) (wrap64 (x10 + 1)) x164000 x164001) else (none)) else (if ((rd_T38 x0 x10).f0) = 6 then (if x9.length < 3518437208883 then (entrepotlaw19_JsonicBack.l0 k x0 x1 x7 (x9 ++ [(⟨(rd_T38 x0 x10).f0, (rd_T38 x0 x10).f1, (rd_T38 x0 x10).f2, 0⟩ : S39)]) (wrap64 (x10 + 1)) x164000 x164001) else (none)) else (if x9.length < 3518437208883 then (entrepotlaw19_JsonicBack.l0 k x0 x1 x7 (x9 ++ [(⟨(rd_T38 x0 x10).f0, (rd_T38 x0 x10).f1, (⟨#[]⟩ : ByteArray), 0⟩ : S39)]) (wrap64 (x10 + 1)) x164000 x164001) else (none)))) else (if ((rd_T38 x0 x10).f0) = 2 then (if x9.length < 3518437208883 then (entrepotlaw19_JsonicBack.l0 k x0 x1 x7 (x9 ++ [(⟨(rd_T38 x0 x10).f0, 0, (rd_T38 x0 x10).f2, 0⟩ : S39)]) (wrap64 (x10 + 1)) x164000 x164001) else (none)) else (if ((rd_T38 x0 x10).f0) = 6 then (if x9.length < 3518437208883 then (entrepotlaw19_JsonicBack.l0 k x0 x1 x7 (x9 ++ [(⟨(rd_T38 x0 x10).f0, 0, (rd_T38 x0 x10).f2, 0⟩ : S39)]) (wrap64 (x10 + 1)) x164000 x164001) else (none)) else (if x9.length < 3518437208883 then (entrepotlaw19_JsonicBack.l0 k x0 x1 x7 (x9 ++ [(⟨(rd_T38 x0 x10).f0, 0, (⟨#[]⟩ : ByteArray), 0⟩ : S39)]) (wrap64 (x10 + 1)) x164000 x164001) else (none))))) else (none)) else (if (!(x164000 == 0) || (!(x164001 == 0))) = true then (some false) else ((entrepotlaw19_placeless.f k x7).bind fun t192 => ((entrepotref19_Same.f k t192 x9).bind fun t195 => (if t195 = true then (entrepotlaw19_JsonicBack.j2 k x1) else (some false)))))
end
def entrepotlaw19_JsonicBack.f (k : Nat) (l0 : List (S38)) (a1 : ByteArray) : Option (Bool) := (entrepotlaw19_long.f k l0).bind fun t153 => (if t153 = true then (entrepotlaw19_JsonicBack.j0 k l0 a1 true) else (if (a1.size : Int) > 1000 then (entrepotlaw19_JsonicBack.j0 k l0 a1 true) else ((entrepotlaw19_shown.f).bind fun t154 => (entrepotlaw19_JsonicBack.j0 k l0 a1 (!t154)))))
theorem entrepotlaw19_JsonicBack.mono_l : ∀ k, (∀ y0 y1 y2, LeO (entrepotlaw19_JsonicBack.j0 k y0 y1 y2) (entrepotlaw19_JsonicBack.j0 (k + 1) y0 y1 y2)) ∧ (∀ y0, LeO (entrepotlaw19_JsonicBack.j2 k y0) (entrepotlaw19_JsonicBack.j2 (k + 1) y0)) ∧ (∀ y0 y1 y2 y3 y4 y5 y6, LeO (entrepotlaw19_JsonicBack.l0 k y0 y1 y2 y3 y4 y5 y6) (entrepotlaw19_JsonicBack.l0 (k + 1) y0 y1 y2 y3 y4 y5 y6))
  | 0 => ⟨fun _ _ _ r h => by simp [entrepotlaw19_JsonicBack.j0] at h, fun _ r h => by simp [entrepotlaw19_JsonicBack.j2] at h, fun _ _ _ _ _ _ _ r h => by simp [entrepotlaw19_JsonicBack.l0] at h⟩
  | k + 1 => by
    obtain ⟨ih0, ih1, ih2⟩ := entrepotlaw19_JsonicBack.mono_l k
    refine ⟨?_, ?_, ?_⟩
    · intro y0 y1 y2
      unfold entrepotlaw19_JsonicBack.j0
      repeat' first
      | (with_reducible exact ih0 _ _ _)
      | (with_reducible exact ih1 _)
      | (with_reducible exact ih2 _ _ _ _ _ _ _)
      | (with_reducible exact entrepotlaw19_long.mono _ _)
      | (with_reducible exact entrepotlaw19_placeless.mono _ _)
      | (with_reducible exact entrepotref19_Same.mono _ _ _)
      | (with_reducible exact LeO.refl _)
      | (with_reducible exact LeO.none _)
      | (with_reducible refine LeO.ite ?_ ?_)
      | (with_reducible refine LeO.bind ?_ (fun _ => ?_))
      | exact ih0 _ _ _
      | exact ih1 _
      | exact ih2 _ _ _ _ _ _ _
      | exact entrepotlaw19_long.mono _ _
      | exact entrepotlaw19_placeless.mono _ _
      | exact entrepotref19_Same.mono _ _ _
      | exact LeO.none _
      | refine LeO.ite ?_ ?_
      | refine LeO.bind ?_ (fun _ => ?_)
    · intro y0
      unfold entrepotlaw19_JsonicBack.j2
      repeat' first
      | (with_reducible exact ih0 _ _ _)
      | (with_reducible exact ih1 _)
      | (with_reducible exact ih2 _ _ _ _ _ _ _)
      | (with_reducible exact entrepotlaw19_long.mono _ _)
      | (with_reducible exact entrepotlaw19_placeless.mono _ _)
      | (with_reducible exact entrepotref19_Same.mono _ _ _)
      | (with_reducible exact LeO.refl _)
      | (with_reducible exact LeO.none _)
      | (with_reducible refine LeO.ite ?_ ?_)
      | (with_reducible refine LeO.bind ?_ (fun _ => ?_))
      | exact ih0 _ _ _
      | exact ih1 _
      | exact ih2 _ _ _ _ _ _ _
      | exact entrepotlaw19_long.mono _ _
      | exact entrepotlaw19_placeless.mono _ _
      | exact entrepotref19_Same.mono _ _ _
      | exact LeO.none _
      | refine LeO.ite ?_ ?_
      | refine LeO.bind ?_ (fun _ => ?_)
    · intro y0 y1 y2 y3 y4 y5 y6
      unfold entrepotlaw19_JsonicBack.l0
      repeat' first
      | (with_reducible exact ih0 _ _ _)
      | (with_reducible exact ih1 _)
      | (with_reducible exact ih2 _ _ _ _ _ _ _)
      | (with_reducible exact entrepotlaw19_long.mono _ _)
      | (with_reducible exact entrepotlaw19_placeless.mono _ _)
      | (with_reducible exact entrepotref19_Same.mono _ _ _)
      | (with_reducible exact LeO.refl _)
      | (with_reducible exact LeO.none _)
      | (with_reducible refine LeO.ite ?_ ?_)
      | (with_reducible refine LeO.bind ?_ (fun _ => ?_))
      | exact ih0 _ _ _
      | exact ih1 _
      | exact ih2 _ _ _ _ _ _ _
      | exact entrepotlaw19_long.mono _ _
      | exact entrepotlaw19_placeless.mono _ _
      | exact entrepotref19_Same.mono _ _ _
      | exact LeO.none _
      | refine LeO.ite ?_ ?_
      | refine LeO.bind ?_ (fun _ => ?_)
theorem entrepotlaw19_JsonicBack.mono : ∀ a0 a1 k, LeO (entrepotlaw19_JsonicBack.f k a0 a1) (entrepotlaw19_JsonicBack.f (k + 1) a0 a1) := by
  intro a0 a1 k
  obtain ⟨ih0, ih1, ih2⟩ := entrepotlaw19_JsonicBack.mono_l k
  unfold entrepotlaw19_JsonicBack.f
  repeat' first
      | (with_reducible exact ih0 _ _ _)
      | (with_reducible exact ih1 _)
      | (with_reducible exact ih2 _ _ _ _ _ _ _)
      | (with_reducible exact entrepotlaw19_long.mono _ _)
      | (with_reducible exact entrepotlaw19_placeless.mono _ _)
      | (with_reducible exact entrepotref19_Same.mono _ _ _)
      | (with_reducible exact LeO.refl _)
      | (with_reducible exact LeO.none _)
      | (with_reducible refine LeO.ite ?_ ?_)
      | (with_reducible refine LeO.bind ?_ (fun _ => ?_))
      | exact ih0 _ _ _
      | exact ih1 _
      | exact ih2 _ _ _ _ _ _ _
      | exact entrepotlaw19_long.mono _ _
      | exact entrepotlaw19_placeless.mono _ _
      | exact entrepotref19_Same.mono _ _ _
      | exact LeO.none _
      | refine LeO.ite ?_ ?_
      | refine LeO.bind ?_ (fun _ => ?_)
set_option maxHeartbeats 40000000 in
set_option maxRecDepth 100000 in
theorem entrepotlaw19_JsonicBack.calls (k : Nat) (A0 : Option Addr) (c0 : Nat) (l0 : List (S38)) (a1 : ByteArray) (r : Bool) (w : World) (HT : Tab w) (hr0 : Kd.C k38 w A0 l0.length l0) (hc0 : l0.length ≤ c0) (h : entrepotlaw19_JsonicBack.f k l0 a1 = some r) :
    Calls Tryd.prog 4 #[.slice A0 l0.length c0, .string a1] w fun e w' => e = .returned (.bool r) ∧ Below w.heap.size w w' := by
  have hu34 := Tryd.underlying34
  have hu39 := Tryd.underlying39
  have HR0 := Aside0.mk hr0
  have HC0 := Aside0.mk hc0
  clear hr0 hc0
  have HB := Aside0.mk (Below.refl w.heap.size w)
  have H : ((entrepotlaw19_long.f k l0).bind fun t153 => (if t153 = true then (entrepotlaw19_JsonicBack.j0 k l0 a1 true) else (if (a1.size : Int) > 1000 then (entrepotlaw19_JsonicBack.j0 k l0 a1 true) else ((entrepotlaw19_shown.f).bind fun t154 => (entrepotlaw19_JsonicBack.j0 k l0 a1 (!t154)))))) = some r := h
  clear h
  have HC3 := Aside0.mk H
  clear H
  go_enter Tryd.func4, Tryd.ntmps4
  go_upto_region 1 with (fail)
  go_cut [28] (fun v28 wc => ∃ (kq : Nat) (x28_2 : Bool), v28 = .bool x28_2 ∧ Aside0 (entrepotlaw19_JsonicBack.j0 kq l0 a1 x28_2 = some r) ∧ Aside0 (kq ≤ k) ∧ Aside0 (Below w.heap.size w wc))
  case first =>
    have H := HC3.out
    clear HC3
    replace H := Option.bind_eq_some_iff.mp H
    obtain ⟨t153, A40, H⟩ := H
    replace H : (if t153 = true then (entrepotlaw19_JsonicBack.j0 k l0 a1 true) else (if (a1.size : Int) > 1000 then (entrepotlaw19_JsonicBack.j0 k l0 a1 true) else ((entrepotlaw19_shown.f).bind fun t154 => (entrepotlaw19_JsonicBack.j0 k l0 a1 (!t154))))) = some r := H
    have A4 := Aside0.mk A40
    clear A40
    by_cases c5 : t153 = true
    · subst c5
      have H1 : (entrepotlaw19_JsonicBack.j0 k l0 a1 true) = some r := by rw [if_pos rfl] at H; exact H
      clear H
      have H := H1
      clear H1
      have H' := Aside0.mk H
      clear H
      go_wp2_with (first | ((with_reducible refine gate_callee (f := 8) rfl ?_); refine goesL_ (some 19) rfl rfl Tryd.func8 (by kernel_rfl) rfl #[.slice A0 l0.length c0] rfl (by (try simp only [List.map_toArray, List.map_cons, List.map_nil]); first | done | rfl | (simp only [List.length_drop, List.length_take]; rfl)) ?_; (with_reducible refine (entrepotlaw19_long.calls k _ _ l0 true _ ?side1 ?side2 A4.out).mono ?_); (case side1 => repeat (first | exact (Kd.C_below HR0.out HB.out) | (with_reducible refine Kd.C_alloc ?_ _) | (with_reducible refine Kd.C_drewN ?_ _) | (with_reducible refine Kd.C_drew ?_))); (case side2 => exact HC0.out); rintro e w' ⟨rfl, ⟨nd, rfl⟩⟩; refine ⟨_, rfl, ?_⟩))
      go_meet
      case rel => exact ⟨_, (true), (by first | rfl | (simp; done) | (simp [*]; done)), H', ⟨by first | omega | exact Nat.le_refl _⟩, ⟨by repeat (first | (with_reducible first | exact HB.out | apply below_alloc | apply pw_below_drewN | apply below_drew1) | exact HB.out)⟩⟩
    · replace c5 := Bool.eq_false_iff.mpr c5
      subst c5
      have H1 : (if (a1.size : Int) > 1000 then (entrepotlaw19_JsonicBack.j0 k l0 a1 true) else ((entrepotlaw19_shown.f).bind fun t154 => (entrepotlaw19_JsonicBack.j0 k l0 a1 (!t154)))) = some r := by rw [if_neg (show ¬ (false = true) by decide)] at H; exact H
      clear H
      have H := H1
      clear H1
      by_cases c6 : (a1.size : Int) > 1000
      · rw [if_pos c6] at H
        have c6b0 : decide (1000 < (a1.size : Int)) = true := decide_eq_true c6
        have c6b1 : decide (1000 < a1.size) = true := decide_eq_true (by omega)
        clear c6
        (first | rw [c6b0] | (simp only [i64_w, i32_w]; rw [c6b0]) | skip)
        have H' := Aside0.mk H
        clear H
        go_wp2_with (first | ((with_reducible refine gate_callee (f := 8) rfl ?_); refine goesL_ (some 19) rfl rfl Tryd.func8 (by kernel_rfl) rfl #[.slice A0 l0.length c0] rfl (by (try simp only [List.map_toArray, List.map_cons, List.map_nil]); first | done | rfl | (simp only [List.length_drop, List.length_take]; rfl)) ?_; (with_reducible refine (entrepotlaw19_long.calls k _ _ l0 false _ ?side1 ?side2 A4.out).mono ?_); (case side1 => repeat (first | exact (Kd.C_below HR0.out HB.out) | (with_reducible refine Kd.C_alloc ?_ _) | (with_reducible refine Kd.C_drewN ?_ _) | (with_reducible refine Kd.C_drew ?_))); (case side2 => exact HC0.out); rintro e w' ⟨rfl, ⟨nd, rfl⟩⟩; refine ⟨_, rfl, ?_⟩))
        go_meet
        case rel => exact ⟨_, (true), (by first | rfl | (simp; done) | (simp [*]; done)), H', ⟨by first | omega | exact Nat.le_refl _⟩, ⟨by repeat (first | (with_reducible first | exact HB.out | apply below_alloc | apply pw_below_drewN | apply below_drew1) | exact HB.out)⟩⟩
      · rw [if_neg c6] at H
        have c6b0 : decide (1000 < (a1.size : Int)) = false := decide_eq_false c6
        have c6b1 : decide (1000 < a1.size) = false := decide_eq_false (by omega)
        clear c6
        (first | rw [c6b0] | (simp only [i64_w, i32_w]; rw [c6b0]) | skip)
        replace H := Option.bind_eq_some_iff.mp H
        obtain ⟨t154, A70, H⟩ := H
        replace H : (entrepotlaw19_JsonicBack.j0 k l0 a1 (!t154)) = some r := H
        have A7 := Aside0.mk A70
        clear A70
        have H' := Aside0.mk H
        clear H
        go_wp2_with (first | ((with_reducible refine gate_callee (f := 8) rfl ?_); refine goesL_ (some 19) rfl rfl Tryd.func8 (by kernel_rfl) rfl #[.slice A0 l0.length c0] rfl (by (try simp only [List.map_toArray, List.map_cons, List.map_nil]); first | done | rfl | (simp only [List.length_drop, List.length_take]; rfl)) ?_; (with_reducible refine (entrepotlaw19_long.calls k _ _ l0 false _ ?side1 ?side2 A4.out).mono ?_); (case side1 => repeat (first | exact (Kd.C_below HR0.out HB.out) | (with_reducible refine Kd.C_alloc ?_ _) | (with_reducible refine Kd.C_drewN ?_ _) | (with_reducible refine Kd.C_drew ?_))); (case side2 => exact HC0.out); rintro e w' ⟨rfl, ⟨nd, rfl⟩⟩; refine ⟨_, rfl, ?_⟩) | (go_at_call 9; (with_reducible refine (entrepotlaw19_shown.calls  t154 _ (Tab.below HT (by repeat (first | (with_reducible first | exact HB.out | apply below_alloc | apply pw_below_drewN | apply below_drew1) | exact HB.out))) A7.out).mono ?_); rintro e w8 ⟨rfl, hb⟩; have n0_ := Aside0.mk (below_step (by repeat (first | (with_reducible first | exact HB.out | apply below_alloc | apply pw_below_drewN | apply below_drew1) | exact HB.out)) hb); clear HB; have HB := n0_; clear n0_; (try clear hb); (try clear hb2); (try clear hk); (try clear hi)))
        go_meet
        case rel => exact ⟨_, (!t154), (by first | rfl | (simp; done) | (simp [*]; done)), H', ⟨by first | omega | exact Nat.le_refl _⟩, ⟨by repeat (first | (with_reducible first | exact HB.out | apply below_alloc | apply pw_below_drewN | apply below_drew1) | exact HB.out)⟩⟩
  case rest =>
    clear HC3
    try clear p2
    try clear c4
    try clear c5
    try clear c6
    try clear c6b0
    try clear c6b1
    try clear c8
    obtain ⟨kq, x28_2, rfl, HA, HJ2, HB⟩ := hcut
    cases kq with
    | zero => exact absurd HA.out (by simp [entrepotlaw19_JsonicBack.j0])
    | succ kj2 =>
      have H := HA.out
      clear HA
      simp only [entrepotlaw19_JsonicBack.j0] at H
      by_cases c9 : x28_2 = true
      · subst c9
        have H1 : ((entrepotlaw19_shown.f).bind fun t155 => (some t155)) = some r := by rw [if_pos rfl] at H; exact H
        clear H
        have H := H1
        clear H1
        replace H := Option.bind_eq_some_iff.mp H
        obtain ⟨t155, A100, H⟩ := H
        replace H : (some t155) = some r := H
        have A10 := Aside0.mk A100
        clear A100
        obtain rfl := Option.some.inj H
        go_wp2_with (first | ((with_reducible refine gate_callee (f := 9) rfl ?_); refine goesL_ (some 29) rfl rfl Tryd.func9 (by kernel_rfl) rfl #[] rfl (by (try simp only [List.map_toArray, List.map_cons, List.map_nil]); first | done | rfl | (simp only [List.length_drop, List.length_take]; rfl)) ?_; (with_reducible refine (entrepotlaw19_shown.calls  t155 _ (Tab.below HT (by repeat (first | (with_reducible first | exact HB.out | apply below_alloc | apply pw_below_drewN | apply below_drew1) | exact HB.out))) A10.out).mono ?_); rintro e w11 ⟨rfl, hb⟩; refine ⟨_, rfl, ?_⟩; have n0_ := Aside0.mk (below_step (by repeat (first | (with_reducible first | exact HB.out | apply below_alloc | apply pw_below_drewN | apply below_drew1) | exact HB.out)) hb); clear HB; have HB := n0_; clear n0_; (try clear hb); (try clear hb2); (try clear hk); (try clear hi)))
        go_ret
        exact ⟨by first | rfl | (simp [errW_none, errW_some] <;> rfl) | (simp [*, errW_none, errW_some] <;> rfl), by repeat (first | (with_reducible first | exact HB.out | apply below_alloc | apply pw_below_drewN | apply below_drew1) | exact HB.out)⟩
      · replace c9 := Bool.eq_false_iff.mpr c9
        subst c9
        have H1 : ((jsonic_Print.f l0).bind fun bt156 => (if bt156.2 = true then ((jsonic_Parse.f bt156.1).bind fun bt158 => (entrepotlaw19_JsonicBack.l0 kj2 l0 a1 bt158.1 (([] : List (S39))) 0 bt158.2.1 bt158.2.2)) else (entrepotlaw19_JsonicBack.j2 kj2 a1))) = some r := by rw [if_neg (show ¬ (false = true) by decide)] at H; exact H
        clear H
        have H := H1
        clear H1
        replace H := Option.bind_eq_some_iff.mp H
        obtain ⟨⟨t156, t157⟩, A120, H⟩ := H
        replace H : (if t157 = true then ((jsonic_Parse.f t156).bind fun bt158 => (entrepotlaw19_JsonicBack.l0 kj2 l0 a1 bt158.1 (([] : List (S39))) 0 bt158.2.1 bt158.2.2)) else (entrepotlaw19_JsonicBack.j2 kj2 a1)) = some r := H
        have A12 := Aside0.mk A120
        clear A120
        have HC13 := Aside0.mk H
        clear H
        go_upto_if 35 with (first | ((with_reducible refine gate_callee (f := 10) rfl ?_); refine goesL_ (some 32) rfl rfl Tryd.func10 (by kernel_rfl) rfl #[.slice A0 l0.length c0] rfl (by (try simp only [List.map_toArray, List.map_cons, List.map_nil]); first | done | rfl | (simp only [List.length_drop, List.length_take]; rfl)) ?_; (with_reducible refine (jsonic_Print.calls _ _ l0 t156 t157 _ (Tab.below HT (by repeat (first | (with_reducible first | exact HB.out | apply below_alloc | apply pw_below_drewN | apply below_drew1) | exact HB.out))) ?side1 ?side2 A12.out).mono ?_); (case side1 => repeat (first | exact (Kd.C_below HR0.out HB.out) | (with_reducible refine Kd.C_alloc ?_ _) | (with_reducible refine Kd.C_drewN ?_ _) | (with_reducible refine Kd.C_drew ?_))); (case side2 => exact HC0.out); rintro e w14 ⟨rfl, hb⟩; refine ⟨_, rfl, ?_⟩; have n0_ := Aside0.mk (below_step (by repeat (first | (with_reducible first | exact HB.out | apply below_alloc | apply pw_below_drewN | apply below_drew1) | exact HB.out)) hb); clear HB; have HB := n0_; clear n0_; (try clear hb); (try clear hb2); (try clear hk); (try clear hi)))
        (try simp only [Act.put, List.setIfInBounds_toArray, List.set_cons_zero, List.set_cons_succ])
        go_cut [] (fun wc => ∃ (kq : Nat), Aside0 (entrepotlaw19_JsonicBack.j2 kq a1 = some r) ∧ Aside0 (kq ≤ kj2) ∧ Aside0 (Below w.heap.size w wc))
        case first =>
          have H := HC13.out
          clear HC13
          by_cases c15 : t157 = true
          · subst c15
            have H1 : ((jsonic_Parse.f t156).bind fun bt158 => (entrepotlaw19_JsonicBack.l0 kj2 l0 a1 bt158.1 (([] : List (S39))) 0 bt158.2.1 bt158.2.2)) = some r := by rw [if_pos rfl] at H; exact H
            clear H
            have H := H1
            clear H1
            replace H := Option.bind_eq_some_iff.mp H
            obtain ⟨⟨t158, t161, t162⟩, A160, H⟩ := H
            replace H : (entrepotlaw19_JsonicBack.l0 kj2 l0 a1 t158 (([] : List (S39))) 0 t161 t162) = some r := H
            have A16 := Aside0.mk A160
            clear A160
            obtain ⟨y164, hy164⟩ : ∃ y_ : List (S39), y_ = (([] : List (S39))) := ⟨_, rfl⟩
            replace H : (entrepotlaw19_JsonicBack.l0 kj2 l0 a1 t158 y164 0 t161 t162) = some r := by first | (rw [hy164]; with_reducible exact H) | (have H2_ := (Option.bind_some _ _).symm.trans H; rw [hy164]; with_reducible exact H2_) | (have H2_ := (Option.bind_some _ _).symm.trans H; with_reducible exact H2_) | with_reducible exact H | (rw [hy164]; exact H) | exact H
            have Ny164 := Aside0.mk hy164
            clear hy164
            have H' := Aside0.mk H
            clear H
            go_wp2_with (first | ((with_reducible refine gate_callee (f := 15) rfl ?_); refine goesL_ (some 38) rfl rfl Tryd.func15 (by kernel_rfl) rfl #[.string t156] rfl (by (try simp only [List.map_toArray, List.map_cons, List.map_nil]); first | done | rfl | (simp only [List.length_drop, List.length_take]; rfl)) ?_; (with_reducible refine (jsonic_Parse.calls t156 t158 t161 t162 _ (Tab.below HT (by repeat (first | (with_reducible first | exact HB.out | apply below_alloc | apply pw_below_drewN | apply below_drew1) | exact HB.out))) A16.out).mono ?_); rintro e w17 ⟨v159, rfl, ho0, hb⟩; refine ⟨_, rfl, ?_⟩; have n0_ := Aside0.mk (Kd.R_lower ho0 (below_size (by repeat (first | (with_reducible first | exact HB.out | apply below_alloc | apply pw_below_drewN | apply below_drew1) | exact HB.out)))); have n1_ := Aside0.mk (below_step (by repeat (first | (with_reducible first | exact HB.out | apply below_alloc | apply pw_below_drewN | apply below_drew1) | exact HB.out)) hb); clear HB; have HO160 := n0_; have HB := n1_; clear n0_ n1_; (try clear hb); (try clear hb2); (try clear hk); (try clear hi); (try clear ho0)) | ((with_reducible refine gate_dst (N := 8) rfl ?_); (try (refine gate_guard (by rfl) ?_; dsimp only)); refine box_event ?hg (N := 8) ?hd (cs := #[.int .i64 0, .int .i64 0]) (t := 34) ?hr ?_; (case hd => rfl); (case hg => rfl); (case hr => first | (go_simp; done) | (go_simp; rfl)); intro gb163 hg w18 hbox hb; have n0_ := Aside0.mk (Kd.R_below (by (with_reducible repeat (first | apply Kd.R_alloc | apply Kd.R_drewN | apply Kd.R_drew)); exact HO160.out) hb); have n1_ := Aside0.mk (below_step (by repeat (first | (with_reducible first | exact HB.out | apply below_alloc | apply pw_below_drewN | apply below_drew1) | exact HB.out)) hb); have n2_ := Aside0.mk (hbox); have n3_ := Aside0.mk ((by rw [hg]; exact (below_size (by repeat (first | (with_reducible first | exact HB.out | apply below_alloc | apply pw_below_drewN | apply below_drew1) | exact HB.out))) : w.heap.size ≤ gb163)); have n4_ := Aside0.mk ((by rw [hg]; exact (below_size (by repeat (first | (with_reducible first | exact HB.out | apply below_alloc | apply pw_below_drewN | apply below_drew1) | exact HB.out))) : w.heap.size ≤ gb163)); clear HO160; clear HB; have HO160 := n0_; have HB := n1_; have BK163 := n2_; have GW163 := n3_; have GE163 := n4_; clear n0_ n1_ n2_ n3_ n4_; clear hb hbox hg; have hcz19_0 : w18.cell? ⟨gb163, 0, none⟩ = some (.int .i64 0) := (blk_cell BK163.out 0).trans rfl; have hcz19_1 : w18.cell? ⟨gb163, 1, none⟩ = some (.int .i64 0) := (blk_cell BK163.out 1).trans rfl; have hfz19_0 := blk_frozen BK163.out 0; have hfz19_1 := blk_frozen BK163.out 1) | ((with_reducible refine gate_dst (N := 41) rfl ?_); (try (refine gate_guard (by rfl) ?_; dsimp only)); refine Kd.R_lit k39 _ 39 ?hg (N := 41) ?hd (xs := ([] : List (S39))) (inner := []) (ok := fun _ => True) (okp := fun _ => True) ?hr ?hp (fun _ hk => hk) trivial (Below.refl _ _) (Nat.le_refl _) (by simp) ?_; (case hd => rfl); (case hg => rfl); (case hr => first | (go_simp; done) | (go_simp; rfl)); (case hp => exact (Reps.none _ _)); intro v165 w20 ho21 hb hg_ hnew_; clear hg_ hnew_; (first | rw [← Ny164.out] at ho21 | (simp only [Int.reduceToNat] at ho21; rw [← Ny164.out] at ho21)); have n0_ := Aside0.mk (Kd.R_below (by (with_reducible repeat (first | apply Kd.R_alloc | apply Kd.R_drewN | apply Kd.R_drew)); exact (Kd.R_mono (Kd.R_far (p := ⟨gb163, 1, none⟩) (Kd.R_far (p := ⟨gb163, 0, none⟩) (Kd.R_types HO160.out BK163.out (by decide)) (fun _ hk => hk.2) (.int .i64 t161)) (fun _ hk => hk.2) (.int .i64 t162)) (fun _ h_ => h_.1))) hb); have n1_ := Aside0.mk (Kd.R_lower ho21 (below_size (by repeat (first | (with_reducible first | exact HB.out | apply below_alloc | apply pw_below_drewN | apply below_drew1 | refine below_set ?_ GE163.out) | exact HB.out)))); have n2_ := Aside0.mk (blk_below (g := gb163) (o := .cells #[.int .i64 t161, .int .i64 t162] 34 (0, 0)) (by (with_reducible repeat (first | refine blk_drewN ?_ _ | refine blk_drew ?_ | refine blk_alloc ?_ _)); refine blk_put (cs := #[.int .i64 t161, .int .i64 0]) ?_ 1 _ rfl; (with_reducible repeat (first | refine blk_drewN ?_ _ | refine blk_drew ?_ | refine blk_alloc ?_ _)); refine blk_put (cs := #[.int .i64 0, .int .i64 0]) ?_ 0 _ rfl; (with_reducible repeat (first | refine blk_drewN ?_ _ | refine blk_drew ?_ | refine blk_alloc ?_ _)); exact BK163.out) hb); have n3_ := Aside0.mk (below_step (by repeat (first | (with_reducible first | exact HB.out | apply below_alloc | apply pw_below_drewN | apply below_drew1 | refine below_set ?_ GE163.out) | exact HB.out)) hb); clear HO160; clear BK163; clear HB; have HO160 := n0_; have HO166 := n1_; have BK163 := n2_; have HB := n3_; clear n0_ n1_ n2_ n3_; clear hb ho21))
            go_loopg [9, 10] kj2 (fun kq v9 v10 w' => ∃ (x9_2 : List (S39)) (x10_2 : Int), v10 = .int .i64 x10_2 ∧ Aside0 (entrepotlaw19_JsonicBack.l0 kq l0 a1 t158 x9_2 x10_2 t161 t162 = some r) ∧ Aside0 (kq ≤ kj2) ∧ Aside0 (Kd.R k38 38 w' w.heap.size (fun _ => True) v159 t158) ∧ Aside0 (Kd.R k39 39 w' w.heap.size (fun _ => True) v9 x9_2) ∧ Aside0 (w'.heap[gb163]? = some (.cells #[.int .i64 t161, .int .i64 t162] 34 (0, 0))) ∧ Aside0 (Below w.heap.size w w'))
            case atStart => exact ⟨(y164), (0), (by first | rfl | (simp; done) | (simp [*]; done)), H', ⟨Nat.le_refl _⟩, ⟨by (with_reducible repeat (first | apply Kd.R_alloc | apply Kd.R_drewN | apply Kd.R_drew)); exact HO160.out⟩, ⟨by (with_reducible repeat (first | apply Kd.R_alloc | apply Kd.R_drewN | apply Kd.R_drew)); exact HO166.out⟩, ⟨by (with_reducible repeat (first | refine blk_drewN ?_ _ | refine blk_drew ?_ | refine blk_alloc ?_ _)); exact BK163.out⟩, ⟨by repeat (first | (with_reducible first | exact HB.out | apply below_alloc | apply pw_below_drewN | apply below_drew1 | refine below_set ?_ GE163.out) | exact HB.out)⟩⟩
            case round =>
              clear H'
              try clear c1
              try clear p2
              try clear c4
              try clear c5
              try clear c6
              try clear c6b0
              try clear c6b1
              try clear c8
              try clear c9
              try clear c10
              try clear c15
              try clear hcz19_0
              try clear hcz19_1
              try clear hfz19_0
              try clear hfz19_1
              try clear p2
              obtain ⟨x9_2, x10_2, rfl, HA, HK2, HO_7, HO_9, BK163, HB⟩ := hrel
              cases gk with
              | zero => exact absurd HA.out (by simp [entrepotlaw19_JsonicBack.l0])
              | succ k2 =>
                have H := HA.out
                clear HA
                simp only [entrepotlaw19_JsonicBack.l0] at H
                by_cases c22 : x10_2 < (l0.length : Int)
                · rw [if_pos c22] at H
                  have c22b0 : decide (x10_2 < (l0.length : Int)) = true := decide_eq_true c22
                  clear c22
                  (first | rw [c22b0] | (simp only [i64_w, i32_w]; rw [c22b0]) | skip)
                  by_cases c23 : 0 ≤ x10_2
                  · rw [if_pos c23] at H
                    have c23b0 : decide (0 ≤ x10_2) = true := decide_eq_true c23
                    clear c23
                    by_cases c24 : ((rd_T38 l0 x10_2).f0) = 1
                    · rw [if_pos c24] at H
                      have c24b0 : (((rd_T38 l0 x10_2).f0) == 1) = true := beq_iff_eq.mpr c24
                      have c24b1 : (((rd_T38 l0 x10_2).f0) != 1) = false := bne_eq_false_iff_eq.mpr c24
                      clear c24
                      by_cases c25 : ((rd_T38 l0 x10_2).f0) = 2
                      · exfalso; have := beq_iff_eq.mp c24b0; omega
                      · rw [if_neg c25] at H
                        have c25b0 : (((rd_T38 l0 x10_2).f0) == 2) = false := beq_eq_false_iff_ne.mpr c25
                        have c25b1 : (((rd_T38 l0 x10_2).f0) != 2) = true := bne_iff_ne.mpr c25
                        by_cases c31 : ((rd_T38 l0 x10_2).f0) = 6
                        · exfalso; have := beq_iff_eq.mp c24b0; omega
                        · rw [if_neg c31] at H
                          have c31b0 : (((rd_T38 l0 x10_2).f0) == 6) = false := beq_eq_false_iff_ne.mpr c31
                          have c31b1 : (((rd_T38 l0 x10_2).f0) != 6) = true := bne_iff_ne.mpr c31
                          by_cases c37 : x9_2.length < 3518437208883
                          · rw [if_pos c37] at H
                            have LMc37 := Aside0.mk c37
                            clear c37
                            obtain ⟨y178, hy178⟩ : ∃ y_ : List (S39), y_ = (x9_2 ++ [(⟨(rd_T38 l0 x10_2).f0, (rd_T38 l0 x10_2).f1, (⟨#[]⟩ : ByteArray), 0⟩ : S39)]) := ⟨_, rfl⟩
                            replace H : (entrepotlaw19_JsonicBack.l0 k2 l0 a1 t158 y178 (wrap64 (x10_2 + 1)) t161 t162) = some r := by first | (rw [hy178]; with_reducible exact H) | (have H2_ := (Option.bind_some _ _).symm.trans H; rw [hy178]; with_reducible exact H2_) | (have H2_ := (Option.bind_some _ _).symm.trans H; with_reducible exact H2_) | with_reducible exact H | (rw [hy178]; exact H) | exact H
                            have Ny178 := Aside0.mk hy178
                            clear hy178
                            have H' := Aside0.mk H
                            clear H
                            have p167 : 0 ≤ (x10_2 : Int) := of_decide_eq_true (by first | (with_reducible assumption) | assumption)
                            have q167 : x10_2 < (l0.length : Int) := of_decide_eq_true (by first | (with_reducible assumption) | assumption)
                            obtain ⟨ad167, e167, hx167_0, hx167_1, hx167_2, hx167_3⟩ := at_T38 HR0.out x10_2 p167 q167
                            cases e167
                            replace hx167_0 := (HB.out.cell (World.block_lt_of_cell? w _ hx167_0)).trans hx167_0
                            replace hx167_1 := (HB.out.cell (World.block_lt_of_cell? w _ hx167_1)).trans hx167_1
                            replace hx167_2 := (HB.out.cell (World.block_lt_of_cell? w _ hx167_2)).trans hx167_2
                            replace hx167_3 := (HB.out.cell (World.block_lt_of_cell? w _ hx167_3)).trans hx167_3
                            replace p167 := eq_true p167
                            replace q167 := eq_true q167
                            have z0 : ∀ o, (wr.alloc o).cell? _ = _ := fun o => cell_alloc hx167_0
                            have z1 : ∀ o, (wr.alloc o).cell? _ = _ := fun o => cell_alloc hx167_1
                            have z2 : ∀ o, (wr.alloc o).cell? _ = _ := fun o => cell_alloc hx167_2
                            go_wp2_with (first | ((with_reducible refine gate_builtin (b := .append) (xs := #[.tmp 77, .tmp 79]) rfl ?_); at_builtin; (refine Kd.R_append k39 (w0 := w) w.heap.size rfl (.tmp 77) (.tmp 79) 28 39 (.agg #[(.int .i64 0), (.int .i64 0), (.string ⟨#[]⟩), (.int .i64 0)]) 40 rfl Tryd.underlying28 info39 rfl (by decide) (by omega) u9 x9_2 (⟨(rd_T38 l0 x10_2).f0, (rd_T38 l0 x10_2).f1, (⟨#[]⟩ : ByteArray), 0⟩ : S39) [.int .i64 ((rd_T38 l0 x10_2).f0), .int .i64 ((rd_T38 l0 x10_2).f1), .string (⟨#[]⟩ : ByteArray), .int .i64 0] (fun _ => True) (fun _ => False) rfl (by first | (go_simp; done) | (go_simp; rfl)) ?aP (fun _ hk => hk.elim) ?aF ?aO ?aB ?aS ?aL ?_); ((case aP => exact k39_mkM _ _ _ (⟨(rd_T38 l0 x10_2).f0, (rd_T38 l0 x10_2).f1, (⟨#[]⟩ : ByteArray), 0⟩ : S39))); ((case aB => exact HB.out.alloc HB.out.size _)); ((case aF => exact (fun _ _ => trivial))); ((case aO => exact Kd.R_alloc HO_9.out _)); ((case aS => exact (HB.out.alloc HB.out.size _).size)); (case aL => have := LMc37.out; omega); intro v131 w7 ho hb hg hat; (rw [← Ny178.out] at ho); have a7 := Kd.R_alloc HO_7.out (.cells #[.int .i64 ((rd_T38 l0 x10_2).f0), .int .i64 ((rd_T38 l0 x10_2).f1), .string (⟨#[]⟩ : ByteArray), .int .i64 0] 39); have a9 := Kd.R_alloc HO_9.out (.cells #[.int .i64 ((rd_T38 l0 x10_2).f0), .int .i64 ((rd_T38 l0 x10_2).f1), .string (⟨#[]⟩ : ByteArray), .int .i64 0] 39); have aK := blk_alloc BK163.out (.cells #[.int .i64 ((rd_T38 l0 x10_2).f0), .int .i64 ((rd_T38 l0 x10_2).f1), .string (⟨#[]⟩ : ByteArray), .int .i64 0] 39); (have n7 := Aside0.mk (Kd.R_over' a7 (Kd.R_typed a9) (by decide) hg)); (have nK := Aside0.mk (blk_grown aK hg (Kd.R_ne a9 aK (by decide)))); have nB := Aside0.mk hb; have nO := Aside0.mk ho; clear ho hb hg hat a7 a9 aK z0 z1 z2 HO_7 HO_9 BK163 HB))
                            go_roundg k2
                            case measure => have := HJ2.out; have := HK2.out; omega
                            case rel => exact ⟨y178, (wrap64 (x10_2 + 1)), (by first | rfl | (simp; done) | (simp [*]; done)), H', ⟨by have := HJ2.out; have := HK2.out; omega⟩, n7, nO, nK, nB⟩
                          · rw [if_neg c37] at H
                            exact absurd H (by simp)
                    · rw [if_neg c24] at H
                      have c24b0 : (((rd_T38 l0 x10_2).f0) == 1) = false := beq_eq_false_iff_ne.mpr c24
                      have c24b1 : (((rd_T38 l0 x10_2).f0) != 1) = true := bne_iff_ne.mpr c24
                      by_cases c42 : ((rd_T38 l0 x10_2).f0) = 2
                      · rw [if_pos c42] at H
                        have c42b0 : (((rd_T38 l0 x10_2).f0) == 2) = true := beq_iff_eq.mpr c42
                        have c42b1 : (((rd_T38 l0 x10_2).f0) != 2) = false := bne_eq_false_iff_eq.mpr c42
                        clear c42
                        by_cases c43 : x9_2.length < 3518437208883
                        · rw [if_pos c43] at H
                          have LMc43 := Aside0.mk c43
                          clear c43
                          obtain ⟨y182, hy182⟩ : ∃ y_ : List (S39), y_ = (x9_2 ++ [(⟨(rd_T38 l0 x10_2).f0, 0, (rd_T38 l0 x10_2).f2, 0⟩ : S39)]) := ⟨_, rfl⟩
                          replace H : (entrepotlaw19_JsonicBack.l0 k2 l0 a1 t158 y182 (wrap64 (x10_2 + 1)) t161 t162) = some r := by first | (rw [hy182]; with_reducible exact H) | (have H2_ := (Option.bind_some _ _).symm.trans H; rw [hy182]; with_reducible exact H2_) | (have H2_ := (Option.bind_some _ _).symm.trans H; with_reducible exact H2_) | with_reducible exact H | (rw [hy182]; exact H) | exact H
                          have Ny182 := Aside0.mk hy182
                          clear hy182
                          have H' := Aside0.mk H
                          clear H
                          have p167 : 0 ≤ (x10_2 : Int) := of_decide_eq_true (by first | (with_reducible assumption) | assumption)
                          have q167 : x10_2 < (l0.length : Int) := of_decide_eq_true (by first | (with_reducible assumption) | assumption)
                          obtain ⟨ad167, e167, hx167_0, hx167_1, hx167_2, hx167_3⟩ := at_T38 HR0.out x10_2 p167 q167
                          cases e167
                          replace hx167_0 := (HB.out.cell (World.block_lt_of_cell? w _ hx167_0)).trans hx167_0
                          replace hx167_1 := (HB.out.cell (World.block_lt_of_cell? w _ hx167_1)).trans hx167_1
                          replace hx167_2 := (HB.out.cell (World.block_lt_of_cell? w _ hx167_2)).trans hx167_2
                          replace hx167_3 := (HB.out.cell (World.block_lt_of_cell? w _ hx167_3)).trans hx167_3
                          replace p167 := eq_true p167
                          replace q167 := eq_true q167
                          have z0 : ∀ o, (wr.alloc o).cell? _ = _ := fun o => cell_alloc hx167_0
                          have z1 : ∀ o, (wr.alloc o).cell? _ = _ := fun o => cell_alloc hx167_1
                          have z2 : ∀ o, (wr.alloc o).cell? _ = _ := fun o => cell_alloc hx167_2
                          go_wp2_with (first | ((with_reducible refine gate_builtin (b := .append) (xs := #[.tmp 77, .tmp 79]) rfl ?_); at_builtin; (refine Kd.R_append k39 (w0 := w) w.heap.size rfl (.tmp 77) (.tmp 79) 28 39 (.agg #[(.int .i64 0), (.int .i64 0), (.string ⟨#[]⟩), (.int .i64 0)]) 40 rfl Tryd.underlying28 info39 rfl (by decide) (by omega) u9 x9_2 (⟨(rd_T38 l0 x10_2).f0, 0, (rd_T38 l0 x10_2).f2, 0⟩ : S39) [.int .i64 ((rd_T38 l0 x10_2).f0), .int .i64 0, .string ((rd_T38 l0 x10_2).f2), .int .i64 0] (fun _ => True) (fun _ => False) rfl (by first | (go_simp; done) | (go_simp; rfl)) ?aP (fun _ hk => hk.elim) ?aF ?aO ?aB ?aS ?aL ?_); ((case aP => exact k39_mkM _ _ _ (⟨(rd_T38 l0 x10_2).f0, 0, (rd_T38 l0 x10_2).f2, 0⟩ : S39))); ((case aB => exact HB.out.alloc HB.out.size _)); ((case aF => exact (fun _ _ => trivial))); ((case aO => exact Kd.R_alloc HO_9.out _)); ((case aS => exact (HB.out.alloc HB.out.size _).size)); (case aL => have := LMc43.out; omega); intro v131 w7 ho hb hg hat; (rw [← Ny182.out] at ho); have a7 := Kd.R_alloc HO_7.out (.cells #[.int .i64 ((rd_T38 l0 x10_2).f0), .int .i64 0, .string ((rd_T38 l0 x10_2).f2), .int .i64 0] 39); have a9 := Kd.R_alloc HO_9.out (.cells #[.int .i64 ((rd_T38 l0 x10_2).f0), .int .i64 0, .string ((rd_T38 l0 x10_2).f2), .int .i64 0] 39); have aK := blk_alloc BK163.out (.cells #[.int .i64 ((rd_T38 l0 x10_2).f0), .int .i64 0, .string ((rd_T38 l0 x10_2).f2), .int .i64 0] 39); (have n7 := Aside0.mk (Kd.R_over' a7 (Kd.R_typed a9) (by decide) hg)); (have nK := Aside0.mk (blk_grown aK hg (Kd.R_ne a9 aK (by decide)))); have nB := Aside0.mk hb; have nO := Aside0.mk ho; clear ho hb hg hat a7 a9 aK z0 z1 z2 HO_7 HO_9 BK163 HB))
                          go_roundg k2
                          case measure => have := HJ2.out; have := HK2.out; omega
                          case rel => exact ⟨y182, (wrap64 (x10_2 + 1)), (by first | rfl | (simp; done) | (simp [*]; done)), H', ⟨by have := HJ2.out; have := HK2.out; omega⟩, n7, nO, nK, nB⟩
                        · rw [if_neg c43] at H
                          exact absurd H (by simp)
                      · rw [if_neg c42] at H
                        have c42b0 : (((rd_T38 l0 x10_2).f0) == 2) = false := beq_eq_false_iff_ne.mpr c42
                        have c42b1 : (((rd_T38 l0 x10_2).f0) != 2) = true := bne_iff_ne.mpr c42
                        by_cases c48 : ((rd_T38 l0 x10_2).f0) = 6
                        · rw [if_pos c48] at H
                          have c48b0 : (((rd_T38 l0 x10_2).f0) == 6) = true := beq_iff_eq.mpr c48
                          have c48b1 : (((rd_T38 l0 x10_2).f0) != 6) = false := bne_eq_false_iff_eq.mpr c48
                          clear c48
                          by_cases c49 : x9_2.length < 3518437208883
                          · rw [if_pos c49] at H
                            have LMc49 := Aside0.mk c49
                            clear c49
                            obtain ⟨y186, hy186⟩ : ∃ y_ : List (S39), y_ = (x9_2 ++ [(⟨(rd_T38 l0 x10_2).f0, 0, (rd_T38 l0 x10_2).f2, 0⟩ : S39)]) := ⟨_, rfl⟩
                            replace H : (entrepotlaw19_JsonicBack.l0 k2 l0 a1 t158 y186 (wrap64 (x10_2 + 1)) t161 t162) = some r := by first | (rw [hy186]; with_reducible exact H) | (have H2_ := (Option.bind_some _ _).symm.trans H; rw [hy186]; with_reducible exact H2_) | (have H2_ := (Option.bind_some _ _).symm.trans H; with_reducible exact H2_) | with_reducible exact H | (rw [hy186]; exact H) | exact H
                            have Ny186 := Aside0.mk hy186
                            clear hy186
                            have H' := Aside0.mk H
                            clear H
                            have p167 : 0 ≤ (x10_2 : Int) := of_decide_eq_true (by first | (with_reducible assumption) | assumption)
                            have q167 : x10_2 < (l0.length : Int) := of_decide_eq_true (by first | (with_reducible assumption) | assumption)
                            obtain ⟨ad167, e167, hx167_0, hx167_1, hx167_2, hx167_3⟩ := at_T38 HR0.out x10_2 p167 q167
                            cases e167
                            replace hx167_0 := (HB.out.cell (World.block_lt_of_cell? w _ hx167_0)).trans hx167_0
                            replace hx167_1 := (HB.out.cell (World.block_lt_of_cell? w _ hx167_1)).trans hx167_1
                            replace hx167_2 := (HB.out.cell (World.block_lt_of_cell? w _ hx167_2)).trans hx167_2
                            replace hx167_3 := (HB.out.cell (World.block_lt_of_cell? w _ hx167_3)).trans hx167_3
                            replace p167 := eq_true p167
                            replace q167 := eq_true q167
                            have z0 : ∀ o, (wr.alloc o).cell? _ = _ := fun o => cell_alloc hx167_0
                            have z1 : ∀ o, (wr.alloc o).cell? _ = _ := fun o => cell_alloc hx167_1
                            have z2 : ∀ o, (wr.alloc o).cell? _ = _ := fun o => cell_alloc hx167_2
                            go_wp2_with (first | ((with_reducible refine gate_builtin (b := .append) (xs := #[.tmp 77, .tmp 79]) rfl ?_); at_builtin; (refine Kd.R_append k39 (w0 := w) w.heap.size rfl (.tmp 77) (.tmp 79) 28 39 (.agg #[(.int .i64 0), (.int .i64 0), (.string ⟨#[]⟩), (.int .i64 0)]) 40 rfl Tryd.underlying28 info39 rfl (by decide) (by omega) u9 x9_2 (⟨(rd_T38 l0 x10_2).f0, 0, (rd_T38 l0 x10_2).f2, 0⟩ : S39) [.int .i64 ((rd_T38 l0 x10_2).f0), .int .i64 0, .string ((rd_T38 l0 x10_2).f2), .int .i64 0] (fun _ => True) (fun _ => False) rfl (by first | (go_simp; done) | (go_simp; rfl)) ?aP (fun _ hk => hk.elim) ?aF ?aO ?aB ?aS ?aL ?_); ((case aP => exact k39_mkM _ _ _ (⟨(rd_T38 l0 x10_2).f0, 0, (rd_T38 l0 x10_2).f2, 0⟩ : S39))); ((case aB => exact HB.out.alloc HB.out.size _)); ((case aF => exact (fun _ _ => trivial))); ((case aO => exact Kd.R_alloc HO_9.out _)); ((case aS => exact (HB.out.alloc HB.out.size _).size)); (case aL => have := LMc49.out; omega); intro v131 w7 ho hb hg hat; (rw [← Ny186.out] at ho); have a7 := Kd.R_alloc HO_7.out (.cells #[.int .i64 ((rd_T38 l0 x10_2).f0), .int .i64 0, .string ((rd_T38 l0 x10_2).f2), .int .i64 0] 39); have a9 := Kd.R_alloc HO_9.out (.cells #[.int .i64 ((rd_T38 l0 x10_2).f0), .int .i64 0, .string ((rd_T38 l0 x10_2).f2), .int .i64 0] 39); have aK := blk_alloc BK163.out (.cells #[.int .i64 ((rd_T38 l0 x10_2).f0), .int .i64 0, .string ((rd_T38 l0 x10_2).f2), .int .i64 0] 39); (have n7 := Aside0.mk (Kd.R_over' a7 (Kd.R_typed a9) (by decide) hg)); (have nK := Aside0.mk (blk_grown aK hg (Kd.R_ne a9 aK (by decide)))); have nB := Aside0.mk hb; have nO := Aside0.mk ho; clear ho hb hg hat a7 a9 aK z0 z1 z2 HO_7 HO_9 BK163 HB))
                            go_roundg k2
                            case measure => have := HJ2.out; have := HK2.out; omega
                            case rel => exact ⟨y186, (wrap64 (x10_2 + 1)), (by first | rfl | (simp; done) | (simp [*]; done)), H', ⟨by have := HJ2.out; have := HK2.out; omega⟩, n7, nO, nK, nB⟩
                          · rw [if_neg c49] at H
                            exact absurd H (by simp)
                        · rw [if_neg c48] at H
                          have c48b0 : (((rd_T38 l0 x10_2).f0) == 6) = false := beq_eq_false_iff_ne.mpr c48
                          have c48b1 : (((rd_T38 l0 x10_2).f0) != 6) = true := bne_iff_ne.mpr c48
                          by_cases c54 : x9_2.length < 3518437208883
                          · rw [if_pos c54] at H
                            have LMc54 := Aside0.mk c54
                            clear c54
                            obtain ⟨y189, hy189⟩ : ∃ y_ : List (S39), y_ = (x9_2 ++ [(⟨(rd_T38 l0 x10_2).f0, 0, (⟨#[]⟩ : ByteArray), 0⟩ : S39)]) := ⟨_, rfl⟩
                            replace H : (entrepotlaw19_JsonicBack.l0 k2 l0 a1 t158 y189 (wrap64 (x10_2 + 1)) t161 t162) = some r := by first | (rw [hy189]; with_reducible exact H) | (have H2_ := (Option.bind_some _ _).symm.trans H; rw [hy189]; with_reducible exact H2_) | (have H2_ := (Option.bind_some _ _).symm.trans H; with_reducible exact H2_) | with_reducible exact H | (rw [hy189]; exact H) | exact H
                            have Ny189 := Aside0.mk hy189
                            clear hy189
                            have H' := Aside0.mk H
                            clear H
                            have p167 : 0 ≤ (x10_2 : Int) := of_decide_eq_true (by first | (with_reducible assumption) | assumption)
                            have q167 : x10_2 < (l0.length : Int) := of_decide_eq_true (by first | (with_reducible assumption) | assumption)
                            obtain ⟨ad167, e167, hx167_0, hx167_1, hx167_2, hx167_3⟩ := at_T38 HR0.out x10_2 p167 q167
                            cases e167
                            replace hx167_0 := (HB.out.cell (World.block_lt_of_cell? w _ hx167_0)).trans hx167_0
                            replace hx167_1 := (HB.out.cell (World.block_lt_of_cell? w _ hx167_1)).trans hx167_1
                            replace hx167_2 := (HB.out.cell (World.block_lt_of_cell? w _ hx167_2)).trans hx167_2
                            replace hx167_3 := (HB.out.cell (World.block_lt_of_cell? w _ hx167_3)).trans hx167_3
                            replace p167 := eq_true p167
                            replace q167 := eq_true q167
                            have z0 : ∀ o, (wr.alloc o).cell? _ = _ := fun o => cell_alloc hx167_0
                            have z1 : ∀ o, (wr.alloc o).cell? _ = _ := fun o => cell_alloc hx167_1
                            have z2 : ∀ o, (wr.alloc o).cell? _ = _ := fun o => cell_alloc hx167_2
                            go_wp2_with (first | ((with_reducible refine gate_builtin (b := .append) (xs := #[.tmp 77, .tmp 79]) rfl ?_); at_builtin; (refine Kd.R_append k39 (w0 := w) w.heap.size rfl (.tmp 77) (.tmp 79) 28 39 (.agg #[(.int .i64 0), (.int .i64 0), (.string ⟨#[]⟩), (.int .i64 0)]) 40 rfl Tryd.underlying28 info39 rfl (by decide) (by omega) u9 x9_2 (⟨(rd_T38 l0 x10_2).f0, 0, (⟨#[]⟩ : ByteArray), 0⟩ : S39) [.int .i64 ((rd_T38 l0 x10_2).f0), .int .i64 0, .string (⟨#[]⟩ : ByteArray), .int .i64 0] (fun _ => True) (fun _ => False) rfl (by first | (go_simp; done) | (go_simp; rfl)) ?aP (fun _ hk => hk.elim) ?aF ?aO ?aB ?aS ?aL ?_); ((case aP => exact k39_mkM _ _ _ (⟨(rd_T38 l0 x10_2).f0, 0, (⟨#[]⟩ : ByteArray), 0⟩ : S39))); ((case aB => exact HB.out.alloc HB.out.size _)); ((case aF => exact (fun _ _ => trivial))); ((case aO => exact Kd.R_alloc HO_9.out _)); ((case aS => exact (HB.out.alloc HB.out.size _).size)); (case aL => have := LMc54.out; omega); intro v131 w7 ho hb hg hat; (rw [← Ny189.out] at ho); have a7 := Kd.R_alloc HO_7.out (.cells #[.int .i64 ((rd_T38 l0 x10_2).f0), .int .i64 0, .string (⟨#[]⟩ : ByteArray), .int .i64 0] 39); have a9 := Kd.R_alloc HO_9.out (.cells #[.int .i64 ((rd_T38 l0 x10_2).f0), .int .i64 0, .string (⟨#[]⟩ : ByteArray), .int .i64 0] 39); have aK := blk_alloc BK163.out (.cells #[.int .i64 ((rd_T38 l0 x10_2).f0), .int .i64 0, .string (⟨#[]⟩ : ByteArray), .int .i64 0] 39); (have n7 := Aside0.mk (Kd.R_over' a7 (Kd.R_typed a9) (by decide) hg)); (have nK := Aside0.mk (blk_grown aK hg (Kd.R_ne a9 aK (by decide)))); have nB := Aside0.mk hb; have nO := Aside0.mk ho; clear ho hb hg hat a7 a9 aK z0 z1 z2 HO_7 HO_9 BK163 HB))
                            go_roundg k2
                            case measure => have := HJ2.out; have := HK2.out; omega
                            case rel => exact ⟨y189, (wrap64 (x10_2 + 1)), (by first | rfl | (simp; done) | (simp [*]; done)), H', ⟨by have := HJ2.out; have := HK2.out; omega⟩, n7, nO, nK, nB⟩
                          · rw [if_neg c54] at H
                            exact absurd H (by simp)
                  · rw [if_neg c23] at H
                    exact absurd H (by simp)
                · rw [if_neg c22] at H
                  have c22b0 : decide (x10_2 < (l0.length : Int)) = false := decide_eq_false c22
                  clear c22
                  (first | rw [c22b0] | (simp only [i64_w, i32_w]; rw [c22b0]) | skip)
                  by_cases c59 : (!(t161 == 0) || (!(t162 == 0))) = true
                  · rw [if_pos c59] at H
                    have c59b0 : (!(t161 == 0) || (!(t162 == 0))) = true := c59
                    clear c59
                    obtain rfl := Option.some.inj H
                    have hcz60_0 : wr.cell? ⟨gb163, 0, none⟩ = some (.int .i64 t161) := (blk_cell BK163.out 0).trans rfl
                    have hcz60_1 : wr.cell? ⟨gb163, 1, none⟩ = some (.int .i64 t162) := (blk_cell BK163.out 1).trans rfl
                    have hfz60_0 := blk_frozen BK163.out 0
                    have hfz60_1 := blk_frozen BK163.out 1
                    go_wp2
                    go_ret
                    exact ⟨by first | rfl | (simp [errW_none, errW_some] <;> rfl) | (simp [*, errW_none, errW_some] <;> rfl), by repeat (first | (with_reducible first | exact HB.out | apply below_alloc | apply pw_below_drewN | apply below_drew1 | refine below_set ?_ GE163.out) | exact HB.out)⟩
                  · rw [if_neg c59] at H
                    have c59b0 : (!(t161 == 0) || (!(t162 == 0))) = false := by simpa using c59
                    clear c59
                    replace H := Option.bind_eq_some_iff.mp H
                    obtain ⟨t192, A610, H⟩ := H
                    replace H : ((entrepotref19_Same.f k2 t192 x9_2).bind fun t195 => (if t195 = true then (entrepotlaw19_JsonicBack.j2 k2 a1) else (some false))) = some r := H
                    have A61 := Aside0.mk A610
                    clear A610
                    replace H := Option.bind_eq_some_iff.mp H
                    obtain ⟨t195, A620, H⟩ := H
                    replace H : (if t195 = true then (entrepotlaw19_JsonicBack.j2 k2 a1) else (some false)) = some r := H
                    have A62 := Aside0.mk A620
                    clear A620
                    by_cases c63 : t195 = true
                    · subst c63
                      have H1 : (entrepotlaw19_JsonicBack.j2 k2 a1) = some r := by rw [if_pos rfl] at H; exact H
                      clear H
                      have H := H1
                      clear H1
                      have H' := Aside0.mk H
                      clear H
                      have hcz64_0 : wr.cell? ⟨gb163, 0, none⟩ = some (.int .i64 t161) := (blk_cell BK163.out 0).trans rfl
                      have hcz64_1 : wr.cell? ⟨gb163, 1, none⟩ = some (.int .i64 t162) := (blk_cell BK163.out 1).trans rfl
                      have hfz64_0 := blk_frozen BK163.out 0
                      have hfz64_1 := blk_frozen BK163.out 1
                      obtain ⟨Ao65, co65, eo65⟩ := Kd.R_slice HO_7.out
                      subst eo65
                      go_wp2_with (first | (go_at_call 17; (with_reducible refine (entrepotlaw19_placeless.calls k2 _ _ t158 t192 _ ?side1 ?side2 A61.out).mono ?_); (case side1 => repeat (first | exact (Kd.R_reads' HO_7.out).2.2 | (with_reducible refine Kd.C_alloc ?_ _) | (with_reducible refine Kd.C_drewN ?_ _) | (with_reducible refine Kd.C_drew ?_))); (case side2 => exact (Kd.R_reads' HO_7.out).2.1); rintro e w66 ⟨v193, rfl, ho0, hb⟩; have n0_ := Aside0.mk (Kd.R_below (by (with_reducible repeat (first | apply Kd.R_alloc | apply Kd.R_drewN | apply Kd.R_drew)); exact HO_7.out) hb); have n1_ := Aside0.mk (Kd.R_elder' (by (with_reducible repeat (first | apply Kd.R_alloc | apply Kd.R_drewN | apply Kd.R_drew)); exact HO_9.out) (Kd.R_base ho0) hb); have n2_ := Aside0.mk (Kd.R_lower (Kd.R_new' ho0 (Kd.R_lt (by (with_reducible repeat (first | apply Kd.R_alloc | apply Kd.R_drewN | apply Kd.R_drew)); exact HO_9.out))) (below_size (by repeat (first | (with_reducible first | exact HB.out | apply below_alloc | apply pw_below_drewN | apply below_drew1 | refine below_set ?_ GE163.out) | exact HB.out)))); have n3_ := Aside0.mk (blk_below (g := gb163) (o := .cells #[.int .i64 t161, .int .i64 t162] 34 (0, 0)) (by (with_reducible repeat (first | refine blk_drewN ?_ _ | refine blk_drew ?_ | refine blk_alloc ?_ _)); exact BK163.out) hb); have n4_ := Aside0.mk (below_step (by repeat (first | (with_reducible first | exact HB.out | apply below_alloc | apply pw_below_drewN | apply below_drew1 | refine below_set ?_ GE163.out) | exact HB.out)) hb); clear HO_7; clear HO_9; clear BK163; clear HB; have HO_7 := n0_; have HO_9 := n1_; have HO194 := n2_; have BK163 := n3_; have HB := n4_; clear n0_ n1_ n2_ n3_ n4_; (try clear hb); (try clear hb2); (try clear hk); (try clear hi); (try clear ho0); obtain ⟨Ao67, co67, eo67⟩ := Kd.R_slice HO194.out; subst eo67; obtain ⟨Ao68, co68, eo68⟩ := Kd.R_slice HO_9.out; subst eo68) | (go_at_call 16; (with_reducible refine (entrepotref19_Same.calls k2 _ _ t192 _ _ x9_2 true _ ?side1 ?side2 ?side3 ?side4 A62.out).mono ?_); (case side1 => repeat (first | exact (Kd.R_reads' HO194.out).2.2 | (with_reducible refine Kd.C_alloc ?_ _) | (with_reducible refine Kd.C_drewN ?_ _) | (with_reducible refine Kd.C_drew ?_))); (case side2 => exact (Kd.R_reads' HO194.out).2.1); (case side3 => repeat (first | exact (Kd.R_reads' HO_9.out).2.2 | (with_reducible refine Kd.C_alloc ?_ _) | (with_reducible refine Kd.C_drewN ?_ _) | (with_reducible refine Kd.C_drew ?_))); (case side4 => exact (Kd.R_reads' HO_9.out).2.1); rintro e w' ⟨rfl, ⟨nd, rfl⟩⟩))
                      go_meet
                      case rel => exact ⟨_, H', ⟨by have := HJ2.out; have := HK2.out; first | omega | exact Nat.le_refl _⟩, ⟨by repeat (first | (with_reducible first | exact HB.out | apply below_alloc | apply pw_below_drewN | apply below_drew1 | refine below_set ?_ GE163.out) | exact HB.out)⟩⟩
                    · replace c63 := Bool.eq_false_iff.mpr c63
                      subst c63
                      have H1 : (some false) = some r := by rw [if_neg (show ¬ (false = true) by decide)] at H; exact H
                      clear H
                      have H := H1
                      clear H1
                      obtain rfl := Option.some.inj H
                      have hcz69_0 : wr.cell? ⟨gb163, 0, none⟩ = some (.int .i64 t161) := (blk_cell BK163.out 0).trans rfl
                      have hcz69_1 : wr.cell? ⟨gb163, 1, none⟩ = some (.int .i64 t162) := (blk_cell BK163.out 1).trans rfl
                      have hfz69_0 := blk_frozen BK163.out 0
                      have hfz69_1 := blk_frozen BK163.out 1
                      obtain ⟨Ao70, co70, eo70⟩ := Kd.R_slice HO_7.out
                      subst eo70
                      go_wp2_with (first | (go_at_call 17; (with_reducible refine (entrepotlaw19_placeless.calls k2 _ _ t158 t192 _ ?side1 ?side2 A61.out).mono ?_); (case side1 => repeat (first | exact (Kd.R_reads' HO_7.out).2.2 | (with_reducible refine Kd.C_alloc ?_ _) | (with_reducible refine Kd.C_drewN ?_ _) | (with_reducible refine Kd.C_drew ?_))); (case side2 => exact (Kd.R_reads' HO_7.out).2.1); rintro e w71 ⟨v193, rfl, ho0, hb⟩; have n0_ := Aside0.mk (Kd.R_below (by (with_reducible repeat (first | apply Kd.R_alloc | apply Kd.R_drewN | apply Kd.R_drew)); exact HO_7.out) hb); have n1_ := Aside0.mk (Kd.R_elder' (by (with_reducible repeat (first | apply Kd.R_alloc | apply Kd.R_drewN | apply Kd.R_drew)); exact HO_9.out) (Kd.R_base ho0) hb); have n2_ := Aside0.mk (Kd.R_lower (Kd.R_new' ho0 (Kd.R_lt (by (with_reducible repeat (first | apply Kd.R_alloc | apply Kd.R_drewN | apply Kd.R_drew)); exact HO_9.out))) (below_size (by repeat (first | (with_reducible first | exact HB.out | apply below_alloc | apply pw_below_drewN | apply below_drew1 | refine below_set ?_ GE163.out) | exact HB.out)))); have n3_ := Aside0.mk (blk_below (g := gb163) (o := .cells #[.int .i64 t161, .int .i64 t162] 34 (0, 0)) (by (with_reducible repeat (first | refine blk_drewN ?_ _ | refine blk_drew ?_ | refine blk_alloc ?_ _)); exact BK163.out) hb); have n4_ := Aside0.mk (below_step (by repeat (first | (with_reducible first | exact HB.out | apply below_alloc | apply pw_below_drewN | apply below_drew1 | refine below_set ?_ GE163.out) | exact HB.out)) hb); clear HO_7; clear HO_9; clear BK163; clear HB; have HO_7 := n0_; have HO_9 := n1_; have HO194 := n2_; have BK163 := n3_; have HB := n4_; clear n0_ n1_ n2_ n3_ n4_; (try clear hb); (try clear hb2); (try clear hk); (try clear hi); (try clear ho0); obtain ⟨Ao72, co72, eo72⟩ := Kd.R_slice HO194.out; subst eo72; obtain ⟨Ao73, co73, eo73⟩ := Kd.R_slice HO_9.out; subst eo73) | (go_at_call 16; (with_reducible refine (entrepotref19_Same.calls k2 _ _ t192 _ _ x9_2 false _ ?side1 ?side2 ?side3 ?side4 A62.out).mono ?_); (case side1 => repeat (first | exact (Kd.R_reads' HO194.out).2.2 | (with_reducible refine Kd.C_alloc ?_ _) | (with_reducible refine Kd.C_drewN ?_ _) | (with_reducible refine Kd.C_drew ?_))); (case side2 => exact (Kd.R_reads' HO194.out).2.1); (case side3 => repeat (first | exact (Kd.R_reads' HO_9.out).2.2 | (with_reducible refine Kd.C_alloc ?_ _) | (with_reducible refine Kd.C_drewN ?_ _) | (with_reducible refine Kd.C_drew ?_))); (case side4 => exact (Kd.R_reads' HO_9.out).2.1); rintro e w' ⟨rfl, ⟨nd, rfl⟩⟩))
                      go_ret
                      exact ⟨by first | rfl | (simp [errW_none, errW_some] <;> rfl) | (simp [*, errW_none, errW_some] <;> rfl), by repeat (first | (with_reducible first | exact HB.out | apply below_alloc | apply pw_below_drewN | apply below_drew1 | refine below_set ?_ GE163.out) | exact HB.out)⟩
          · replace c15 := Bool.eq_false_iff.mpr c15
            subst c15
            have H1 : (entrepotlaw19_JsonicBack.j2 kj2 a1) = some r := by rw [if_neg (show ¬ (false = true) by decide)] at H; exact H
            clear H
            have H := H1
            clear H1
            have H' := Aside0.mk H
            clear H
            go_wp2
            go_meet
            case rel => exact ⟨_, H', ⟨by have := HJ2.out; first | omega | exact Nat.le_refl _⟩, ⟨by repeat (first | (with_reducible first | exact HB.out | apply below_alloc | apply pw_below_drewN | apply below_drew1) | exact HB.out)⟩⟩
        case rest =>
          clear HC13
          try clear c1
          try clear p1
          try clear q1
          try clear hx1
          try clear c2
          try clear p2
          try clear c3
          try clear c4
          try clear c5
          try clear c6
          try clear c6b0
          try clear c6b1
          try clear p6
          try clear c8
          try clear c9
          try clear c10
          try clear c15
          try clear p16
          try clear q16
          try clear hx16
          try clear p17
          try clear q17
          try clear hx17
          try clear p18
          try clear q18
          try clear hx18
          try clear c22
          try clear c22b0
          try clear c23
          try clear c23b0
          try clear c24
          try clear c24b0
          try clear c24b1
          try clear c25
          try clear c25b0
          try clear c25b1
          try clear c26
          try clear c28
          try clear c31
          try clear c31b0
          try clear c31b1
          try clear c32
          try clear c34
          try clear c37
          try clear c39
          try clear c42
          try clear c42b0
          try clear c42b1
          try clear c43
          try clear c45
          try clear c48
          try clear c48b0
          try clear c48b1
          try clear c49
          try clear c51
          try clear c54
          try clear c56
          try clear c59
          try clear c59b0
          try clear c63
          try clear p64
          try clear hcz19_0
          try clear hcz19_1
          try clear hcz29_0
          try clear hcz29_1
          try clear hcz29_2
          try clear hcz29_3
          try clear hcz35_0
          try clear hcz35_1
          try clear hcz35_2
          try clear hcz35_3
          try clear hcz40_0
          try clear hcz40_1
          try clear hcz40_2
          try clear hcz40_3
          try clear hcz46_0
          try clear hcz46_1
          try clear hcz46_2
          try clear hcz46_3
          try clear hcz52_0
          try clear hcz52_1
          try clear hcz52_2
          try clear hcz52_3
          try clear hcz57_0
          try clear hcz57_1
          try clear hcz57_2
          try clear hcz57_3
          try clear hcz60_0
          try clear hcz60_1
          try clear hcz64_0
          try clear hcz64_1
          try clear hcz69_0
          try clear hcz69_1
          try clear hfz19_0
          try clear hfz19_1
          try clear hfz29_0
          try clear hfz29_1
          try clear hfz29_2
          try clear hfz29_3
          try clear hfz35_0
          try clear hfz35_1
          try clear hfz35_2
          try clear hfz35_3
          try clear hfz40_0
          try clear hfz40_1
          try clear hfz40_2
          try clear hfz40_3
          try clear hfz46_0
          try clear hfz46_1
          try clear hfz46_2
          try clear hfz46_3
          try clear hfz52_0
          try clear hfz52_1
          try clear hfz52_2
          try clear hfz52_3
          try clear hfz57_0
          try clear hfz57_1
          try clear hfz57_2
          try clear hfz57_3
          try clear hfz60_0
          try clear hfz60_1
          try clear hfz64_0
          try clear hfz64_1
          try clear hfz69_0
          try clear hfz69_1
          try clear hx167_0
          try clear hx167_1
          try clear hx167_2
          try clear hx167_3
          try clear hx169_0
          try clear hx169_1
          try clear hx169_2
          try clear hx169_3
          try clear hx170_0
          try clear hx170_1
          try clear hx170_2
          try clear hx170_3
          try clear hx174_0
          try clear hx174_1
          try clear hx174_2
          try clear hx174_3
          try clear hx181_0
          try clear hx181_1
          try clear hx181_2
          try clear hx181_3
          try clear hx185_0
          try clear hx185_1
          try clear hx185_2
          try clear hx185_3
          try clear p167
          try clear p169
          try clear p170
          try clear p174
          try clear p181
          try clear p185
          try clear p2
          try clear q167
          try clear q169
          try clear q170
          try clear q174
          try clear q181
          try clear q185
          obtain ⟨kq, HA, HJ12, HB⟩ := hcut
          cases kq with
          | zero => exact absurd HA.out (by simp [entrepotlaw19_JsonicBack.j2])
          | succ kj12 =>
            have H := HA.out
            clear HA
            simp only [entrepotlaw19_JsonicBack.j2] at H
            replace H := Option.bind_eq_some_iff.mp H
            obtain ⟨⟨t196, t199, t200⟩, A740, H⟩ := H
            replace H : (if t200 = 0 then ((jsonic_Print.f t196).bind fun bt202 => ((jsonic_Parse.f bt202.1).bind fun bt204 => (if bt202.2 = true then (if (bt204.2.1 == 0 && (bt204.2.2 == 0)) = true then ((entrepotlaw19_placeless.f kj12 t196).bind fun t210 => ((entrepotlaw19_placeless.f kj12 bt204.1).bind fun t213 => ((entrepotref19_Same.f kj12 t210 t213).bind fun t216 => (some t216)))) else (some false)) else (some false)))) else (some ((t196.length : Int) == 0))) = some r := H
            have A74 := Aside0.mk A740
            clear A740
            by_cases c75 : t200 = 0
            · rw [if_pos c75] at H
              have c75b0 : (t200 == 0) = true := beq_iff_eq.mpr c75
              have c75b1 : (t200 != 0) = false := bne_eq_false_iff_eq.mpr c75
              clear c75
              replace H := Option.bind_eq_some_iff.mp H
              obtain ⟨⟨t202, t203⟩, A760, H⟩ := H
              replace H : ((jsonic_Parse.f t202).bind fun bt204 => (if t203 = true then (if (bt204.2.1 == 0 && (bt204.2.2 == 0)) = true then ((entrepotlaw19_placeless.f kj12 t196).bind fun t210 => ((entrepotlaw19_placeless.f kj12 bt204.1).bind fun t213 => ((entrepotref19_Same.f kj12 t210 t213).bind fun t216 => (some t216)))) else (some false)) else (some false))) = some r := H
              have A76 := Aside0.mk A760
              clear A760
              replace H := Option.bind_eq_some_iff.mp H
              obtain ⟨⟨t204, t207, t208⟩, A770, H⟩ := H
              replace H : (if t203 = true then (if (t207 == 0 && (t208 == 0)) = true then ((entrepotlaw19_placeless.f kj12 t196).bind fun t210 => ((entrepotlaw19_placeless.f kj12 t204).bind fun t213 => ((entrepotref19_Same.f kj12 t210 t213).bind fun t216 => (some t216)))) else (some false)) else (some false)) = some r := H
              have A77 := Aside0.mk A770
              clear A770
              by_cases c78 : t203 = true
              · subst c78
                have H1 : (if (t207 == 0 && (t208 == 0)) = true then ((entrepotlaw19_placeless.f kj12 t196).bind fun t210 => ((entrepotlaw19_placeless.f kj12 t204).bind fun t213 => ((entrepotref19_Same.f kj12 t210 t213).bind fun t216 => (some t216)))) else (some false)) = some r := by rw [if_pos rfl] at H; exact H
                clear H
                have H := H1
                clear H1
                by_cases c79 : (t207 == 0 && (t208 == 0)) = true
                · rw [if_pos c79] at H
                  have c79b0 : (t207 == 0 && (t208 == 0)) = true := c79
                  (try (have c79b1 : decide (t207 = 0 && (t208 == 0)) = true := by simpa using c79))
                  (try (have c79b2 : (t207 == 0 && (t208 == 0)) = true := by simpa using c79))
                  clear c79
                  replace H := Option.bind_eq_some_iff.mp H
                  obtain ⟨t210, A800, H⟩ := H
                  replace H : ((entrepotlaw19_placeless.f kj12 t204).bind fun t213 => ((entrepotref19_Same.f kj12 t210 t213).bind fun t216 => (some t216))) = some r := H
                  have A80 := Aside0.mk A800
                  clear A800
                  replace H := Option.bind_eq_some_iff.mp H
                  obtain ⟨t213, A810, H⟩ := H
                  replace H : ((entrepotref19_Same.f kj12 t210 t213).bind fun t216 => (some t216)) = some r := H
                  have A81 := Aside0.mk A810
                  clear A810
                  replace H := Option.bind_eq_some_iff.mp H
                  obtain ⟨t216, A820, H⟩ := H
                  replace H : (some t216) = some r := H
                  have A82 := Aside0.mk A820
                  clear A820
                  obtain rfl := Option.some.inj H
                  go_wp2_with (first | ((with_reducible refine gate_callee (f := 15) rfl ?_); refine goesL_ (some 93) rfl rfl Tryd.func15 (by kernel_rfl) rfl #[.string a1] rfl (by (try simp only [List.map_toArray, List.map_cons, List.map_nil]); first | done | rfl | (simp only [List.length_drop, List.length_take]; rfl)) ?_; (with_reducible refine (jsonic_Parse.calls a1 t196 t199 t200 _ (Tab.below HT (by repeat (first | (with_reducible first | exact HB.out | apply below_alloc | apply pw_below_drewN | apply below_drew1) | exact HB.out))) A74.out).mono ?_); rintro e w83 ⟨v197, rfl, ho0, hb⟩; refine ⟨_, rfl, ?_⟩; have n0_ := Aside0.mk (Kd.R_lower ho0 (below_size (by repeat (first | (with_reducible first | exact HB.out | apply below_alloc | apply pw_below_drewN | apply below_drew1) | exact HB.out)))); have n1_ := Aside0.mk (below_step (by repeat (first | (with_reducible first | exact HB.out | apply below_alloc | apply pw_below_drewN | apply below_drew1) | exact HB.out)) hb); clear HB; have HO198 := n0_; have HB := n1_; clear n0_ n1_; (try clear hb); (try clear hb2); (try clear hk); (try clear hi); (try clear ho0)) | ((with_reducible refine gate_dst (N := 13) rfl ?_); (try (refine gate_guard (by rfl) ?_; dsimp only)); refine box_event ?hg (N := 13) ?hd (cs := #[.int .i64 0, .int .i64 0]) (t := 34) ?hr ?_; (case hd => rfl); (case hg => rfl); (case hr => first | (go_simp; done) | (go_simp; rfl)); intro gb201 hg w84 hbox hb; have n0_ := Aside0.mk (Kd.R_below (by (with_reducible repeat (first | apply Kd.R_alloc | apply Kd.R_drewN | apply Kd.R_drew)); exact HO198.out) hb); have n1_ := Aside0.mk (below_step (by repeat (first | (with_reducible first | exact HB.out | apply below_alloc | apply pw_below_drewN | apply below_drew1) | exact HB.out)) hb); have n2_ := Aside0.mk (hbox); have n3_ := Aside0.mk ((by rw [hg]; exact (below_size (by repeat (first | (with_reducible first | exact HB.out | apply below_alloc | apply pw_below_drewN | apply below_drew1) | exact HB.out))) : w.heap.size ≤ gb201)); have n4_ := Aside0.mk ((by rw [hg]; exact (below_size (by repeat (first | (with_reducible first | exact HB.out | apply below_alloc | apply pw_below_drewN | apply below_drew1) | exact HB.out))) : w.heap.size ≤ gb201)); clear HO198; clear HB; have HO198 := n0_; have HB := n1_; have BK201 := n2_; have GW201 := n3_; have GE201 := n4_; clear n0_ n1_ n2_ n3_ n4_; clear hb hbox hg; have hcz85_0 : w84.cell? ⟨gb201, 0, none⟩ = some (.int .i64 0) := (blk_cell BK201.out 0).trans rfl; have hcz85_1 : w84.cell? ⟨gb201, 1, none⟩ = some (.int .i64 0) := (blk_cell BK201.out 1).trans rfl; have hfz85_0 := blk_frozen BK201.out 0; have hfz85_1 := blk_frozen BK201.out 1; obtain ⟨Ao86, co86, eo86⟩ := Kd.R_slice HO198.out; subst eo86) | ((with_reducible refine gate_callee (f := 10) rfl ?_); refine goesL_ (some 104) rfl rfl Tryd.func10 (by kernel_rfl) rfl #[.slice Ao86 t196.length co86] rfl (by (try simp only [List.map_toArray, List.map_cons, List.map_nil]); first | done | rfl | (simp only [List.length_drop, List.length_take]; rfl)) ?_; (with_reducible refine (jsonic_Print.calls _ _ t196 t202 true _ (Tab.below HT (by repeat (first | (with_reducible first | exact HB.out | apply below_alloc | apply pw_below_drewN | apply below_drew1 | refine below_set ?_ GE201.out) | exact HB.out))) ?side1 ?side2 A76.out).mono ?_); (case side1 => refine (Kd.R_reads' (e := 38) (base := w.heap.size) (ok := fun k_ => True) (n := t196.length) (c := co86) ?_).2.2; exact (by (with_reducible repeat (first | apply Kd.R_alloc | apply Kd.R_drewN | apply Kd.R_drew)); exact (Kd.R_mono (Kd.R_far (p := ⟨gb201, 1, none⟩) (Kd.R_far (p := ⟨gb201, 0, none⟩) (Kd.R_types HO198.out BK201.out (by decide)) (fun _ hk => hk.2) (.int .i64 t199)) (fun _ hk => hk.2) (.int .i64 t200)) (fun _ h_ => h_.1)))); (case side2 => exact (Kd.R_reads' HO198.out).2.1); rintro e w87 ⟨rfl, hb⟩; refine ⟨_, rfl, ?_⟩; have n0_ := Aside0.mk (Kd.R_below (by (with_reducible repeat (first | apply Kd.R_alloc | apply Kd.R_drewN | apply Kd.R_drew)); exact (Kd.R_mono (Kd.R_far (p := ⟨gb201, 1, none⟩) (Kd.R_far (p := ⟨gb201, 0, none⟩) (Kd.R_types HO198.out BK201.out (by decide)) (fun _ hk => hk.2) (.int .i64 t199)) (fun _ hk => hk.2) (.int .i64 t200)) (fun _ h_ => h_.1))) hb); have n1_ := Aside0.mk (blk_below (g := gb201) (o := .cells #[.int .i64 t199, .int .i64 t200] 34 (0, 0)) (by (with_reducible repeat (first | refine blk_drewN ?_ _ | refine blk_drew ?_ | refine blk_alloc ?_ _)); refine blk_put (cs := #[.int .i64 t199, .int .i64 0]) ?_ 1 _ rfl; (with_reducible repeat (first | refine blk_drewN ?_ _ | refine blk_drew ?_ | refine blk_alloc ?_ _)); refine blk_put (cs := #[.int .i64 0, .int .i64 0]) ?_ 0 _ rfl; (with_reducible repeat (first | refine blk_drewN ?_ _ | refine blk_drew ?_ | refine blk_alloc ?_ _)); exact BK201.out) hb); have n2_ := Aside0.mk (below_step (by repeat (first | (with_reducible first | exact HB.out | apply below_alloc | apply pw_below_drewN | apply below_drew1 | refine below_set ?_ GE201.out) | exact HB.out)) hb); clear HO198; clear BK201; clear HB; have HO198 := n0_; have BK201 := n1_; have HB := n2_; clear n0_ n1_ n2_; (try clear hb); (try clear hb2); (try clear hk); (try clear hi)) | ((with_reducible refine gate_callee (f := 15) rfl ?_); refine goesL_ (some 109) rfl rfl Tryd.func15 (by kernel_rfl) rfl #[.string t202] rfl (by (try simp only [List.map_toArray, List.map_cons, List.map_nil]); first | done | rfl | (simp only [List.length_drop, List.length_take]; rfl)) ?_; (with_reducible refine (jsonic_Parse.calls t202 t204 t207 t208 _ (Tab.below HT (by repeat (first | (with_reducible first | exact HB.out | apply below_alloc | apply pw_below_drewN | apply below_drew1 | refine below_set ?_ GE201.out) | exact HB.out))) A77.out).mono ?_); rintro e w88 ⟨v205, rfl, ho0, hb⟩; refine ⟨_, rfl, ?_⟩; have n0_ := Aside0.mk (Kd.R_elder' (by (with_reducible repeat (first | apply Kd.R_alloc | apply Kd.R_drewN | apply Kd.R_drew)); exact HO198.out) (Kd.R_base ho0) hb); have n1_ := Aside0.mk (Kd.R_lower (Kd.R_new' ho0 (Kd.R_lt (by (with_reducible repeat (first | apply Kd.R_alloc | apply Kd.R_drewN | apply Kd.R_drew)); exact HO198.out))) (below_size (by repeat (first | (with_reducible first | exact HB.out | apply below_alloc | apply pw_below_drewN | apply below_drew1 | refine below_set ?_ GE201.out) | exact HB.out)))); have n2_ := Aside0.mk (blk_below (g := gb201) (o := .cells #[.int .i64 t199, .int .i64 t200] 34 (0, 0)) (by (with_reducible repeat (first | refine blk_drewN ?_ _ | refine blk_drew ?_ | refine blk_alloc ?_ _)); exact BK201.out) hb); have n3_ := Aside0.mk (below_step (by repeat (first | (with_reducible first | exact HB.out | apply below_alloc | apply pw_below_drewN | apply below_drew1 | refine below_set ?_ GE201.out) | exact HB.out)) hb); clear HO198; clear BK201; clear HB; have HO198 := n0_; have HO206 := n1_; have BK201 := n2_; have HB := n3_; clear n0_ n1_ n2_ n3_; (try clear hb); (try clear hb2); (try clear hk); (try clear hi); (try clear ho0)) | ((with_reducible refine gate_dst (N := 17) rfl ?_); (try (refine gate_guard (by rfl) ?_; dsimp only)); refine box_event ?hg (N := 17) ?hd (cs := #[.int .i64 0, .int .i64 0]) (t := 34) ?hr ?_; (case hd => rfl); (case hg => rfl); (case hr => first | (go_simp; done) | (go_simp; rfl)); intro gb209 hg w89 hbox hb; have n0_ := Aside0.mk (Kd.R_below (by (with_reducible repeat (first | apply Kd.R_alloc | apply Kd.R_drewN | apply Kd.R_drew)); exact HO198.out) hb); have n1_ := Aside0.mk (Kd.R_below (by (with_reducible repeat (first | apply Kd.R_alloc | apply Kd.R_drewN | apply Kd.R_drew)); exact HO206.out) hb); have n2_ := Aside0.mk (blk_below (g := gb201) (o := .cells #[.int .i64 t199, .int .i64 t200] 34 (0, 0)) (by (with_reducible repeat (first | refine blk_drewN ?_ _ | refine blk_drew ?_ | refine blk_alloc ?_ _)); exact BK201.out) hb); have n3_ := Aside0.mk (below_step (by repeat (first | (with_reducible first | exact HB.out | apply below_alloc | apply pw_below_drewN | apply below_drew1 | refine below_set ?_ GE201.out) | exact HB.out)) hb); have n4_ := Aside0.mk (hbox); have n5_ := Aside0.mk ((by rw [hg]; exact (below_size (by repeat (first | (with_reducible first | exact HB.out | apply below_alloc | apply pw_below_drewN | apply below_drew1 | refine below_set ?_ GE201.out) | exact HB.out))) : w.heap.size ≤ gb209)); have n6_ := Aside0.mk ((by rw [hg]; exact (below_size (by repeat (first | (with_reducible first | exact HB.out | apply below_alloc | apply pw_below_drewN | apply below_drew1 | refine below_set ?_ GE201.out) | exact HB.out))) : w.heap.size ≤ gb209)); have n7_ := Aside0.mk ((by rw [hg]; exact Nat.ne_of_lt (blk_lt (g := gb201) (o := .cells #[.int .i64 t199, .int .i64 t200] 34 (0, 0)) (by (with_reducible repeat (first | refine blk_drewN ?_ _ | refine blk_drew ?_ | refine blk_alloc ?_ _)); exact BK201.out)) : gb201 ≠ gb209)); have n8_ := Aside0.mk ((by rw [hg]; exact Nat.ne_of_gt (blk_lt (g := gb201) (o := .cells #[.int .i64 t199, .int .i64 t200] 34 (0, 0)) (by (with_reducible repeat (first | refine blk_drewN ?_ _ | refine blk_drew ?_ | refine blk_alloc ?_ _)); exact BK201.out)) : gb209 ≠ gb201)); clear HO198; clear HO206; clear BK201; clear HB; have HO198 := n0_; have HO206 := n1_; have BK201 := n2_; have HB := n3_; have BK209 := n4_; have GW209 := n5_; have GE209 := n6_; have NB201_209 := n7_; have NB209_201 := n8_; clear n0_ n1_ n2_ n3_ n4_ n5_ n6_ n7_ n8_; clear hb hbox hg; have hnb90 := NB209_201.out; have hnc90 := NB201_209.out; have hcz91_0 : w89.cell? ⟨gb209, 0, none⟩ = some (.int .i64 0) := (blk_cell BK209.out 0).trans rfl; have hcz91_1 : w89.cell? ⟨gb209, 1, none⟩ = some (.int .i64 0) := (blk_cell BK209.out 1).trans rfl; have hfz91_0 := blk_frozen BK209.out 0; have hfz91_1 := blk_frozen BK209.out 1) | (go_at_call 17; (with_reducible refine (entrepotlaw19_placeless.calls kj12 _ _ t196 t210 _ ?side1 ?side2 A80.out).mono ?_); (case side1 => refine (Kd.R_reads' (e := 38) (base := w.heap.size) (ok := fun k_ => (True ∧ some k_ ≠ (v205 : Value).ownBlock)) (n := t196.length) (c := co86) ?_).2.2; exact (by (with_reducible repeat (first | apply Kd.R_alloc | apply Kd.R_drewN | apply Kd.R_drew)); exact (Kd.R_mono (Kd.R_far (p := ⟨gb209, 1, none⟩) (Kd.R_far (p := ⟨gb209, 0, none⟩) (Kd.R_types HO198.out BK209.out (by decide)) (fun _ hk => hk.2) (.int .i64 t207)) (fun _ hk => hk.2) (.int .i64 t208)) (fun _ h_ => h_.1)))); (case side2 => exact (Kd.R_reads' HO198.out).2.1); rintro e w92 ⟨v211, rfl, ho0, hb⟩; have n0_ := Aside0.mk (Kd.R_below (by (with_reducible repeat (first | apply Kd.R_alloc | apply Kd.R_drewN | apply Kd.R_drew)); exact (Kd.R_mono (Kd.R_far (p := ⟨gb209, 1, none⟩) (Kd.R_far (p := ⟨gb209, 0, none⟩) (Kd.R_types HO198.out BK209.out (by decide)) (fun _ hk => hk.2) (.int .i64 t207)) (fun _ hk => hk.2) (.int .i64 t208)) (fun _ h_ => h_.1))) hb); have n1_ := Aside0.mk (Kd.R_below (by (with_reducible repeat (first | apply Kd.R_alloc | apply Kd.R_drewN | apply Kd.R_drew)); exact (Kd.R_mono (Kd.R_far (p := ⟨gb209, 1, none⟩) (Kd.R_far (p := ⟨gb209, 0, none⟩) (Kd.R_types HO206.out BK209.out (by decide)) (fun _ hk => hk.2) (.int .i64 t207)) (fun _ hk => hk.2) (.int .i64 t208)) (fun _ h_ => h_.1))) hb); have n2_ := Aside0.mk (Kd.R_lower ho0 (below_size (by repeat (first | (with_reducible first | exact HB.out | apply below_alloc | apply pw_below_drewN | apply below_drew1 | refine below_set ?_ GE201.out | refine below_set ?_ GE209.out) | exact HB.out)))); have n3_ := Aside0.mk (blk_below (g := gb201) (o := .cells #[.int .i64 t199, .int .i64 t200] 34 (0, 0)) (by (with_reducible repeat (first | refine blk_drewN ?_ _ | refine blk_drew ?_ | refine blk_alloc ?_ _)); refine blk_far ?_ NB201_209.out _; (with_reducible repeat (first | refine blk_drewN ?_ _ | refine blk_drew ?_ | refine blk_alloc ?_ _)); refine blk_far ?_ NB201_209.out _; (with_reducible repeat (first | refine blk_drewN ?_ _ | refine blk_drew ?_ | refine blk_alloc ?_ _)); exact BK201.out) hb); have n4_ := Aside0.mk (blk_below (g := gb209) (o := .cells #[.int .i64 t207, .int .i64 t208] 34 (0, 0)) (by (with_reducible repeat (first | refine blk_drewN ?_ _ | refine blk_drew ?_ | refine blk_alloc ?_ _)); refine blk_put (cs := #[.int .i64 t207, .int .i64 0]) ?_ 1 _ rfl; (with_reducible repeat (first | refine blk_drewN ?_ _ | refine blk_drew ?_ | refine blk_alloc ?_ _)); refine blk_put (cs := #[.int .i64 0, .int .i64 0]) ?_ 0 _ rfl; (with_reducible repeat (first | refine blk_drewN ?_ _ | refine blk_drew ?_ | refine blk_alloc ?_ _)); exact BK209.out) hb); have n5_ := Aside0.mk (below_step (by repeat (first | (with_reducible first | exact HB.out | apply below_alloc | apply pw_below_drewN | apply below_drew1 | refine below_set ?_ GE201.out | refine below_set ?_ GE209.out) | exact HB.out)) hb); clear HO198; clear HO206; clear BK201; clear BK209; clear HB; have HO198 := n0_; have HO206 := n1_; have HO212 := n2_; have BK201 := n3_; have BK209 := n4_; have HB := n5_; clear n0_ n1_ n2_ n3_ n4_ n5_; (try clear hb); (try clear hb2); (try clear hk); (try clear hi); (try clear ho0); obtain ⟨Ao93, co93, eo93⟩ := Kd.R_slice HO206.out; subst eo93) | (go_at_call 17; (with_reducible refine (entrepotlaw19_placeless.calls kj12 _ _ t204 t213 _ ?side1 ?side2 A81.out).mono ?_); (case side1 => repeat (first | exact (Kd.R_reads' HO206.out).2.2 | (with_reducible refine Kd.C_alloc ?_ _) | (with_reducible refine Kd.C_drewN ?_ _) | (with_reducible refine Kd.C_drew ?_))); (case side2 => exact (Kd.R_reads' HO206.out).2.1); rintro e w94 ⟨v214, rfl, ho0, hb⟩; have n0_ := Aside0.mk (Kd.R_below (by (with_reducible repeat (first | apply Kd.R_alloc | apply Kd.R_drewN | apply Kd.R_drew)); exact HO198.out) hb); have n1_ := Aside0.mk (Kd.R_below (by (with_reducible repeat (first | apply Kd.R_alloc | apply Kd.R_drewN | apply Kd.R_drew)); exact HO206.out) hb); have n2_ := Aside0.mk (Kd.R_elder' (by (with_reducible repeat (first | apply Kd.R_alloc | apply Kd.R_drewN | apply Kd.R_drew)); exact HO212.out) (Kd.R_base ho0) hb); have n3_ := Aside0.mk (Kd.R_lower (Kd.R_new' ho0 (Kd.R_lt (by (with_reducible repeat (first | apply Kd.R_alloc | apply Kd.R_drewN | apply Kd.R_drew)); exact HO212.out))) (below_size (by repeat (first | (with_reducible first | exact HB.out | apply below_alloc | apply pw_below_drewN | apply below_drew1 | refine below_set ?_ GE201.out | refine below_set ?_ GE209.out) | exact HB.out)))); have n4_ := Aside0.mk (blk_below (g := gb201) (o := .cells #[.int .i64 t199, .int .i64 t200] 34 (0, 0)) (by (with_reducible repeat (first | refine blk_drewN ?_ _ | refine blk_drew ?_ | refine blk_alloc ?_ _)); exact BK201.out) hb); have n5_ := Aside0.mk (blk_below (g := gb209) (o := .cells #[.int .i64 t207, .int .i64 t208] 34 (0, 0)) (by (with_reducible repeat (first | refine blk_drewN ?_ _ | refine blk_drew ?_ | refine blk_alloc ?_ _)); exact BK209.out) hb); have n6_ := Aside0.mk (below_step (by repeat (first | (with_reducible first | exact HB.out | apply below_alloc | apply pw_below_drewN | apply below_drew1 | refine below_set ?_ GE201.out | refine below_set ?_ GE209.out) | exact HB.out)) hb); clear HO198; clear HO206; clear HO212; clear BK201; clear BK209; clear HB; have HO198 := n0_; have HO206 := n1_; have HO212 := n2_; have HO215 := n3_; have BK201 := n4_; have BK209 := n5_; have HB := n6_; clear n0_ n1_ n2_ n3_ n4_ n5_ n6_; (try clear hb); (try clear hb2); (try clear hk); (try clear hi); (try clear ho0); obtain ⟨Ao95, co95, eo95⟩ := Kd.R_slice HO212.out; subst eo95; obtain ⟨Ao96, co96, eo96⟩ := Kd.R_slice HO215.out; subst eo96) | (go_at_call 16; (with_reducible refine (entrepotref19_Same.calls kj12 _ _ t210 _ _ t213 t216 _ ?side1 ?side2 ?side3 ?side4 A82.out).mono ?_); (case side1 => repeat (first | exact (Kd.R_reads' HO212.out).2.2 | (with_reducible refine Kd.C_alloc ?_ _) | (with_reducible refine Kd.C_drewN ?_ _) | (with_reducible refine Kd.C_drew ?_))); (case side2 => exact (Kd.R_reads' HO212.out).2.1); (case side3 => repeat (first | exact (Kd.R_reads' HO215.out).2.2 | (with_reducible refine Kd.C_alloc ?_ _) | (with_reducible refine Kd.C_drewN ?_ _) | (with_reducible refine Kd.C_drew ?_))); (case side4 => exact (Kd.R_reads' HO215.out).2.1); rintro e w' ⟨rfl, ⟨nd, rfl⟩⟩))
                  go_ret
                  exact ⟨by first | rfl | (simp [errW_none, errW_some] <;> rfl) | (simp [*, errW_none, errW_some] <;> rfl), by repeat (first | (with_reducible first | exact HB.out | apply below_alloc | apply pw_below_drewN | apply below_drew1 | refine below_set ?_ GE201.out | refine below_set ?_ GE209.out) | exact HB.out)⟩
                · rw [if_neg c79] at H
                  have c79b0 : (t207 == 0 && (t208 == 0)) = false := by simpa using c79
                  (try (have c79b1 : decide (t207 = 0 && (t208 == 0)) = false := by simpa using c79))
                  (try (have c79b2 : (t207 == 0 && (t208 == 0)) = false := by simpa using c79))
                  (try (have c79b3 : ¬ (t207 = 0 && (t208 == 0)) := by simpa using c79))
                  clear c79
                  obtain rfl := Option.some.inj H
                  go_wp2_with (first | ((with_reducible refine gate_callee (f := 15) rfl ?_); refine goesL_ (some 93) rfl rfl Tryd.func15 (by kernel_rfl) rfl #[.string a1] rfl (by (try simp only [List.map_toArray, List.map_cons, List.map_nil]); first | done | rfl | (simp only [List.length_drop, List.length_take]; rfl)) ?_; (with_reducible refine (jsonic_Parse.calls a1 t196 t199 t200 _ (Tab.below HT (by repeat (first | (with_reducible first | exact HB.out | apply below_alloc | apply pw_below_drewN | apply below_drew1) | exact HB.out))) A74.out).mono ?_); rintro e w97 ⟨v197, rfl, ho0, hb⟩; refine ⟨_, rfl, ?_⟩; have n0_ := Aside0.mk (Kd.R_lower ho0 (below_size (by repeat (first | (with_reducible first | exact HB.out | apply below_alloc | apply pw_below_drewN | apply below_drew1) | exact HB.out)))); have n1_ := Aside0.mk (below_step (by repeat (first | (with_reducible first | exact HB.out | apply below_alloc | apply pw_below_drewN | apply below_drew1) | exact HB.out)) hb); clear HB; have HO198 := n0_; have HB := n1_; clear n0_ n1_; (try clear hb); (try clear hb2); (try clear hk); (try clear hi); (try clear ho0)) | ((with_reducible refine gate_dst (N := 13) rfl ?_); (try (refine gate_guard (by rfl) ?_; dsimp only)); refine box_event ?hg (N := 13) ?hd (cs := #[.int .i64 0, .int .i64 0]) (t := 34) ?hr ?_; (case hd => rfl); (case hg => rfl); (case hr => first | (go_simp; done) | (go_simp; rfl)); intro gb201 hg w98 hbox hb; have n0_ := Aside0.mk (Kd.R_below (by (with_reducible repeat (first | apply Kd.R_alloc | apply Kd.R_drewN | apply Kd.R_drew)); exact HO198.out) hb); have n1_ := Aside0.mk (below_step (by repeat (first | (with_reducible first | exact HB.out | apply below_alloc | apply pw_below_drewN | apply below_drew1) | exact HB.out)) hb); have n2_ := Aside0.mk (hbox); have n3_ := Aside0.mk ((by rw [hg]; exact (below_size (by repeat (first | (with_reducible first | exact HB.out | apply below_alloc | apply pw_below_drewN | apply below_drew1) | exact HB.out))) : w.heap.size ≤ gb201)); have n4_ := Aside0.mk ((by rw [hg]; exact (below_size (by repeat (first | (with_reducible first | exact HB.out | apply below_alloc | apply pw_below_drewN | apply below_drew1) | exact HB.out))) : w.heap.size ≤ gb201)); clear HO198; clear HB; have HO198 := n0_; have HB := n1_; have BK201 := n2_; have GW201 := n3_; have GE201 := n4_; clear n0_ n1_ n2_ n3_ n4_; clear hb hbox hg; have hcz99_0 : w98.cell? ⟨gb201, 0, none⟩ = some (.int .i64 0) := (blk_cell BK201.out 0).trans rfl; have hcz99_1 : w98.cell? ⟨gb201, 1, none⟩ = some (.int .i64 0) := (blk_cell BK201.out 1).trans rfl; have hfz99_0 := blk_frozen BK201.out 0; have hfz99_1 := blk_frozen BK201.out 1; obtain ⟨Ao100, co100, eo100⟩ := Kd.R_slice HO198.out; subst eo100) | ((with_reducible refine gate_callee (f := 10) rfl ?_); refine goesL_ (some 104) rfl rfl Tryd.func10 (by kernel_rfl) rfl #[.slice Ao100 t196.length co100] rfl (by (try simp only [List.map_toArray, List.map_cons, List.map_nil]); first | done | rfl | (simp only [List.length_drop, List.length_take]; rfl)) ?_; (with_reducible refine (jsonic_Print.calls _ _ t196 t202 true _ (Tab.below HT (by repeat (first | (with_reducible first | exact HB.out | apply below_alloc | apply pw_below_drewN | apply below_drew1 | refine below_set ?_ GE201.out) | exact HB.out))) ?side1 ?side2 A76.out).mono ?_); (case side1 => refine (Kd.R_reads' (e := 38) (base := w.heap.size) (ok := fun k_ => True) (n := t196.length) (c := co100) ?_).2.2; exact (by (with_reducible repeat (first | apply Kd.R_alloc | apply Kd.R_drewN | apply Kd.R_drew)); exact (Kd.R_mono (Kd.R_far (p := ⟨gb201, 1, none⟩) (Kd.R_far (p := ⟨gb201, 0, none⟩) (Kd.R_types HO198.out BK201.out (by decide)) (fun _ hk => hk.2) (.int .i64 t199)) (fun _ hk => hk.2) (.int .i64 t200)) (fun _ h_ => h_.1)))); (case side2 => exact (Kd.R_reads' HO198.out).2.1); rintro e w101 ⟨rfl, hb⟩; refine ⟨_, rfl, ?_⟩; have n0_ := Aside0.mk (Kd.R_below (by (with_reducible repeat (first | apply Kd.R_alloc | apply Kd.R_drewN | apply Kd.R_drew)); exact (Kd.R_mono (Kd.R_far (p := ⟨gb201, 1, none⟩) (Kd.R_far (p := ⟨gb201, 0, none⟩) (Kd.R_types HO198.out BK201.out (by decide)) (fun _ hk => hk.2) (.int .i64 t199)) (fun _ hk => hk.2) (.int .i64 t200)) (fun _ h_ => h_.1))) hb); have n1_ := Aside0.mk (blk_below (g := gb201) (o := .cells #[.int .i64 t199, .int .i64 t200] 34 (0, 0)) (by (with_reducible repeat (first | refine blk_drewN ?_ _ | refine blk_drew ?_ | refine blk_alloc ?_ _)); refine blk_put (cs := #[.int .i64 t199, .int .i64 0]) ?_ 1 _ rfl; (with_reducible repeat (first | refine blk_drewN ?_ _ | refine blk_drew ?_ | refine blk_alloc ?_ _)); refine blk_put (cs := #[.int .i64 0, .int .i64 0]) ?_ 0 _ rfl; (with_reducible repeat (first | refine blk_drewN ?_ _ | refine blk_drew ?_ | refine blk_alloc ?_ _)); exact BK201.out) hb); have n2_ := Aside0.mk (below_step (by repeat (first | (with_reducible first | exact HB.out | apply below_alloc | apply pw_below_drewN | apply below_drew1 | refine below_set ?_ GE201.out) | exact HB.out)) hb); clear HO198; clear BK201; clear HB; have HO198 := n0_; have BK201 := n1_; have HB := n2_; clear n0_ n1_ n2_; (try clear hb); (try clear hb2); (try clear hk); (try clear hi)) | ((with_reducible refine gate_callee (f := 15) rfl ?_); refine goesL_ (some 109) rfl rfl Tryd.func15 (by kernel_rfl) rfl #[.string t202] rfl (by (try simp only [List.map_toArray, List.map_cons, List.map_nil]); first | done | rfl | (simp only [List.length_drop, List.length_take]; rfl)) ?_; (with_reducible refine (jsonic_Parse.calls t202 t204 t207 t208 _ (Tab.below HT (by repeat (first | (with_reducible first | exact HB.out | apply below_alloc | apply pw_below_drewN | apply below_drew1 | refine below_set ?_ GE201.out) | exact HB.out))) A77.out).mono ?_); rintro e w102 ⟨v205, rfl, ho0, hb⟩; refine ⟨_, rfl, ?_⟩; have n0_ := Aside0.mk (Kd.R_elder' (by (with_reducible repeat (first | apply Kd.R_alloc | apply Kd.R_drewN | apply Kd.R_drew)); exact HO198.out) (Kd.R_base ho0) hb); have n1_ := Aside0.mk (Kd.R_lower (Kd.R_new' ho0 (Kd.R_lt (by (with_reducible repeat (first | apply Kd.R_alloc | apply Kd.R_drewN | apply Kd.R_drew)); exact HO198.out))) (below_size (by repeat (first | (with_reducible first | exact HB.out | apply below_alloc | apply pw_below_drewN | apply below_drew1 | refine below_set ?_ GE201.out) | exact HB.out)))); have n2_ := Aside0.mk (blk_below (g := gb201) (o := .cells #[.int .i64 t199, .int .i64 t200] 34 (0, 0)) (by (with_reducible repeat (first | refine blk_drewN ?_ _ | refine blk_drew ?_ | refine blk_alloc ?_ _)); exact BK201.out) hb); have n3_ := Aside0.mk (below_step (by repeat (first | (with_reducible first | exact HB.out | apply below_alloc | apply pw_below_drewN | apply below_drew1 | refine below_set ?_ GE201.out) | exact HB.out)) hb); clear HO198; clear BK201; clear HB; have HO198 := n0_; have HO206 := n1_; have BK201 := n2_; have HB := n3_; clear n0_ n1_ n2_ n3_; (try clear hb); (try clear hb2); (try clear hk); (try clear hi); (try clear ho0)) | ((with_reducible refine gate_dst (N := 17) rfl ?_); (try (refine gate_guard (by rfl) ?_; dsimp only)); refine box_event ?hg (N := 17) ?hd (cs := #[.int .i64 0, .int .i64 0]) (t := 34) ?hr ?_; (case hd => rfl); (case hg => rfl); (case hr => first | (go_simp; done) | (go_simp; rfl)); intro gb209 hg w103 hbox hb; have n0_ := Aside0.mk (Kd.R_below (by (with_reducible repeat (first | apply Kd.R_alloc | apply Kd.R_drewN | apply Kd.R_drew)); exact HO198.out) hb); have n1_ := Aside0.mk (Kd.R_below (by (with_reducible repeat (first | apply Kd.R_alloc | apply Kd.R_drewN | apply Kd.R_drew)); exact HO206.out) hb); have n2_ := Aside0.mk (blk_below (g := gb201) (o := .cells #[.int .i64 t199, .int .i64 t200] 34 (0, 0)) (by (with_reducible repeat (first | refine blk_drewN ?_ _ | refine blk_drew ?_ | refine blk_alloc ?_ _)); exact BK201.out) hb); have n3_ := Aside0.mk (below_step (by repeat (first | (with_reducible first | exact HB.out | apply below_alloc | apply pw_below_drewN | apply below_drew1 | refine below_set ?_ GE201.out) | exact HB.out)) hb); have n4_ := Aside0.mk (hbox); have n5_ := Aside0.mk ((by rw [hg]; exact (below_size (by repeat (first | (with_reducible first | exact HB.out | apply below_alloc | apply pw_below_drewN | apply below_drew1 | refine below_set ?_ GE201.out) | exact HB.out))) : w.heap.size ≤ gb209)); have n6_ := Aside0.mk ((by rw [hg]; exact (below_size (by repeat (first | (with_reducible first | exact HB.out | apply below_alloc | apply pw_below_drewN | apply below_drew1 | refine below_set ?_ GE201.out) | exact HB.out))) : w.heap.size ≤ gb209)); have n7_ := Aside0.mk ((by rw [hg]; exact Nat.ne_of_lt (blk_lt (g := gb201) (o := .cells #[.int .i64 t199, .int .i64 t200] 34 (0, 0)) (by (with_reducible repeat (first | refine blk_drewN ?_ _ | refine blk_drew ?_ | refine blk_alloc ?_ _)); exact BK201.out)) : gb201 ≠ gb209)); have n8_ := Aside0.mk ((by rw [hg]; exact Nat.ne_of_gt (blk_lt (g := gb201) (o := .cells #[.int .i64 t199, .int .i64 t200] 34 (0, 0)) (by (with_reducible repeat (first | refine blk_drewN ?_ _ | refine blk_drew ?_ | refine blk_alloc ?_ _)); exact BK201.out)) : gb209 ≠ gb201)); clear HO198; clear HO206; clear BK201; clear HB; have HO198 := n0_; have HO206 := n1_; have BK201 := n2_; have HB := n3_; have BK209 := n4_; have GW209 := n5_; have GE209 := n6_; have NB201_209 := n7_; have NB209_201 := n8_; clear n0_ n1_ n2_ n3_ n4_ n5_ n6_ n7_ n8_; clear hb hbox hg; have hnb104 := NB209_201.out; have hnc104 := NB201_209.out; have hcz105_0 : w103.cell? ⟨gb209, 0, none⟩ = some (.int .i64 0) := (blk_cell BK209.out 0).trans rfl; have hcz105_1 : w103.cell? ⟨gb209, 1, none⟩ = some (.int .i64 0) := (blk_cell BK209.out 1).trans rfl; have hfz105_0 := blk_frozen BK209.out 0; have hfz105_1 := blk_frozen BK209.out 1))
                  go_ret
                  exact ⟨by first | rfl | (simp [errW_none, errW_some] <;> rfl) | (simp [*, errW_none, errW_some] <;> rfl), by repeat (first | (with_reducible first | exact HB.out | apply below_alloc | apply pw_below_drewN | apply below_drew1 | refine below_set ?_ GE201.out | refine below_set ?_ GE209.out) | exact HB.out)⟩
              · replace c78 := Bool.eq_false_iff.mpr c78
                subst c78
                have H1 : (some false) = some r := by rw [if_neg (show ¬ (false = true) by decide)] at H; exact H
                clear H
                have H := H1
                clear H1
                obtain rfl := Option.some.inj H
                go_wp2_with (first | ((with_reducible refine gate_callee (f := 15) rfl ?_); refine goesL_ (some 93) rfl rfl Tryd.func15 (by kernel_rfl) rfl #[.string a1] rfl (by (try simp only [List.map_toArray, List.map_cons, List.map_nil]); first | done | rfl | (simp only [List.length_drop, List.length_take]; rfl)) ?_; (with_reducible refine (jsonic_Parse.calls a1 t196 t199 t200 _ (Tab.below HT (by repeat (first | (with_reducible first | exact HB.out | apply below_alloc | apply pw_below_drewN | apply below_drew1) | exact HB.out))) A74.out).mono ?_); rintro e w106 ⟨v197, rfl, ho0, hb⟩; refine ⟨_, rfl, ?_⟩; have n0_ := Aside0.mk (Kd.R_lower ho0 (below_size (by repeat (first | (with_reducible first | exact HB.out | apply below_alloc | apply pw_below_drewN | apply below_drew1) | exact HB.out)))); have n1_ := Aside0.mk (below_step (by repeat (first | (with_reducible first | exact HB.out | apply below_alloc | apply pw_below_drewN | apply below_drew1) | exact HB.out)) hb); clear HB; have HO198 := n0_; have HB := n1_; clear n0_ n1_; (try clear hb); (try clear hb2); (try clear hk); (try clear hi); (try clear ho0)) | ((with_reducible refine gate_dst (N := 13) rfl ?_); (try (refine gate_guard (by rfl) ?_; dsimp only)); refine box_event ?hg (N := 13) ?hd (cs := #[.int .i64 0, .int .i64 0]) (t := 34) ?hr ?_; (case hd => rfl); (case hg => rfl); (case hr => first | (go_simp; done) | (go_simp; rfl)); intro gb201 hg w107 hbox hb; have n0_ := Aside0.mk (Kd.R_below (by (with_reducible repeat (first | apply Kd.R_alloc | apply Kd.R_drewN | apply Kd.R_drew)); exact HO198.out) hb); have n1_ := Aside0.mk (below_step (by repeat (first | (with_reducible first | exact HB.out | apply below_alloc | apply pw_below_drewN | apply below_drew1) | exact HB.out)) hb); have n2_ := Aside0.mk (hbox); have n3_ := Aside0.mk ((by rw [hg]; exact (below_size (by repeat (first | (with_reducible first | exact HB.out | apply below_alloc | apply pw_below_drewN | apply below_drew1) | exact HB.out))) : w.heap.size ≤ gb201)); have n4_ := Aside0.mk ((by rw [hg]; exact (below_size (by repeat (first | (with_reducible first | exact HB.out | apply below_alloc | apply pw_below_drewN | apply below_drew1) | exact HB.out))) : w.heap.size ≤ gb201)); clear HO198; clear HB; have HO198 := n0_; have HB := n1_; have BK201 := n2_; have GW201 := n3_; have GE201 := n4_; clear n0_ n1_ n2_ n3_ n4_; clear hb hbox hg; have hcz108_0 : w107.cell? ⟨gb201, 0, none⟩ = some (.int .i64 0) := (blk_cell BK201.out 0).trans rfl; have hcz108_1 : w107.cell? ⟨gb201, 1, none⟩ = some (.int .i64 0) := (blk_cell BK201.out 1).trans rfl; have hfz108_0 := blk_frozen BK201.out 0; have hfz108_1 := blk_frozen BK201.out 1; obtain ⟨Ao109, co109, eo109⟩ := Kd.R_slice HO198.out; subst eo109) | ((with_reducible refine gate_callee (f := 10) rfl ?_); refine goesL_ (some 104) rfl rfl Tryd.func10 (by kernel_rfl) rfl #[.slice Ao109 t196.length co109] rfl (by (try simp only [List.map_toArray, List.map_cons, List.map_nil]); first | done | rfl | (simp only [List.length_drop, List.length_take]; rfl)) ?_; (with_reducible refine (jsonic_Print.calls _ _ t196 t202 false _ (Tab.below HT (by repeat (first | (with_reducible first | exact HB.out | apply below_alloc | apply pw_below_drewN | apply below_drew1 | refine below_set ?_ GE201.out) | exact HB.out))) ?side1 ?side2 A76.out).mono ?_); (case side1 => refine (Kd.R_reads' (e := 38) (base := w.heap.size) (ok := fun k_ => True) (n := t196.length) (c := co109) ?_).2.2; exact (by (with_reducible repeat (first | apply Kd.R_alloc | apply Kd.R_drewN | apply Kd.R_drew)); exact (Kd.R_mono (Kd.R_far (p := ⟨gb201, 1, none⟩) (Kd.R_far (p := ⟨gb201, 0, none⟩) (Kd.R_types HO198.out BK201.out (by decide)) (fun _ hk => hk.2) (.int .i64 t199)) (fun _ hk => hk.2) (.int .i64 t200)) (fun _ h_ => h_.1)))); (case side2 => exact (Kd.R_reads' HO198.out).2.1); rintro e w110 ⟨rfl, hb⟩; refine ⟨_, rfl, ?_⟩; have n0_ := Aside0.mk (Kd.R_below (by (with_reducible repeat (first | apply Kd.R_alloc | apply Kd.R_drewN | apply Kd.R_drew)); exact (Kd.R_mono (Kd.R_far (p := ⟨gb201, 1, none⟩) (Kd.R_far (p := ⟨gb201, 0, none⟩) (Kd.R_types HO198.out BK201.out (by decide)) (fun _ hk => hk.2) (.int .i64 t199)) (fun _ hk => hk.2) (.int .i64 t200)) (fun _ h_ => h_.1))) hb); have n1_ := Aside0.mk (blk_below (g := gb201) (o := .cells #[.int .i64 t199, .int .i64 t200] 34 (0, 0)) (by (with_reducible repeat (first | refine blk_drewN ?_ _ | refine blk_drew ?_ | refine blk_alloc ?_ _)); refine blk_put (cs := #[.int .i64 t199, .int .i64 0]) ?_ 1 _ rfl; (with_reducible repeat (first | refine blk_drewN ?_ _ | refine blk_drew ?_ | refine blk_alloc ?_ _)); refine blk_put (cs := #[.int .i64 0, .int .i64 0]) ?_ 0 _ rfl; (with_reducible repeat (first | refine blk_drewN ?_ _ | refine blk_drew ?_ | refine blk_alloc ?_ _)); exact BK201.out) hb); have n2_ := Aside0.mk (below_step (by repeat (first | (with_reducible first | exact HB.out | apply below_alloc | apply pw_below_drewN | apply below_drew1 | refine below_set ?_ GE201.out) | exact HB.out)) hb); clear HO198; clear BK201; clear HB; have HO198 := n0_; have BK201 := n1_; have HB := n2_; clear n0_ n1_ n2_; (try clear hb); (try clear hb2); (try clear hk); (try clear hi)) | ((with_reducible refine gate_callee (f := 15) rfl ?_); refine goesL_ (some 109) rfl rfl Tryd.func15 (by kernel_rfl) rfl #[.string t202] rfl (by (try simp only [List.map_toArray, List.map_cons, List.map_nil]); first | done | rfl | (simp only [List.length_drop, List.length_take]; rfl)) ?_; (with_reducible refine (jsonic_Parse.calls t202 t204 t207 t208 _ (Tab.below HT (by repeat (first | (with_reducible first | exact HB.out | apply below_alloc | apply pw_below_drewN | apply below_drew1 | refine below_set ?_ GE201.out) | exact HB.out))) A77.out).mono ?_); rintro e w111 ⟨v205, rfl, ho0, hb⟩; refine ⟨_, rfl, ?_⟩; have n0_ := Aside0.mk (Kd.R_elder' (by (with_reducible repeat (first | apply Kd.R_alloc | apply Kd.R_drewN | apply Kd.R_drew)); exact HO198.out) (Kd.R_base ho0) hb); have n1_ := Aside0.mk (Kd.R_lower (Kd.R_new' ho0 (Kd.R_lt (by (with_reducible repeat (first | apply Kd.R_alloc | apply Kd.R_drewN | apply Kd.R_drew)); exact HO198.out))) (below_size (by repeat (first | (with_reducible first | exact HB.out | apply below_alloc | apply pw_below_drewN | apply below_drew1 | refine below_set ?_ GE201.out) | exact HB.out)))); have n2_ := Aside0.mk (blk_below (g := gb201) (o := .cells #[.int .i64 t199, .int .i64 t200] 34 (0, 0)) (by (with_reducible repeat (first | refine blk_drewN ?_ _ | refine blk_drew ?_ | refine blk_alloc ?_ _)); exact BK201.out) hb); have n3_ := Aside0.mk (below_step (by repeat (first | (with_reducible first | exact HB.out | apply below_alloc | apply pw_below_drewN | apply below_drew1 | refine below_set ?_ GE201.out) | exact HB.out)) hb); clear HO198; clear BK201; clear HB; have HO198 := n0_; have HO206 := n1_; have BK201 := n2_; have HB := n3_; clear n0_ n1_ n2_ n3_; (try clear hb); (try clear hb2); (try clear hk); (try clear hi); (try clear ho0)) | ((with_reducible refine gate_dst (N := 17) rfl ?_); (try (refine gate_guard (by rfl) ?_; dsimp only)); refine box_event ?hg (N := 17) ?hd (cs := #[.int .i64 0, .int .i64 0]) (t := 34) ?hr ?_; (case hd => rfl); (case hg => rfl); (case hr => first | (go_simp; done) | (go_simp; rfl)); intro gb209 hg w112 hbox hb; have n0_ := Aside0.mk (Kd.R_below (by (with_reducible repeat (first | apply Kd.R_alloc | apply Kd.R_drewN | apply Kd.R_drew)); exact HO198.out) hb); have n1_ := Aside0.mk (Kd.R_below (by (with_reducible repeat (first | apply Kd.R_alloc | apply Kd.R_drewN | apply Kd.R_drew)); exact HO206.out) hb); have n2_ := Aside0.mk (blk_below (g := gb201) (o := .cells #[.int .i64 t199, .int .i64 t200] 34 (0, 0)) (by (with_reducible repeat (first | refine blk_drewN ?_ _ | refine blk_drew ?_ | refine blk_alloc ?_ _)); exact BK201.out) hb); have n3_ := Aside0.mk (below_step (by repeat (first | (with_reducible first | exact HB.out | apply below_alloc | apply pw_below_drewN | apply below_drew1 | refine below_set ?_ GE201.out) | exact HB.out)) hb); have n4_ := Aside0.mk (hbox); have n5_ := Aside0.mk ((by rw [hg]; exact (below_size (by repeat (first | (with_reducible first | exact HB.out | apply below_alloc | apply pw_below_drewN | apply below_drew1 | refine below_set ?_ GE201.out) | exact HB.out))) : w.heap.size ≤ gb209)); have n6_ := Aside0.mk ((by rw [hg]; exact (below_size (by repeat (first | (with_reducible first | exact HB.out | apply below_alloc | apply pw_below_drewN | apply below_drew1 | refine below_set ?_ GE201.out) | exact HB.out))) : w.heap.size ≤ gb209)); have n7_ := Aside0.mk ((by rw [hg]; exact Nat.ne_of_lt (blk_lt (g := gb201) (o := .cells #[.int .i64 t199, .int .i64 t200] 34 (0, 0)) (by (with_reducible repeat (first | refine blk_drewN ?_ _ | refine blk_drew ?_ | refine blk_alloc ?_ _)); exact BK201.out)) : gb201 ≠ gb209)); have n8_ := Aside0.mk ((by rw [hg]; exact Nat.ne_of_gt (blk_lt (g := gb201) (o := .cells #[.int .i64 t199, .int .i64 t200] 34 (0, 0)) (by (with_reducible repeat (first | refine blk_drewN ?_ _ | refine blk_drew ?_ | refine blk_alloc ?_ _)); exact BK201.out)) : gb209 ≠ gb201)); clear HO198; clear HO206; clear BK201; clear HB; have HO198 := n0_; have HO206 := n1_; have BK201 := n2_; have HB := n3_; have BK209 := n4_; have GW209 := n5_; have GE209 := n6_; have NB201_209 := n7_; have NB209_201 := n8_; clear n0_ n1_ n2_ n3_ n4_ n5_ n6_ n7_ n8_; clear hb hbox hg; have hnb113 := NB209_201.out; have hnc113 := NB201_209.out; have hcz114_0 : w112.cell? ⟨gb209, 0, none⟩ = some (.int .i64 0) := (blk_cell BK209.out 0).trans rfl; have hcz114_1 : w112.cell? ⟨gb209, 1, none⟩ = some (.int .i64 0) := (blk_cell BK209.out 1).trans rfl; have hfz114_0 := blk_frozen BK209.out 0; have hfz114_1 := blk_frozen BK209.out 1))
                go_ret
                exact ⟨by first | rfl | (simp [errW_none, errW_some] <;> rfl) | (simp [*, errW_none, errW_some] <;> rfl), by repeat (first | (with_reducible first | exact HB.out | apply below_alloc | apply pw_below_drewN | apply below_drew1 | refine below_set ?_ GE201.out | refine below_set ?_ GE209.out) | exact HB.out)⟩
            · rw [if_neg c75] at H
              have c75b0 : (t200 == 0) = false := beq_eq_false_iff_ne.mpr c75
              have c75b1 : (t200 != 0) = true := bne_iff_ne.mpr c75
              obtain rfl := Option.some.inj H
              go_wp2_with (first | ((with_reducible refine gate_callee (f := 15) rfl ?_); refine goesL_ (some 93) rfl rfl Tryd.func15 (by kernel_rfl) rfl #[.string a1] rfl (by (try simp only [List.map_toArray, List.map_cons, List.map_nil]); first | done | rfl | (simp only [List.length_drop, List.length_take]; rfl)) ?_; (with_reducible refine (jsonic_Parse.calls a1 t196 t199 t200 _ (Tab.below HT (by repeat (first | (with_reducible first | exact HB.out | apply below_alloc | apply pw_below_drewN | apply below_drew1) | exact HB.out))) A74.out).mono ?_); rintro e w115 ⟨v197, rfl, ho0, hb⟩; refine ⟨_, rfl, ?_⟩; have n0_ := Aside0.mk (Kd.R_lower ho0 (below_size (by repeat (first | (with_reducible first | exact HB.out | apply below_alloc | apply pw_below_drewN | apply below_drew1) | exact HB.out)))); have n1_ := Aside0.mk (below_step (by repeat (first | (with_reducible first | exact HB.out | apply below_alloc | apply pw_below_drewN | apply below_drew1) | exact HB.out)) hb); clear HB; have HO198 := n0_; have HB := n1_; clear n0_ n1_; (try clear hb); (try clear hb2); (try clear hk); (try clear hi); (try clear ho0)) | ((with_reducible refine gate_dst (N := 13) rfl ?_); (try (refine gate_guard (by rfl) ?_; dsimp only)); refine box_event ?hg (N := 13) ?hd (cs := #[.int .i64 0, .int .i64 0]) (t := 34) ?hr ?_; (case hd => rfl); (case hg => rfl); (case hr => first | (go_simp; done) | (go_simp; rfl)); intro gb201 hg w116 hbox hb; have n0_ := Aside0.mk (Kd.R_below (by (with_reducible repeat (first | apply Kd.R_alloc | apply Kd.R_drewN | apply Kd.R_drew)); exact HO198.out) hb); have n1_ := Aside0.mk (below_step (by repeat (first | (with_reducible first | exact HB.out | apply below_alloc | apply pw_below_drewN | apply below_drew1) | exact HB.out)) hb); have n2_ := Aside0.mk (hbox); have n3_ := Aside0.mk ((by rw [hg]; exact (below_size (by repeat (first | (with_reducible first | exact HB.out | apply below_alloc | apply pw_below_drewN | apply below_drew1) | exact HB.out))) : w.heap.size ≤ gb201)); have n4_ := Aside0.mk ((by rw [hg]; exact (below_size (by repeat (first | (with_reducible first | exact HB.out | apply below_alloc | apply pw_below_drewN | apply below_drew1) | exact HB.out))) : w.heap.size ≤ gb201)); clear HO198; clear HB; have HO198 := n0_; have HB := n1_; have BK201 := n2_; have GW201 := n3_; have GE201 := n4_; clear n0_ n1_ n2_ n3_ n4_; clear hb hbox hg; have hcz117_0 : w116.cell? ⟨gb201, 0, none⟩ = some (.int .i64 0) := (blk_cell BK201.out 0).trans rfl; have hcz117_1 : w116.cell? ⟨gb201, 1, none⟩ = some (.int .i64 0) := (blk_cell BK201.out 1).trans rfl; have hfz117_0 := blk_frozen BK201.out 0; have hfz117_1 := blk_frozen BK201.out 1; obtain ⟨Ao118, co118, eo118⟩ := Kd.R_slice HO198.out; subst eo118))
              go_ret
              exact ⟨by first | rfl | (simp [errW_none, errW_some] <;> rfl) | (simp [*, errW_none, errW_some] <;> rfl), by repeat (first | (with_reducible first | exact HB.out | apply below_alloc | apply pw_below_drewN | apply below_drew1 | refine below_set ?_ GE201.out) | exact HB.out)⟩

end Go.Proofs.YtainnkpoibgkcaaDoor.PAll
