-- Written by a program out of the translation, for several roots at once (set All). Not trusted: Lean checks it.
import Derived.Test.YtainnkpoibgkcaaDoorPAllx0
import Derived.Test.YtainnkpoibgkcaaDoorPAllx1
import Derived.Test.YtainnkpoibgkcaaDoorPAllx4
import Derived.Test.YtainnkpoibgkcaaDoorGivenX
namespace Go.Proofs.YtainnkpoibgkcaaDoor.PAll
open Go.RowKit Go.Proofs.YtainnkpoibgkcaaDoorW.PrintWords Go.Proofs.YtainnkpoibgkcaaDoorW.PrintLast Go.Proofs.YtainnkpoibgkcaaDoorW.PrintMore
attribute [local go_sem] max2_int min2_int max_two min_two max_three min_three max_four min_four   -- for this text's walks alone
set_option linter.unusedVariables false
set_option linter.unusedSimpArgs false

attribute [local go_sem high] eqA34
/-! ### entrepotlaw19_JsonicBlanks: function 5 -/
mutual
def entrepotlaw19_JsonicBlanks.j0 : Nat → ByteArray → Int → Int → Bool → Option (Bool)
  | 0, _, _, _, _ => none
  | k + 1, x0, x1, x2, x25 => if x25 = true then ((entrepotlaw19_shown.f).bind fun t199 => (some t199)) else ((jsonic_Parse.f x0).bind fun bt200 => (if bt200.2.2 = 0 then (entrepotlaw19_JsonicBlanks.l0 k x0 x1 x2 bt200.1 x0 0) else (some ((bt200.1.length : Int) == 0))))
def entrepotlaw19_JsonicBlanks.l0 : Nat → ByteArray → Int → Int → List (S38) → ByteArray → Int → Option (Bool)
  | 0, _, _, _, _, _, _ => none
  | k + 1, x0, x1, x2, x7, x9, x10 => if x10 < (Int.tmod (wrap64 (x1)) 4) then ((some (([(⟨#[32]⟩ : ByteArray), (⟨#[10]⟩ : ByteArray), (⟨#[9]⟩ : ByteArray), (⟨#[13]⟩ : ByteArray)] : List ByteArray) : List ByteArray)).bind fun y206 => (if 0 ≤ x10 then (if x10 < (y206.length : Int) then (if (rdOf ByteArray.empty y206 x10).size + x9.size ≤ 9223372036854775807 then (entrepotlaw19_JsonicBlanks.l0 k x0 x1 x2 x7 ((rdOf ByteArray.empty y206 x10) ++ x9) (wrap64 (x10 + 1))) else (none)) else (none)) else (none))) else (entrepotlaw19_JsonicBlanks.l1 k x2 x7 x9 (wrap64 ((x9.size : Int) - (x0.size : Int))) 0)
def entrepotlaw19_JsonicBlanks.l1 : Nat → Int → List (S38) → ByteArray → Int → Int → Option (Bool)
  | 0, _, _, _, _, _ => none
  | k + 1, x2, x7, x9, x11, x12 => if x12 < (Int.tmod (wrap64 (x2)) 4) then ((some (([(⟨#[13]⟩ : ByteArray), (⟨#[32]⟩ : ByteArray), (⟨#[10]⟩ : ByteArray), (⟨#[9]⟩ : ByteArray)] : List ByteArray) : List ByteArray)).bind fun y210 => (if 0 ≤ x12 then (if x12 < (y210.length : Int) then (if x9.size + (rdOf ByteArray.empty y210 x12).size ≤ 9223372036854775807 then (entrepotlaw19_JsonicBlanks.l1 k x2 x7 (x9 ++ (rdOf ByteArray.empty y210 x12)) x11 (wrap64 (x12 + 1))) else (none)) else (none)) else (none))) else ((jsonic_Parse.f x9).bind fun bt214 => ((entrepotlaw19_its.f k x7).bind fun t220 => (entrepotlaw19_JsonicBlanks.l2 k x9 x11 bt214.1 t220 0 bt214.2.1 bt214.2.2)))
def entrepotlaw19_JsonicBlanks.l2 : Nat → ByteArray → Int → List (S38) → List (S39) → Int → Int → Int → Option (Bool)
  | 0, _, _, _, _, _, _, _ => none
  | k + 1, x9, x11, x13, x15, x16, x220000, x220001 => if x16 < (x15.length : Int) then (if 0 ≤ x16 then (entrepotlaw19_JsonicBlanks.l2 k x9 x11 x13 (x15.set (x16 : Int).toNat (⟨(rd_T39 x15 x16).f0, (rd_T39 x15 x16).f1, (rd_T39 x15 x16).f2, wrap64 (((rd_T39 x15 x16).f3) + x11)⟩ : S39)) (wrap64 (x16 + 1)) x220000 x220001) else (none)) else (if x9.size + 2 ≤ 9223372036854775807 then ((jsonic_Parse.f (x9 ++ (⟨#[32, 93]⟩ : ByteArray))).bind fun bt225 => (if (x220000 == 0 && (x220001 == 0)) = true then ((entrepotlaw19_its.f k x13).bind fun t231 => ((entrepotref19_Same.f k t231 x15).bind fun t234 => (if t234 = true then (if (bt225.1.length : Int) = 0 then (some (bt225.2.1 == (wrap64 ((x9.size : Int) + 1)) && (bt225.2.2 == 190))) else (some false)) else (some false)))) else (some false))) else (none))
end
def entrepotlaw19_JsonicBlanks.f (k : Nat) (a0 : ByteArray) (a1 : Int) (a2 : Int) : Option (Bool) := if (a0.size : Int) > 500 then (entrepotlaw19_JsonicBlanks.j0 k a0 a1 a2 true) else ((entrepotlaw19_shown.f).bind fun t198 => (entrepotlaw19_JsonicBlanks.j0 k a0 a1 a2 (!t198)))
theorem entrepotlaw19_JsonicBlanks.mono_l : ∀ k, (∀ y0 y1 y2 y3, LeO (entrepotlaw19_JsonicBlanks.j0 k y0 y1 y2 y3) (entrepotlaw19_JsonicBlanks.j0 (k + 1) y0 y1 y2 y3)) ∧ (∀ y0 y1 y2 y3 y4 y5, LeO (entrepotlaw19_JsonicBlanks.l0 k y0 y1 y2 y3 y4 y5) (entrepotlaw19_JsonicBlanks.l0 (k + 1) y0 y1 y2 y3 y4 y5)) ∧ (∀ y0 y1 y2 y3 y4, LeO (entrepotlaw19_JsonicBlanks.l1 k y0 y1 y2 y3 y4) (entrepotlaw19_JsonicBlanks.l1 (k + 1) y0 y1 y2 y3 y4)) ∧ (∀ y0 y1 y2 y3 y4 y5 y6, LeO (entrepotlaw19_JsonicBlanks.l2 k y0 y1 y2 y3 y4 y5 y6) (entrepotlaw19_JsonicBlanks.l2 (k + 1) y0 y1 y2 y3 y4 y5 y6))
  | 0 => ⟨fun _ _ _ _ r h => by simp [entrepotlaw19_JsonicBlanks.j0] at h, fun _ _ _ _ _ _ r h => by simp [entrepotlaw19_JsonicBlanks.l0] at h, fun _ _ _ _ _ r h => by simp [entrepotlaw19_JsonicBlanks.l1] at h, fun _ _ _ _ _ _ _ r h => by simp [entrepotlaw19_JsonicBlanks.l2] at h⟩
  | k + 1 => by
    obtain ⟨ih0, ih1, ih2, ih3⟩ := entrepotlaw19_JsonicBlanks.mono_l k
    refine ⟨?_, ?_, ?_, ?_⟩
    · intro y0 y1 y2 y3
      unfold entrepotlaw19_JsonicBlanks.j0
      repeat' first
      | (with_reducible exact ih0 _ _ _ _)
      | (with_reducible exact ih1 _ _ _ _ _ _)
      | (with_reducible exact ih2 _ _ _ _ _)
      | (with_reducible exact ih3 _ _ _ _ _ _ _)
      | (with_reducible exact entrepotlaw19_its.mono _ _)
      | (with_reducible exact entrepotref19_Same.mono _ _ _)
      | (with_reducible exact LeO.refl _)
      | (with_reducible exact LeO.none _)
      | (with_reducible refine LeO.ite ?_ ?_)
      | (with_reducible refine LeO.bind ?_ (fun _ => ?_))
      | exact ih0 _ _ _ _
      | exact ih1 _ _ _ _ _ _
      | exact ih2 _ _ _ _ _
      | exact ih3 _ _ _ _ _ _ _
      | exact entrepotlaw19_its.mono _ _
      | exact entrepotref19_Same.mono _ _ _
      | exact LeO.none _
      | refine LeO.ite ?_ ?_
      | refine LeO.bind ?_ (fun _ => ?_)
    · intro y0 y1 y2 y3 y4 y5
      unfold entrepotlaw19_JsonicBlanks.l0
      repeat' first
      | (with_reducible exact ih0 _ _ _ _)
      | (with_reducible exact ih1 _ _ _ _ _ _)
      | (with_reducible exact ih2 _ _ _ _ _)
      | (with_reducible exact ih3 _ _ _ _ _ _ _)
      | (with_reducible exact entrepotlaw19_its.mono _ _)
      | (with_reducible exact entrepotref19_Same.mono _ _ _)
      | (with_reducible exact LeO.refl _)
      | (with_reducible exact LeO.none _)
      | (with_reducible refine LeO.ite ?_ ?_)
      | (with_reducible refine LeO.bind ?_ (fun _ => ?_))
      | exact ih0 _ _ _ _
      | exact ih1 _ _ _ _ _ _
      | exact ih2 _ _ _ _ _
      | exact ih3 _ _ _ _ _ _ _
      | exact entrepotlaw19_its.mono _ _
      | exact entrepotref19_Same.mono _ _ _
      | exact LeO.none _
      | refine LeO.ite ?_ ?_
      | refine LeO.bind ?_ (fun _ => ?_)
    · intro y0 y1 y2 y3 y4
      unfold entrepotlaw19_JsonicBlanks.l1
      repeat' first
      | (with_reducible exact ih0 _ _ _ _)
      | (with_reducible exact ih1 _ _ _ _ _ _)
      | (with_reducible exact ih2 _ _ _ _ _)
      | (with_reducible exact ih3 _ _ _ _ _ _ _)
      | (with_reducible exact entrepotlaw19_its.mono _ _)
      | (with_reducible exact entrepotref19_Same.mono _ _ _)
      | (with_reducible exact LeO.refl _)
      | (with_reducible exact LeO.none _)
      | (with_reducible refine LeO.ite ?_ ?_)
      | (with_reducible refine LeO.bind ?_ (fun _ => ?_))
      | exact ih0 _ _ _ _
      | exact ih1 _ _ _ _ _ _
      | exact ih2 _ _ _ _ _
      | exact ih3 _ _ _ _ _ _ _
      | exact entrepotlaw19_its.mono _ _
      | exact entrepotref19_Same.mono _ _ _
      | exact LeO.none _
      | refine LeO.ite ?_ ?_
      | refine LeO.bind ?_ (fun _ => ?_)
    · intro y0 y1 y2 y3 y4 y5 y6
      unfold entrepotlaw19_JsonicBlanks.l2
      repeat' first
      | (with_reducible exact ih0 _ _ _ _)
      | (with_reducible exact ih1 _ _ _ _ _ _)
      | (with_reducible exact ih2 _ _ _ _ _)
      | (with_reducible exact ih3 _ _ _ _ _ _ _)
      | (with_reducible exact entrepotlaw19_its.mono _ _)
      | (with_reducible exact entrepotref19_Same.mono _ _ _)
      | (with_reducible exact LeO.refl _)
      | (with_reducible exact LeO.none _)
      | (with_reducible refine LeO.ite ?_ ?_)
      | (with_reducible refine LeO.bind ?_ (fun _ => ?_))
      | exact ih0 _ _ _ _
      | exact ih1 _ _ _ _ _ _
      | exact ih2 _ _ _ _ _
      | exact ih3 _ _ _ _ _ _ _
      | exact entrepotlaw19_its.mono _ _
      | exact entrepotref19_Same.mono _ _ _
      | exact LeO.none _
      | refine LeO.ite ?_ ?_
      | refine LeO.bind ?_ (fun _ => ?_)
theorem entrepotlaw19_JsonicBlanks.mono : ∀ a0 a1 a2 k, LeO (entrepotlaw19_JsonicBlanks.f k a0 a1 a2) (entrepotlaw19_JsonicBlanks.f (k + 1) a0 a1 a2) := by
  intro a0 a1 a2 k
  obtain ⟨ih0, ih1, ih2, ih3⟩ := entrepotlaw19_JsonicBlanks.mono_l k
  unfold entrepotlaw19_JsonicBlanks.f
  repeat' first
      | (with_reducible exact ih0 _ _ _ _)
      | (with_reducible exact ih1 _ _ _ _ _ _)
      | (with_reducible exact ih2 _ _ _ _ _)
      | (with_reducible exact ih3 _ _ _ _ _ _ _)
      | (with_reducible exact entrepotlaw19_its.mono _ _)
      | (with_reducible exact entrepotref19_Same.mono _ _ _)
      | (with_reducible exact LeO.refl _)
      | (with_reducible exact LeO.none _)
      | (with_reducible refine LeO.ite ?_ ?_)
      | (with_reducible refine LeO.bind ?_ (fun _ => ?_))
      | exact ih0 _ _ _ _
      | exact ih1 _ _ _ _ _ _
      | exact ih2 _ _ _ _ _
      | exact ih3 _ _ _ _ _ _ _
      | exact entrepotlaw19_its.mono _ _
      | exact entrepotref19_Same.mono _ _ _
      | exact LeO.none _
      | refine LeO.ite ?_ ?_
      | refine LeO.bind ?_ (fun _ => ?_)
set_option maxHeartbeats 8000000 in
set_option maxRecDepth 100000 in
theorem entrepotlaw19_JsonicBlanks.calls (k : Nat) (a0 : ByteArray) (a1 : Int) (a2 : Int) (r : Bool) (w : World) (HT : Tab w) (h : entrepotlaw19_JsonicBlanks.f k a0 a1 a2 = some r) :
    Calls Tryd.prog 5 #[.string a0, .int .u8 a1, .int .u8 a2] w fun e w' => e = .returned (.bool r) ∧ Below w.heap.size w w' := by
  have hu34 := Tryd.underlying34
  have HB := Aside0.mk (Below.refl w.heap.size w)
  have H : (if (a0.size : Int) > 500 then (entrepotlaw19_JsonicBlanks.j0 k a0 a1 a2 true) else ((entrepotlaw19_shown.f).bind fun t198 => (entrepotlaw19_JsonicBlanks.j0 k a0 a1 a2 (!t198)))) = some r := h
  clear h
  have HC4 := Aside0.mk H
  clear H
  go_enter Tryd.func5, Tryd.ntmps5
  go_upto_region 1 with (fail)
  go_cut [25] (fun v25 wc => ∃ (kq : Nat) (x25_3 : Bool), v25 = .bool x25_3 ∧ Aside0 (entrepotlaw19_JsonicBlanks.j0 kq a0 a1 a2 x25_3 = some r) ∧ Aside0 (kq ≤ k) ∧ Aside0 (Below w.heap.size w wc))
  case first =>
    have H := HC4.out
    clear HC4
    by_cases c5 : (a0.size : Int) > 500
    · rw [if_pos c5] at H
      have c5b0 : decide (500 < (a0.size : Int)) = true := decide_eq_true c5
      have c5b1 : decide (500 < a0.size) = true := decide_eq_true (by omega)
      clear c5
      (first | rw [c5b0] | (simp only [i64_w, i32_w]; rw [c5b0]) | skip)
      have H' := Aside0.mk H
      clear H
      go_wp2
      go_meet
      case rel => exact ⟨_, (true), (by first | rfl | (simp; done) | (simp [*]; done)), H', ⟨by first | omega | exact Nat.le_refl _⟩, ⟨by repeat (first | (with_reducible first | exact HB.out | apply below_alloc | apply pw_below_drewN | apply below_drew1) | exact HB.out)⟩⟩
    · rw [if_neg c5] at H
      have c5b0 : decide (500 < (a0.size : Int)) = false := decide_eq_false c5
      have c5b1 : decide (500 < a0.size) = false := decide_eq_false (by omega)
      clear c5
      (first | rw [c5b0] | (simp only [i64_w, i32_w]; rw [c5b0]) | skip)
      replace H := Option.bind_eq_some_iff.mp H
      obtain ⟨t198, A60, H⟩ := H
      replace H : (entrepotlaw19_JsonicBlanks.j0 k a0 a1 a2 (!t198)) = some r := H
      have A6 := Aside0.mk A60
      clear A60
      have H' := Aside0.mk H
      clear H
      go_wp2_with (first | (go_at_call 9; (with_reducible refine (entrepotlaw19_shown.calls  t198 _ (Tab.below HT (by repeat (first | (with_reducible first | exact HB.out | apply below_alloc | apply pw_below_drewN | apply below_drew1) | exact HB.out))) A6.out).mono ?_); rintro e w7 ⟨rfl, hb⟩; have n0_ := Aside0.mk (below_step (by repeat (first | (with_reducible first | exact HB.out | apply below_alloc | apply pw_below_drewN | apply below_drew1) | exact HB.out)) hb); clear HB; have HB := n0_; clear n0_; (try clear hb); (try clear hb2); (try clear hk); (try clear hi)))
      go_meet
      case rel => exact ⟨_, (!t198), (by first | rfl | (simp; done) | (simp [*]; done)), H', ⟨by first | omega | exact Nat.le_refl _⟩, ⟨by repeat (first | (with_reducible first | exact HB.out | apply below_alloc | apply pw_below_drewN | apply below_drew1) | exact HB.out)⟩⟩
  case rest =>
    clear HC4
    try clear p2
    try clear c5
    try clear c5b0
    try clear c5b1
    obtain ⟨kq, x25_3, rfl, HA, HJ3, HB⟩ := hcut
    cases kq with
    | zero => exact absurd HA.out (by simp [entrepotlaw19_JsonicBlanks.j0])
    | succ kj3 =>
      have H := HA.out
      clear HA
      simp only [entrepotlaw19_JsonicBlanks.j0] at H
      by_cases c8 : x25_3 = true
      · subst c8
        have H1 : ((entrepotlaw19_shown.f).bind fun t199 => (some t199)) = some r := by rw [if_pos rfl] at H; exact H
        clear H
        have H := H1
        clear H1
        replace H := Option.bind_eq_some_iff.mp H
        obtain ⟨t199, A90, H⟩ := H
        replace H : (some t199) = some r := H
        have A9 := Aside0.mk A90
        clear A90
        obtain rfl := Option.some.inj H
        go_wp2_with (first | ((with_reducible refine gate_callee (f := 9) rfl ?_); refine goesL_ (some 26) rfl rfl Tryd.func9 (by kernel_rfl) rfl #[] rfl (by (try simp only [List.map_toArray, List.map_cons, List.map_nil]); first | done | rfl | (simp only [List.length_drop, List.length_take]; rfl)) ?_; (with_reducible refine (entrepotlaw19_shown.calls  t199 _ (Tab.below HT (by repeat (first | (with_reducible first | exact HB.out | apply below_alloc | apply pw_below_drewN | apply below_drew1) | exact HB.out))) A9.out).mono ?_); rintro e w10 ⟨rfl, hb⟩; refine ⟨_, rfl, ?_⟩; have n0_ := Aside0.mk (below_step (by repeat (first | (with_reducible first | exact HB.out | apply below_alloc | apply pw_below_drewN | apply below_drew1) | exact HB.out)) hb); clear HB; have HB := n0_; clear n0_; (try clear hb); (try clear hb2); (try clear hk); (try clear hi)))
        go_ret
        exact ⟨by first | rfl | (simp [errW_none, errW_some] <;> rfl) | (simp [*, errW_none, errW_some] <;> rfl), by repeat (first | (with_reducible first | exact HB.out | apply below_alloc | apply pw_below_drewN | apply below_drew1) | exact HB.out)⟩
      · replace c8 := Bool.eq_false_iff.mpr c8
        subst c8
        have H1 : ((jsonic_Parse.f a0).bind fun bt200 => (if bt200.2.2 = 0 then (entrepotlaw19_JsonicBlanks.l0 kj3 a0 a1 a2 bt200.1 a0 0) else (some ((bt200.1.length : Int) == 0)))) = some r := by rw [if_neg (show ¬ (false = true) by decide)] at H; exact H
        clear H
        have H := H1
        clear H1
        replace H := Option.bind_eq_some_iff.mp H
        obtain ⟨⟨t200, t203, t204⟩, A110, H⟩ := H
        replace H : (if t204 = 0 then (entrepotlaw19_JsonicBlanks.l0 kj3 a0 a1 a2 t200 a0 0) else (some ((t200.length : Int) == 0))) = some r := H
        have A11 := Aside0.mk A110
        clear A110
        by_cases c12 : t204 = 0
        · rw [if_pos c12] at H
          have c12b0 : (t204 == 0) = true := beq_iff_eq.mpr c12
          have c12b1 : (t204 != 0) = false := bne_eq_false_iff_eq.mpr c12
          clear c12
          have H' := Aside0.mk H
          clear H
          go_wp2_with (first | ((with_reducible refine gate_callee (f := 15) rfl ?_); refine goesL_ (some 29) rfl rfl Tryd.func15 (by kernel_rfl) rfl #[.string a0] rfl (by (try simp only [List.map_toArray, List.map_cons, List.map_nil]); first | done | rfl | (simp only [List.length_drop, List.length_take]; rfl)) ?_; (with_reducible refine (jsonic_Parse.calls a0 t200 t203 t204 _ (Tab.below HT (by repeat (first | (with_reducible first | exact HB.out | apply below_alloc | apply pw_below_drewN | apply below_drew1) | exact HB.out))) A11.out).mono ?_); rintro e w13 ⟨v201, rfl, ho0, hb⟩; refine ⟨_, rfl, ?_⟩; have n0_ := Aside0.mk (Kd.R_lower ho0 (below_size (by repeat (first | (with_reducible first | exact HB.out | apply below_alloc | apply pw_below_drewN | apply below_drew1) | exact HB.out)))); have n1_ := Aside0.mk (below_step (by repeat (first | (with_reducible first | exact HB.out | apply below_alloc | apply pw_below_drewN | apply below_drew1) | exact HB.out)) hb); clear HB; have HO202 := n0_; have HB := n1_; clear n0_ n1_; (try clear hb); (try clear hb2); (try clear hk); (try clear hi); (try clear ho0)) | ((with_reducible refine gate_dst (N := 8) rfl ?_); (try (refine gate_guard (by rfl) ?_; dsimp only)); refine box_event ?hg (N := 8) ?hd (cs := #[.int .i64 0, .int .i64 0]) (t := 34) ?hr ?_; (case hd => rfl); (case hg => rfl); (case hr => first | (go_simp; done) | (go_simp; rfl)); intro gb205 hg w14 hbox hb; have n0_ := Aside0.mk (Kd.R_below (by (with_reducible repeat (first | apply Kd.R_alloc | apply Kd.R_drewN | apply Kd.R_drew)); exact HO202.out) hb); have n1_ := Aside0.mk (below_step (by repeat (first | (with_reducible first | exact HB.out | apply below_alloc | apply pw_below_drewN | apply below_drew1) | exact HB.out)) hb); have n2_ := Aside0.mk (hbox); have n3_ := Aside0.mk ((by rw [hg]; exact (below_size (by repeat (first | (with_reducible first | exact HB.out | apply below_alloc | apply pw_below_drewN | apply below_drew1) | exact HB.out))) : w.heap.size ≤ gb205)); have n4_ := Aside0.mk ((by rw [hg]; exact (below_size (by repeat (first | (with_reducible first | exact HB.out | apply below_alloc | apply pw_below_drewN | apply below_drew1) | exact HB.out))) : w.heap.size ≤ gb205)); clear HO202; clear HB; have HO202 := n0_; have HB := n1_; have BK205 := n2_; have GW205 := n3_; have GE205 := n4_; clear n0_ n1_ n2_ n3_ n4_; clear hb hbox hg; have hcz15_0 : w14.cell? ⟨gb205, 0, none⟩ = some (.int .i64 0) := (blk_cell BK205.out 0).trans rfl; have hcz15_1 : w14.cell? ⟨gb205, 1, none⟩ = some (.int .i64 0) := (blk_cell BK205.out 1).trans rfl; have hfz15_0 := blk_frozen BK205.out 0; have hfz15_1 := blk_frozen BK205.out 1))
          go_loopg [9, 10] kj3 (fun kq v9 v10 w' => ∃ (x9_2 : ByteArray) (x10_2 : Int), v9 = .string x9_2 ∧ v10 = .int .i64 x10_2 ∧ Aside0 (entrepotlaw19_JsonicBlanks.l0 kq a0 a1 a2 t200 x9_2 x10_2 = some r) ∧ Aside0 (kq ≤ kj3) ∧ Aside0 (Kd.R k38 38 w' w.heap.size (fun _ => True) v201 t200) ∧ Aside0 (w'.heap[gb205]? = some (.cells #[.int .i64 t203, .int .i64 t204] 34 (0, 0))) ∧ Aside0 (Below w.heap.size w w'))
          case atStart => exact ⟨(a0), (0), (by first | rfl | (simp; done) | (simp [*]; done)), (by first | rfl | (simp; done) | (simp [*]; done)), H', ⟨Nat.le_refl _⟩, ⟨by (with_reducible repeat (first | apply Kd.R_alloc | apply Kd.R_drewN | apply Kd.R_drew)); exact Kd.R_mono (Kd.R_far (p := ⟨gb205, 1, none⟩) (Kd.R_far (p := ⟨gb205, 0, none⟩) (Kd.R_types HO202.out BK205.out (by decide)) (fun _ hk => hk.2) (.int .i64 t203)) (fun _ hk => hk.2) (.int .i64 t204)) (fun _ hk => trivial)⟩, ⟨by (with_reducible repeat (first | refine blk_drewN ?_ _ | refine blk_drew ?_ | refine blk_alloc ?_ _)); refine blk_put (cs := #[.int .i64 t203, .int .i64 0]) ?_ 1 _ rfl; (with_reducible repeat (first | refine blk_drewN ?_ _ | refine blk_drew ?_ | refine blk_alloc ?_ _)); refine blk_put (cs := #[.int .i64 0, .int .i64 0]) ?_ 0 _ rfl; (with_reducible repeat (first | refine blk_drewN ?_ _ | refine blk_drew ?_ | refine blk_alloc ?_ _)); exact BK205.out⟩, ⟨by repeat (first | (with_reducible first | exact HB.out | apply below_alloc | apply pw_below_drewN | apply below_drew1 | refine below_set ?_ GE205.out) | exact HB.out)⟩⟩
          case round =>
            clear H'
            try clear c1
            try clear p2
            try clear c5
            try clear c5b0
            try clear c5b1
            try clear c8
            try clear c9
            try clear c12
            try clear c12b0
            try clear c12b1
            try clear c15
            try clear hcz15_0
            try clear hcz15_1
            try clear hfz15_0
            try clear hfz15_1
            try clear p2
            obtain ⟨x9_2, x10_2, rfl, rfl, HA, HK2, HO_7, BK205, HB⟩ := hrel
            cases gk with
            | zero => exact absurd HA.out (by simp [entrepotlaw19_JsonicBlanks.l0])
            | succ k2 =>
              have H := HA.out
              clear HA
              simp only [entrepotlaw19_JsonicBlanks.l0] at H
              by_cases c16 : x10_2 < (Int.tmod (wrap64 (a1)) 4)
              · rw [if_pos c16] at H
                have c16b0 : decide (x10_2 < (Int.tmod (wrap64 (a1)) 4)) = true := decide_eq_true c16
                clear c16
                obtain ⟨y206, hy206⟩ : ∃ y_ : List ByteArray, y_ = (([(⟨#[32]⟩ : ByteArray), (⟨#[10]⟩ : ByteArray), (⟨#[9]⟩ : ByteArray), (⟨#[13]⟩ : ByteArray)] : List ByteArray)) := ⟨_, rfl⟩
                replace H : (if 0 ≤ x10_2 then (if x10_2 < (y206.length : Int) then (if (rdOf ByteArray.empty y206 x10_2).size + x9_2.size ≤ 9223372036854775807 then (entrepotlaw19_JsonicBlanks.l0 k2 a0 a1 a2 t200 ((rdOf ByteArray.empty y206 x10_2) ++ x9_2) (wrap64 (x10_2 + 1))) else (none)) else (none)) else (none)) = some r := by first | (rw [hy206]; with_reducible exact H) | (have H2_ := (Option.bind_some _ _).symm.trans H; rw [hy206]; with_reducible exact H2_) | (have H2_ := (Option.bind_some _ _).symm.trans H; with_reducible exact H2_) | with_reducible exact H | (rw [hy206]; exact H) | exact H
                have Ny206 := Aside0.mk hy206
                clear hy206
                by_cases c17 : 0 ≤ x10_2
                · rw [if_pos c17] at H
                  have c17b0 : decide (0 ≤ x10_2) = true := decide_eq_true c17
                  clear c17
                  by_cases c18 : x10_2 < (y206.length : Int)
                  · rw [if_pos c18] at H
                    have c18b0 : decide (x10_2 < (y206.length : Int)) = true := decide_eq_true c18
                    clear c18
                    by_cases c19 : (rdOf ByteArray.empty y206 x10_2).size + x9_2.size ≤ 9223372036854775807
                    · rw [if_pos c19] at H
                      have c19b0 := eq_true c19
                      have c19b1 : decide ((rdOf ByteArray.empty y206 x10_2).size + x9_2.size ≤ 9223372036854775807) = true := decide_eq_true c19
                      try have c19b2 : (9223372036854775807 < (rdOf ByteArray.empty y206 x10_2).size + x9_2.size) = False := eq_false (Nat.not_lt.2 c19)
                      have H' := Aside0.mk H
                      clear H
                      go_wp2_with (first | ((with_reducible refine gate_dst (N := 46) rfl ?_); (try (refine gate_guard (by rfl) ?_; dsimp only)); refine Kd.R_lit Kd.string _ 9 ?hg (N := 46) ?hd (xs := ([(⟨#[32]⟩ : ByteArray), (⟨#[10]⟩ : ByteArray), (⟨#[9]⟩ : ByteArray), (⟨#[13]⟩ : ByteArray)] : List ByteArray)) (inner := [.string (⟨#[32]⟩ : ByteArray), .string (⟨#[10]⟩ : ByteArray), .string (⟨#[9]⟩ : ByteArray), .string (⟨#[13]⟩ : ByteArray)]) (ok := fun _ => True) (okp := fun _ => True) ?hr ?hp (fun _ hk => hk) trivial (Below.refl _ _) (Nat.le_refl _) (by simp) ?_; (case hd => rfl); (case hg => rfl); (case hr => first | (go_simp; done) | (go_simp; rfl)); (case hp => exact (Reps.one (show Kd.M Kd.string _ _ _ (⟨#[32]⟩ : ByteArray) [.string (⟨#[32]⟩ : ByteArray)] from rfl) (Reps.one (show Kd.M Kd.string _ _ _ (⟨#[10]⟩ : ByteArray) [.string (⟨#[10]⟩ : ByteArray)] from rfl) (Reps.one (show Kd.M Kd.string _ _ _ (⟨#[9]⟩ : ByteArray) [.string (⟨#[9]⟩ : ByteArray)] from rfl) (Reps.one (show Kd.M Kd.string _ _ _ (⟨#[13]⟩ : ByteArray) [.string (⟨#[13]⟩ : ByteArray)] from rfl) (Reps.none _ _)))))); intro v207 w20 ho21 hb hg_ hnew_; clear hg_ hnew_; (first | rw [← Ny206.out] at ho21 | (simp only [Int.reduceToNat] at ho21; rw [← Ny206.out] at ho21)); have n0_ := Aside0.mk (Kd.R_below (by (with_reducible repeat (first | apply Kd.R_alloc | apply Kd.R_drewN | apply Kd.R_drew)); exact HO_7.out) hb); have n1_ := Aside0.mk (Kd.R_lower ho21 (below_size (by repeat (first | (with_reducible first | exact HB.out | apply below_alloc | apply pw_below_drewN | apply below_drew1 | refine below_set ?_ GE205.out) | exact HB.out)))); have n2_ := Aside0.mk (blk_below (g := gb205) (o := .cells #[.int .i64 t203, .int .i64 t204] 34 (0, 0)) (by (with_reducible repeat (first | refine blk_drewN ?_ _ | refine blk_drew ?_ | refine blk_alloc ?_ _)); exact BK205.out) hb); have n3_ := Aside0.mk (below_step (by repeat (first | (with_reducible first | exact HB.out | apply below_alloc | apply pw_below_drewN | apply below_drew1 | refine below_set ?_ GE205.out) | exact HB.out)) hb); clear HO_7; clear BK205; clear HB; have HO_7 := n0_; have HO208 := n1_; have BK205 := n2_; have HB := n3_; clear n0_ n1_ n2_ n3_; clear hb ho21; obtain ⟨Ao22, co22, eo22⟩ := Kd.R_slice HO208.out; subst eo22; have p209 : 0 ≤ (x10_2 : Int) := of_decide_eq_true (by first | (with_reducible assumption) | assumption); have q209 : x10_2 < (y206.length : Int) := of_decide_eq_true (by first | (with_reducible assumption) | assumption); obtain ⟨ad209, e209, hx209_0⟩ := Kd.at_string (Kd.R_reads' HO208.out).2.2 x10_2 p209 q209; cases e209; replace p209 := eq_true p209; replace q209 := eq_true q209))
                      go_roundg k2
                      case measure => have := HJ3.out; have := HK2.out; omega
                      case rel => exact ⟨((rdOf ByteArray.empty y206 x10_2) ++ x9_2), (wrap64 (x10_2 + 1)), (by first | rfl | (simp; done) | (simp [*]; done)), (by first | rfl | (simp; done) | (simp [*]; done)), H', ⟨by have := HJ3.out; have := HK2.out; omega⟩, ⟨by (with_reducible repeat (first | apply Kd.R_alloc | apply Kd.R_drewN | apply Kd.R_drew)); exact HO_7.out⟩, ⟨by (with_reducible repeat (first | refine blk_drewN ?_ _ | refine blk_drew ?_ | refine blk_alloc ?_ _)); exact BK205.out⟩, ⟨by repeat (first | (with_reducible first | exact HB.out | apply below_alloc | apply pw_below_drewN | apply below_drew1 | refine below_set ?_ GE205.out) | exact HB.out)⟩⟩
                    · rw [if_neg c19] at H
                      exact absurd H (by simp)
                  · rw [if_neg c18] at H
                    exact absurd H (by simp)
                · rw [if_neg c17] at H
                  exact absurd H (by simp)
              · rw [if_neg c16] at H
                have c16b0 : decide (x10_2 < (Int.tmod (wrap64 (a1)) 4)) = false := decide_eq_false c16
                clear c16
                have H' := Aside0.mk H
                clear H
                go_wp2
                go_loopg [9, 12] k2 (fun kq v9 v12 w' => ∃ (x9_3 : ByteArray) (x12_3 : Int), v9 = .string x9_3 ∧ v12 = .int .i64 x12_3 ∧ Aside0 (entrepotlaw19_JsonicBlanks.l1 kq a2 t200 x9_3 (wrap64 ((x9_2.size : Int) - (a0.size : Int))) x12_3 = some r) ∧ Aside0 (kq ≤ k2) ∧ Aside0 (Kd.R k38 38 w' w.heap.size (fun _ => True) v201 t200) ∧ Aside0 (w'.heap[gb205]? = some (.cells #[.int .i64 t203, .int .i64 t204] 34 (0, 0))) ∧ Aside0 (Below w.heap.size w w'))
                case atStart => exact ⟨(x9_2), (0), (by first | rfl | (simp; done) | (simp [*]; done)), (by first | rfl | (simp; done) | (simp [*]; done)), H', ⟨Nat.le_refl _⟩, ⟨by (with_reducible repeat (first | apply Kd.R_alloc | apply Kd.R_drewN | apply Kd.R_drew)); exact HO_7.out⟩, ⟨by (with_reducible repeat (first | refine blk_drewN ?_ _ | refine blk_drew ?_ | refine blk_alloc ?_ _)); exact BK205.out⟩, ⟨by repeat (first | (with_reducible first | exact HB.out | apply below_alloc | apply pw_below_drewN | apply below_drew1 | refine below_set ?_ GE205.out) | exact HB.out)⟩⟩
                case round =>
                  clear H'
                  try clear c1
                  try clear p2
                  try clear q2
                  try clear hx2
                  try clear c5
                  try clear c5b0
                  try clear c5b1
                  try clear p6
                  try clear c8
                  try clear c9
                  try clear c12
                  try clear c12b0
                  try clear c12b1
                  try clear c15
                  try clear c16
                  try clear c16b0
                  try clear c17
                  try clear c17b0
                  try clear c18
                  try clear c18b0
                  try clear c19
                  try clear c19b0
                  try clear c19b1
                  try clear c19b2
                  try clear p20
                  try clear q20
                  try clear hx20
                  try clear hcz15_0
                  try clear hcz15_1
                  try clear hfz15_0
                  try clear hfz15_1
                  try clear hx209_0
                  try clear p2
                  try clear p209
                  try clear q209
                  obtain ⟨x9_3, x12_3, rfl, rfl, HA, HK3, HO_7, BK205, HB⟩ := hrel
                  cases gk with
                  | zero => exact absurd HA.out (by simp [entrepotlaw19_JsonicBlanks.l1])
                  | succ k3 =>
                    have H := HA.out
                    clear HA
                    simp only [entrepotlaw19_JsonicBlanks.l1] at H
                    by_cases c23 : x12_3 < (Int.tmod (wrap64 (a2)) 4)
                    · rw [if_pos c23] at H
                      have c23b0 : decide (x12_3 < (Int.tmod (wrap64 (a2)) 4)) = true := decide_eq_true c23
                      clear c23
                      obtain ⟨y210, hy210⟩ : ∃ y_ : List ByteArray, y_ = (([(⟨#[13]⟩ : ByteArray), (⟨#[32]⟩ : ByteArray), (⟨#[10]⟩ : ByteArray), (⟨#[9]⟩ : ByteArray)] : List ByteArray)) := ⟨_, rfl⟩
                      replace H : (if 0 ≤ x12_3 then (if x12_3 < (y210.length : Int) then (if x9_3.size + (rdOf ByteArray.empty y210 x12_3).size ≤ 9223372036854775807 then (entrepotlaw19_JsonicBlanks.l1 k3 a2 t200 (x9_3 ++ (rdOf ByteArray.empty y210 x12_3)) (wrap64 ((x9_2.size : Int) - (a0.size : Int))) (wrap64 (x12_3 + 1))) else (none)) else (none)) else (none)) = some r := by first | (rw [hy210]; with_reducible exact H) | (have H2_ := (Option.bind_some _ _).symm.trans H; rw [hy210]; with_reducible exact H2_) | (have H2_ := (Option.bind_some _ _).symm.trans H; with_reducible exact H2_) | with_reducible exact H | (rw [hy210]; exact H) | exact H
                      have Ny210 := Aside0.mk hy210
                      clear hy210
                      by_cases c24 : 0 ≤ x12_3
                      · rw [if_pos c24] at H
                        have c24b0 : decide (0 ≤ x12_3) = true := decide_eq_true c24
                        clear c24
                        by_cases c25 : x12_3 < (y210.length : Int)
                        · rw [if_pos c25] at H
                          have c25b0 : decide (x12_3 < (y210.length : Int)) = true := decide_eq_true c25
                          clear c25
                          by_cases c26 : x9_3.size + (rdOf ByteArray.empty y210 x12_3).size ≤ 9223372036854775807
                          · rw [if_pos c26] at H
                            have c26b0 := eq_true c26
                            have c26b1 : decide (x9_3.size + (rdOf ByteArray.empty y210 x12_3).size ≤ 9223372036854775807) = true := decide_eq_true c26
                            try have c26b2 : (9223372036854775807 < x9_3.size + (rdOf ByteArray.empty y210 x12_3).size) = False := eq_false (Nat.not_lt.2 c26)
                            have H' := Aside0.mk H
                            clear H
                            go_wp2_with (first | ((with_reducible refine gate_dst (N := 65) rfl ?_); (try (refine gate_guard (by rfl) ?_; dsimp only)); refine Kd.R_lit Kd.string _ 9 ?hg (N := 65) ?hd (xs := ([(⟨#[13]⟩ : ByteArray), (⟨#[32]⟩ : ByteArray), (⟨#[10]⟩ : ByteArray), (⟨#[9]⟩ : ByteArray)] : List ByteArray)) (inner := [.string (⟨#[13]⟩ : ByteArray), .string (⟨#[32]⟩ : ByteArray), .string (⟨#[10]⟩ : ByteArray), .string (⟨#[9]⟩ : ByteArray)]) (ok := fun _ => True) (okp := fun _ => True) ?hr ?hp (fun _ hk => hk) trivial (Below.refl _ _) (Nat.le_refl _) (by simp) ?_; (case hd => rfl); (case hg => rfl); (case hr => first | (go_simp; done) | (go_simp; rfl)); (case hp => exact (Reps.one (show Kd.M Kd.string _ _ _ (⟨#[13]⟩ : ByteArray) [.string (⟨#[13]⟩ : ByteArray)] from rfl) (Reps.one (show Kd.M Kd.string _ _ _ (⟨#[32]⟩ : ByteArray) [.string (⟨#[32]⟩ : ByteArray)] from rfl) (Reps.one (show Kd.M Kd.string _ _ _ (⟨#[10]⟩ : ByteArray) [.string (⟨#[10]⟩ : ByteArray)] from rfl) (Reps.one (show Kd.M Kd.string _ _ _ (⟨#[9]⟩ : ByteArray) [.string (⟨#[9]⟩ : ByteArray)] from rfl) (Reps.none _ _)))))); intro v211 w27 ho28 hb hg_ hnew_; clear hg_ hnew_; (first | rw [← Ny210.out] at ho28 | (simp only [Int.reduceToNat] at ho28; rw [← Ny210.out] at ho28)); have n0_ := Aside0.mk (Kd.R_below (by (with_reducible repeat (first | apply Kd.R_alloc | apply Kd.R_drewN | apply Kd.R_drew)); exact HO_7.out) hb); have n1_ := Aside0.mk (Kd.R_lower ho28 (below_size (by repeat (first | (with_reducible first | exact HB.out | apply below_alloc | apply pw_below_drewN | apply below_drew1 | refine below_set ?_ GE205.out) | exact HB.out)))); have n2_ := Aside0.mk (blk_below (g := gb205) (o := .cells #[.int .i64 t203, .int .i64 t204] 34 (0, 0)) (by (with_reducible repeat (first | refine blk_drewN ?_ _ | refine blk_drew ?_ | refine blk_alloc ?_ _)); exact BK205.out) hb); have n3_ := Aside0.mk (below_step (by repeat (first | (with_reducible first | exact HB.out | apply below_alloc | apply pw_below_drewN | apply below_drew1 | refine below_set ?_ GE205.out) | exact HB.out)) hb); clear HO_7; clear BK205; clear HB; have HO_7 := n0_; have HO212 := n1_; have BK205 := n2_; have HB := n3_; clear n0_ n1_ n2_ n3_; clear hb ho28; obtain ⟨Ao29, co29, eo29⟩ := Kd.R_slice HO212.out; subst eo29; have p213 : 0 ≤ (x12_3 : Int) := of_decide_eq_true (by first | (with_reducible assumption) | assumption); have q213 : x12_3 < (y210.length : Int) := of_decide_eq_true (by first | (with_reducible assumption) | assumption); obtain ⟨ad213, e213, hx213_0⟩ := Kd.at_string (Kd.R_reads' HO212.out).2.2 x12_3 p213 q213; cases e213; replace p213 := eq_true p213; replace q213 := eq_true q213))
                            go_roundg k3
                            case measure => have := HJ3.out; have := HK2.out; have := HK3.out; omega
                            case rel => exact ⟨(x9_3 ++ (rdOf ByteArray.empty y210 x12_3)), (wrap64 (x12_3 + 1)), (by first | rfl | (simp; done) | (simp [*]; done)), (by first | rfl | (simp; done) | (simp [*]; done)), H', ⟨by have := HJ3.out; have := HK2.out; have := HK3.out; omega⟩, ⟨by (with_reducible repeat (first | apply Kd.R_alloc | apply Kd.R_drewN | apply Kd.R_drew)); exact HO_7.out⟩, ⟨by (with_reducible repeat (first | refine blk_drewN ?_ _ | refine blk_drew ?_ | refine blk_alloc ?_ _)); exact BK205.out⟩, ⟨by repeat (first | (with_reducible first | exact HB.out | apply below_alloc | apply pw_below_drewN | apply below_drew1 | refine below_set ?_ GE205.out) | exact HB.out)⟩⟩
                          · rw [if_neg c26] at H
                            exact absurd H (by simp)
                        · rw [if_neg c25] at H
                          exact absurd H (by simp)
                      · rw [if_neg c24] at H
                        exact absurd H (by simp)
                    · rw [if_neg c23] at H
                      have c23b0 : decide (x12_3 < (Int.tmod (wrap64 (a2)) 4)) = false := decide_eq_false c23
                      clear c23
                      replace H := Option.bind_eq_some_iff.mp H
                      obtain ⟨⟨t214, t217, t218⟩, A300, H⟩ := H
                      replace H : ((entrepotlaw19_its.f k3 t200).bind fun t220 => (entrepotlaw19_JsonicBlanks.l2 k3 x9_3 (wrap64 ((x9_2.size : Int) - (a0.size : Int))) t214 t220 0 t217 t218)) = some r := H
                      have A30 := Aside0.mk A300
                      clear A300
                      replace H := Option.bind_eq_some_iff.mp H
                      obtain ⟨t220, A310, H⟩ := H
                      replace H : (entrepotlaw19_JsonicBlanks.l2 k3 x9_3 (wrap64 ((x9_2.size : Int) - (a0.size : Int))) t214 t220 0 t217 t218) = some r := H
                      have A31 := Aside0.mk A310
                      clear A310
                      have H' := Aside0.mk H
                      clear H
                      go_wp2_with (first | ((with_reducible refine gate_callee (f := 15) rfl ?_); refine goesL_ (some 72) rfl rfl Tryd.func15 (by kernel_rfl) rfl #[.string x9_3] rfl (by (try simp only [List.map_toArray, List.map_cons, List.map_nil]); first | done | rfl | (simp only [List.length_drop, List.length_take]; rfl)) ?_; (with_reducible refine (jsonic_Parse.calls x9_3 t214 t217 t218 _ (Tab.below HT (by repeat (first | (with_reducible first | exact HB.out | apply below_alloc | apply pw_below_drewN | apply below_drew1 | refine below_set ?_ GE205.out) | exact HB.out))) A30.out).mono ?_); rintro e w32 ⟨v215, rfl, ho0, hb⟩; refine ⟨_, rfl, ?_⟩; have n0_ := Aside0.mk (Kd.R_elder' (by (with_reducible repeat (first | apply Kd.R_alloc | apply Kd.R_drewN | apply Kd.R_drew)); exact HO_7.out) (Kd.R_base ho0) hb); have n1_ := Aside0.mk (Kd.R_lower (Kd.R_new' ho0 (Kd.R_lt (by (with_reducible repeat (first | apply Kd.R_alloc | apply Kd.R_drewN | apply Kd.R_drew)); exact HO_7.out))) (below_size (by repeat (first | (with_reducible first | exact HB.out | apply below_alloc | apply pw_below_drewN | apply below_drew1 | refine below_set ?_ GE205.out) | exact HB.out)))); have n2_ := Aside0.mk (blk_below (g := gb205) (o := .cells #[.int .i64 t203, .int .i64 t204] 34 (0, 0)) (by (with_reducible repeat (first | refine blk_drewN ?_ _ | refine blk_drew ?_ | refine blk_alloc ?_ _)); exact BK205.out) hb); have n3_ := Aside0.mk (below_step (by repeat (first | (with_reducible first | exact HB.out | apply below_alloc | apply pw_below_drewN | apply below_drew1 | refine below_set ?_ GE205.out) | exact HB.out)) hb); clear HO_7; clear BK205; clear HB; have HO_7 := n0_; have HO216 := n1_; have BK205 := n2_; have HB := n3_; clear n0_ n1_ n2_ n3_; (try clear hb); (try clear hb2); (try clear hk); (try clear hi); (try clear ho0)) | ((with_reducible refine gate_dst (N := 14) rfl ?_); (try (refine gate_guard (by rfl) ?_; dsimp only)); refine box_event ?hg (N := 14) ?hd (cs := #[.int .i64 0, .int .i64 0]) (t := 34) ?hr ?_; (case hd => rfl); (case hg => rfl); (case hr => first | (go_simp; done) | (go_simp; rfl)); intro gb219 hg w33 hbox hb; have n0_ := Aside0.mk (Kd.R_below (by (with_reducible repeat (first | apply Kd.R_alloc | apply Kd.R_drewN | apply Kd.R_drew)); exact HO_7.out) hb); have n1_ := Aside0.mk (Kd.R_below (by (with_reducible repeat (first | apply Kd.R_alloc | apply Kd.R_drewN | apply Kd.R_drew)); exact HO216.out) hb); have n2_ := Aside0.mk (blk_below (g := gb205) (o := .cells #[.int .i64 t203, .int .i64 t204] 34 (0, 0)) (by (with_reducible repeat (first | refine blk_drewN ?_ _ | refine blk_drew ?_ | refine blk_alloc ?_ _)); exact BK205.out) hb); have n3_ := Aside0.mk (below_step (by repeat (first | (with_reducible first | exact HB.out | apply below_alloc | apply pw_below_drewN | apply below_drew1 | refine below_set ?_ GE205.out) | exact HB.out)) hb); have n4_ := Aside0.mk (hbox); have n5_ := Aside0.mk ((by rw [hg]; exact (below_size (by repeat (first | (with_reducible first | exact HB.out | apply below_alloc | apply pw_below_drewN | apply below_drew1 | refine below_set ?_ GE205.out) | exact HB.out))) : w.heap.size ≤ gb219)); have n6_ := Aside0.mk ((by rw [hg]; exact (below_size (by repeat (first | (with_reducible first | exact HB.out | apply below_alloc | apply pw_below_drewN | apply below_drew1 | refine below_set ?_ GE205.out) | exact HB.out))) : w.heap.size ≤ gb219)); have n7_ := Aside0.mk ((by rw [hg]; exact Nat.ne_of_lt (blk_lt (g := gb205) (o := .cells #[.int .i64 t203, .int .i64 t204] 34 (0, 0)) (by (with_reducible repeat (first | refine blk_drewN ?_ _ | refine blk_drew ?_ | refine blk_alloc ?_ _)); exact BK205.out)) : gb205 ≠ gb219)); have n8_ := Aside0.mk ((by rw [hg]; exact Nat.ne_of_gt (blk_lt (g := gb205) (o := .cells #[.int .i64 t203, .int .i64 t204] 34 (0, 0)) (by (with_reducible repeat (first | refine blk_drewN ?_ _ | refine blk_drew ?_ | refine blk_alloc ?_ _)); exact BK205.out)) : gb219 ≠ gb205)); clear HO_7; clear HO216; clear BK205; clear HB; have HO_7 := n0_; have HO216 := n1_; have BK205 := n2_; have HB := n3_; have BK219 := n4_; have GW219 := n5_; have GE219 := n6_; have NB205_219 := n7_; have NB219_205 := n8_; clear n0_ n1_ n2_ n3_ n4_ n5_ n6_ n7_ n8_; clear hb hbox hg; have hnb34 := NB219_205.out; have hnc34 := NB205_219.out; have hcz35_0 : w33.cell? ⟨gb219, 0, none⟩ = some (.int .i64 0) := (blk_cell BK219.out 0).trans rfl; have hcz35_1 : w33.cell? ⟨gb219, 1, none⟩ = some (.int .i64 0) := (blk_cell BK219.out 1).trans rfl; have hfz35_0 := blk_frozen BK219.out 0; have hfz35_1 := blk_frozen BK219.out 1; obtain ⟨Ao36, co36, eo36⟩ := Kd.R_slice HO_7.out; subst eo36) | ((with_reducible refine gate_callee (f := 12) rfl ?_); refine goesL_ (some 76) rfl rfl Tryd.func12 (by kernel_rfl) rfl #[.slice Ao36 t200.length co36] rfl (by (try simp only [List.map_toArray, List.map_cons, List.map_nil]); first | done | rfl | (simp only [List.length_drop, List.length_take]; rfl)) ?_; (with_reducible refine (entrepotlaw19_its.calls k3 _ _ t200 t220 _ ?side1 ?side2 A31.out).mono ?_); (case side1 => refine (Kd.R_reads' (e := 38) (base := w.heap.size) (ok := fun k_ => (True ∧ some k_ ≠ (v215 : Value).ownBlock)) (n := t200.length) (c := co36) ?_).2.2; exact (by (with_reducible repeat (first | apply Kd.R_alloc | apply Kd.R_drewN | apply Kd.R_drew)); exact (Kd.R_mono (Kd.R_far (p := ⟨gb219, 1, none⟩) (Kd.R_far (p := ⟨gb219, 0, none⟩) (Kd.R_types HO_7.out BK219.out (by decide)) (fun _ hk => hk.2) (.int .i64 t217)) (fun _ hk => hk.2) (.int .i64 t218)) (fun _ h_ => h_.1)))); (case side2 => exact (Kd.R_reads' HO_7.out).2.1); rintro e w37 ⟨v221, rfl, ho0, hb⟩; refine ⟨_, rfl, ?_⟩; have n0_ := Aside0.mk (Kd.R_below (by (with_reducible repeat (first | apply Kd.R_alloc | apply Kd.R_drewN | apply Kd.R_drew)); exact (Kd.R_mono (Kd.R_far (p := ⟨gb219, 1, none⟩) (Kd.R_far (p := ⟨gb219, 0, none⟩) (Kd.R_types HO_7.out BK219.out (by decide)) (fun _ hk => hk.2) (.int .i64 t217)) (fun _ hk => hk.2) (.int .i64 t218)) (fun _ h_ => h_.1))) hb); have n1_ := Aside0.mk (Kd.R_below (by (with_reducible repeat (first | apply Kd.R_alloc | apply Kd.R_drewN | apply Kd.R_drew)); exact (Kd.R_mono (Kd.R_far (p := ⟨gb219, 1, none⟩) (Kd.R_far (p := ⟨gb219, 0, none⟩) (Kd.R_types HO216.out BK219.out (by decide)) (fun _ hk => hk.2) (.int .i64 t217)) (fun _ hk => hk.2) (.int .i64 t218)) (fun _ h_ => h_.1))) hb); have n2_ := Aside0.mk (Kd.R_lower ho0 (below_size (by repeat (first | (with_reducible first | exact HB.out | apply below_alloc | apply pw_below_drewN | apply below_drew1 | refine below_set ?_ GE205.out | refine below_set ?_ GE219.out) | exact HB.out)))); have n3_ := Aside0.mk (blk_below (g := gb205) (o := .cells #[.int .i64 t203, .int .i64 t204] 34 (0, 0)) (by (with_reducible repeat (first | refine blk_drewN ?_ _ | refine blk_drew ?_ | refine blk_alloc ?_ _)); refine blk_far ?_ NB205_219.out _; (with_reducible repeat (first | refine blk_drewN ?_ _ | refine blk_drew ?_ | refine blk_alloc ?_ _)); refine blk_far ?_ NB205_219.out _; (with_reducible repeat (first | refine blk_drewN ?_ _ | refine blk_drew ?_ | refine blk_alloc ?_ _)); exact BK205.out) hb); have n4_ := Aside0.mk (blk_below (g := gb219) (o := .cells #[.int .i64 t217, .int .i64 t218] 34 (0, 0)) (by (with_reducible repeat (first | refine blk_drewN ?_ _ | refine blk_drew ?_ | refine blk_alloc ?_ _)); refine blk_put (cs := #[.int .i64 t217, .int .i64 0]) ?_ 1 _ rfl; (with_reducible repeat (first | refine blk_drewN ?_ _ | refine blk_drew ?_ | refine blk_alloc ?_ _)); refine blk_put (cs := #[.int .i64 0, .int .i64 0]) ?_ 0 _ rfl; (with_reducible repeat (first | refine blk_drewN ?_ _ | refine blk_drew ?_ | refine blk_alloc ?_ _)); exact BK219.out) hb); have n5_ := Aside0.mk (below_step (by repeat (first | (with_reducible first | exact HB.out | apply below_alloc | apply pw_below_drewN | apply below_drew1 | refine below_set ?_ GE205.out | refine below_set ?_ GE219.out) | exact HB.out)) hb); clear HO_7; clear HO216; clear BK205; clear BK219; clear HB; have HO_7 := n0_; have HO216 := n1_; have HO222 := n2_; have BK205 := n3_; have BK219 := n4_; have HB := n5_; clear n0_ n1_ n2_ n3_ n4_ n5_; (try clear hb); (try clear hb2); (try clear hk); (try clear hi); (try clear ho0)))
                      go_loopg [16] k3 (fun kq v16 w' => ∃ (x15_4 : List (S39)) (x16_4 : Int), v16 = .int .i64 x16_4 ∧ Aside0 (entrepotlaw19_JsonicBlanks.l2 kq x9_3 (wrap64 ((x9_2.size : Int) - (a0.size : Int))) t214 x15_4 x16_4 t217 t218 = some r) ∧ Aside0 (kq ≤ k3) ∧ Aside0 (Kd.R k38 38 w' w.heap.size (fun _ => True) v215 t214) ∧ Aside0 (Kd.R k39 39 w' w.heap.size (fun _ => True) v221 x15_4) ∧ Aside0 (w'.heap[gb205]? = some (.cells #[.int .i64 t203, .int .i64 t204] 34 (0, 0))) ∧ Aside0 (w'.heap[gb219]? = some (.cells #[.int .i64 t217, .int .i64 t218] 34 (0, 0))) ∧ Aside0 (Below w.heap.size w w'))
                      case atStart => exact ⟨(t220), (0), (by first | rfl | (simp; done) | (simp [*]; done)), H', ⟨Nat.le_refl _⟩, ⟨by (with_reducible repeat (first | apply Kd.R_alloc | apply Kd.R_drewN | apply Kd.R_drew)); exact Kd.R_mono HO216.out (fun _ hk => trivial)⟩, ⟨by (with_reducible repeat (first | apply Kd.R_alloc | apply Kd.R_drewN | apply Kd.R_drew)); exact HO222.out⟩, ⟨by (with_reducible repeat (first | refine blk_drewN ?_ _ | refine blk_drew ?_ | refine blk_alloc ?_ _)); exact BK205.out⟩, ⟨by (with_reducible repeat (first | refine blk_drewN ?_ _ | refine blk_drew ?_ | refine blk_alloc ?_ _)); exact BK219.out⟩, ⟨by repeat (first | (with_reducible first | exact HB.out | apply below_alloc | apply pw_below_drewN | apply below_drew1 | refine below_set ?_ GE205.out | refine below_set ?_ GE219.out) | exact HB.out)⟩⟩
                      case round =>
                        clear H'
                        try clear c1
                        try clear c2
                        try clear p2
                        try clear q2
                        try clear hx2
                        try clear c3
                        try clear c5
                        try clear c5b0
                        try clear c5b1
                        try clear p6
                        try clear c8
                        try clear c9
                        try clear c12
                        try clear c12b0
                        try clear c12b1
                        try clear c15
                        try clear c16
                        try clear c16b0
                        try clear c17
                        try clear c17b0
                        try clear c18
                        try clear c18b0
                        try clear c19
                        try clear c19b0
                        try clear c19b1
                        try clear c19b2
                        try clear p20
                        try clear q20
                        try clear hx20
                        try clear p21
                        try clear q21
                        try clear hx21
                        try clear c23
                        try clear c23b0
                        try clear c24
                        try clear c24b0
                        try clear c25
                        try clear c25b0
                        try clear c26
                        try clear c26b0
                        try clear c26b1
                        try clear c26b2
                        try clear c34
                        try clear hcz15_0
                        try clear hcz15_1
                        try clear hcz35_0
                        try clear hcz35_1
                        try clear hfz15_0
                        try clear hfz15_1
                        try clear hfz35_0
                        try clear hfz35_1
                        try clear hx209_0
                        try clear hx213_0
                        try clear p2
                        try clear p20
                        try clear p209
                        try clear p213
                        try clear p6
                        try clear q2
                        try clear q20
                        try clear q209
                        try clear q213
                        obtain ⟨x15_4, x16_4, rfl, HA, HK4, HO_13, HO_15, BK205, BK219, HB⟩ := hrel
                        cases gk with
                        | zero => exact absurd HA.out (by simp [entrepotlaw19_JsonicBlanks.l2])
                        | succ k4 =>
                          have H := HA.out
                          clear HA
                          simp only [entrepotlaw19_JsonicBlanks.l2] at H
                          by_cases c38 : x16_4 < (x15_4.length : Int)
                          · rw [if_pos c38] at H
                            have c38b0 : decide (x16_4 < (x15_4.length : Int)) = true := decide_eq_true c38
                            clear c38
                            by_cases c39 : 0 ≤ x16_4
                            · rw [if_pos c39] at H
                              have c39b0 : decide (0 ≤ x16_4) = true := decide_eq_true c39
                              clear c39
                              obtain ⟨y224, hy224⟩ : ∃ y_ : List (S39), y_ = (x15_4.set (x16_4 : Int).toNat (⟨(rd_T39 x15_4 x16_4).f0, (rd_T39 x15_4 x16_4).f1, (rd_T39 x15_4 x16_4).f2, wrap64 (((rd_T39 x15_4 x16_4).f3) + (wrap64 ((x9_2.size : Int) - (a0.size : Int))))⟩ : S39)) := ⟨_, rfl⟩
                              replace H : (entrepotlaw19_JsonicBlanks.l2 k4 x9_3 (wrap64 ((x9_2.size : Int) - (a0.size : Int))) t214 y224 (wrap64 (x16_4 + 1)) t217 t218) = some r := by first | (rw [hy224]; with_reducible exact H) | (have H2_ := (Option.bind_some _ _).symm.trans H; rw [hy224]; with_reducible exact H2_) | (have H2_ := (Option.bind_some _ _).symm.trans H; with_reducible exact H2_) | with_reducible exact H | (rw [hy224]; exact H) | exact H
                              have Ny224 := Aside0.mk hy224
                              clear hy224
                              have H' := Aside0.mk H
                              clear H
                              obtain ⟨Ao41, co41, eo41⟩ := Kd.R_slice HO_15.out
                              subst eo41
                              have p223 : 0 ≤ (x16_4 : Int) := of_decide_eq_true (by first | (with_reducible assumption) | assumption)
                              have q223 : x16_4 < (x15_4.length : Int) := of_decide_eq_true (by first | (with_reducible assumption) | assumption)
                              obtain ⟨ad223, e223, hx223_0, hx223_1, hx223_2, hx223_3⟩ := at_T39 (Kd.R_reads' HO_15.out).2.2 x16_4 p223 q223
                              cases e223
                              replace p223 := eq_true p223
                              replace q223 := eq_true q223
                              have p40 : 0 ≤ (x16_4 : Int) := of_decide_eq_true (by first | (with_reducible assumption) | assumption)
                              have q40 : (x16_4 : Int) < ((x15_4.length : Int) : Int) := of_decide_eq_true (by first | (with_reducible assumption) | assumption)
                              obtain ⟨go40, co40, eo40, gb40, gl40, cl40, HG40⟩ := Kd.R_form HO_15.out (by omega)
                              (first | cases eo40 | (injection eo40 with ea_ en_ ec_; (first | subst ea_ | (injection ea_ with ea_; subst ea_)); subst ec_; clear en_))
                              have GB40 := Aside0.mk gb40
                              have GG40 := Aside0.mk HG40
                              clear gb40 gl40 HG40
                              (first | simp only [add_plain] at hx223_0 | skip)
                              (first | simp only [add_plain] at hx223_1 | skip)
                              (first | simp only [add_plain] at hx223_2 | skip)
                              (first | simp only [add_plain] at hx223_3 | skip)
                              obtain ⟨ce40, hcl40, hM40, hcc40, hfr40⟩ := Kd.R_elem HO_15.out z39 (x16_4 : Int) p40 q40
                              obtain rfl := k39_openM hM40
                              have hx40_0 : wr.cell? ⟨go40, (x16_4 : Int).toNat * 4, none⟩ = some (.int .i64 ((rd_T39 x15_4 x16_4).f0)) := hcc40 0 _ rfl
                              have hx40_1 : wr.cell? ⟨go40, (x16_4 : Int).toNat * 4 + 1, none⟩ = some (.int .i64 ((rd_T39 x15_4 x16_4).f1)) := hcc40 1 _ rfl
                              have hx40_2 : wr.cell? ⟨go40, (x16_4 : Int).toNat * 4 + 2, none⟩ = some (.string ((rd_T39 x15_4 x16_4).f2)) := hcc40 2 _ rfl
                              have hx40_3 : wr.cell? ⟨go40, (x16_4 : Int).toNat * 4 + 3, none⟩ = some (.int .i64 ((rd_T39 x15_4 x16_4).f3)) := hcc40 3 _ rfl
                              have hf40_0 : wr.frozen? ⟨go40, (x16_4 : Int).toNat * 4, none⟩ = false := hfr40 0
                              have hf40_1 : wr.frozen? ⟨go40, (x16_4 : Int).toNat * 4 + 1, none⟩ = false := hfr40 1
                              have hf40_2 : wr.frozen? ⟨go40, (x16_4 : Int).toNat * 4 + 2, none⟩ = false := hfr40 2
                              have hf40_3 : wr.frozen? ⟨go40, (x16_4 : Int).toNat * 4 + 3, none⟩ = false := hfr40 3
                              clear hcl40 hcc40 hfr40 hM40
                              replace p40 := eq_true p40
                              replace q40 := eq_true q40
                              have HX42 := Aside0.mk (show Kd.R k39 39 wr w.heap.size (fun _ => True) (.slice (some ⟨go40, 0, none⟩) x15_4.length co41) x15_4 from (by (with_reducible repeat (first | apply Kd.R_alloc | apply Kd.R_drewN | apply Kd.R_drew)); exact HO_15.out))
                              obtain ⟨ce42, hcl42, hM42, hcc42, hfr42⟩ := Kd.R_elem HX42.out z39 (x16_4 : Int) (of_decide_eq_true (by first | (with_reducible assumption) | assumption)) (by have h_ : (x16_4 : Int) < ((x15_4.length : Int) : Int) := of_decide_eq_true (by first | (with_reducible assumption) | assumption); first | exact h_ | (have e_ := (Kd.R_reads' HO_15.out).1; omega) | simpa using h_)
                              obtain rfl := k39_openM hM42
                              have HP42 := Kd.R_seg HX42.out (x16_4 : Int) (of_decide_eq_true (by first | (with_reducible assumption) | assumption)) (by have h_ : (x16_4 : Int) < ((x15_4.length : Int) : Int) := of_decide_eq_true (by first | (with_reducible assumption) | assumption); first | exact h_ | (have e_ := (Kd.R_reads' HO_15.out).1; omega) | simpa using h_) (seg := [.int .i64 (wrap64 (((rd_T39 x15_4 x16_4).f3) + (wrap64 ((x9_2.size : Int) - (a0.size : Int)))))]) (j := 3) hcl42 hcc42 (show 4 ≤ 4 from by decide) (x' := (⟨(rd_T39 x15_4 x16_4).f0, (rd_T39 x15_4 x16_4).f1, (rd_T39 x15_4 x16_4).f2, wrap64 (((rd_T39 x15_4 x16_4).f3) + (wrap64 ((x9_2.size : Int) - (a0.size : Int))))⟩ : S39)) (k39_mkM _ _ _ (⟨(rd_T39 x15_4 x16_4).f0, (rd_T39 x15_4 x16_4).f1, (rd_T39 x15_4 x16_4).f2, wrap64 (((rd_T39 x15_4 x16_4).f3) + (wrap64 ((x9_2.size : Int) - (a0.size : Int))))⟩ : S39) ) (fun _ hk => hk)
                              have hx42_3 := hcc42 3 _ rfl
                              (try simp only [show (k39).sz = 4 from rfl, Nat.mul_one, Nat.add_zero] at hx42_3)
                              have hf42_3 := hfr42 3
                              (try simp only [show (k39).sz = 4 from rfl, Nat.mul_one, Nat.add_zero] at hf42_3)
                              clear hcl42 hcc42 hfr42 hM42
                              go_wp2_with (first | ((with_reducible refine gate_store (t := 3) (p := 93) rfl ?_); refine store_event (t := 3) (p := 93) (v := ?vo_w43) (w1 := (wr.setCell ⟨go40, (x16_4 : Int).toNat * 4 + 3, none⟩ (.int .i64 (wrap64 (((rd_T39 x15_4 x16_4).f3) + (wrap64 ((x9_2.size : Int) - (a0.size : Int)))))))) ?hg ?ho ?hn ?hr ?_; (case ho => rfl); (case hg => rfl); (case hn => rfl); (case hr => first | (go_simp; done) | (go_simp; rfl)); intro w43 hw; have hg : wr.grownBy w43 (some go40) := (by rw [hw]; exact HP42.2); have hp_ : Kd.R k39 39 w43 w.heap.size (fun _ => True) (.slice (some ⟨go40, 0, none⟩) x15_4.length co41) y224 := (by rw [hw, Ny224.out]; exact HP42.1); clear HP42; have n0_ := Aside0.mk (Kd.R_over' (v := (.slice (some ⟨go40, 0, none⟩) x15_4.length co41)) (by (with_reducible repeat (first | apply Kd.R_alloc | apply Kd.R_drewN | apply Kd.R_drew)); exact HO_13.out) (Kd.R_typed HO_15.out) (by decide) hg); have n1_ := Aside0.mk (hp_); have n2_ := Aside0.mk (blk_grown (g := gb205) (o := .cells #[.int .i64 t203, .int .i64 t204] 34 (0, 0)) (by (with_reducible repeat (first | refine blk_drewN ?_ _ | refine blk_drew ?_ | refine blk_alloc ?_ _)); exact BK205.out) hg (Kd.R_ne HO_15.out BK205.out (by decide))); have n3_ := Aside0.mk (blk_grown (g := gb219) (o := .cells #[.int .i64 t217, .int .i64 t218] 34 (0, 0)) (by (with_reducible repeat (first | refine blk_drewN ?_ _ | refine blk_drew ?_ | refine blk_alloc ?_ _)); exact BK219.out) hg (Kd.R_ne HO_15.out BK219.out (by decide))); have n4_ := Aside0.mk ((by rw [hw]; exact below_set (HB.out) GB40.out : Below w.heap.size w w43)); clear HO_13; clear HO_15; clear BK205; clear BK219; clear HB; have HO_13 := n0_; have HO_15 := n1_; have BK205 := n2_; have BK219 := n3_; have HB := n4_; clear n0_ n1_ n2_ n3_ n4_; clear hg hw hp_))
                              go_roundg k4
                              case measure => have := HJ3.out; have := HK2.out; have := HK3.out; have := HK4.out; omega
                              case rel => exact ⟨(y224), (wrap64 (x16_4 + 1)), (by first | rfl | (simp; done) | (simp [*]; done)), H', ⟨by have := HJ3.out; have := HK2.out; have := HK3.out; have := HK4.out; omega⟩, ⟨by (with_reducible repeat (first | apply Kd.R_alloc | apply Kd.R_drewN | apply Kd.R_drew)); exact HO_13.out⟩, ⟨by (with_reducible repeat (first | apply Kd.R_alloc | apply Kd.R_drewN | apply Kd.R_drew)); exact HO_15.out⟩, ⟨by (with_reducible repeat (first | refine blk_drewN ?_ _ | refine blk_drew ?_ | refine blk_alloc ?_ _)); exact BK205.out⟩, ⟨by (with_reducible repeat (first | refine blk_drewN ?_ _ | refine blk_drew ?_ | refine blk_alloc ?_ _)); exact BK219.out⟩, ⟨by repeat (first | (with_reducible first | exact HB.out | apply below_alloc | apply pw_below_drewN | apply below_drew1 | refine below_set ?_ GE205.out | refine below_set ?_ GE219.out) | exact HB.out)⟩⟩
                            · rw [if_neg c39] at H
                              exact absurd H (by simp)
                          · rw [if_neg c38] at H
                            have c38b0 : decide (x16_4 < (x15_4.length : Int)) = false := decide_eq_false c38
                            clear c38
                            by_cases c44 : x9_3.size + 2 ≤ 9223372036854775807
                            · rw [if_pos c44] at H
                              have c44b0 := eq_true c44
                              have c44b1 : decide (x9_3.size + 2 ≤ 9223372036854775807) = true := decide_eq_true c44
                              try have c44b2 : (9223372036854775807 < x9_3.size + 2) = False := eq_false (Nat.not_lt.2 c44)
                              replace H := Option.bind_eq_some_iff.mp H
                              obtain ⟨⟨t225, t228, t229⟩, A450, H⟩ := H
                              replace H : (if (t217 == 0 && (t218 == 0)) = true then ((entrepotlaw19_its.f k4 t214).bind fun t231 => ((entrepotref19_Same.f k4 t231 x15_4).bind fun t234 => (if t234 = true then (if (t225.length : Int) = 0 then (some (t228 == (wrap64 ((x9_3.size : Int) + 1)) && (t229 == 190))) else (some false)) else (some false)))) else (some false)) = some r := H
                              have A45 := Aside0.mk A450
                              clear A450
                              by_cases c46 : (t217 == 0 && (t218 == 0)) = true
                              · rw [if_pos c46] at H
                                have c46b0 : (t217 == 0 && (t218 == 0)) = true := c46
                                (try (have c46b1 : decide (t217 = 0 && (t218 == 0)) = true := by simpa using c46))
                                (try (have c46b2 : (t217 == 0 && (t218 == 0)) = true := by simpa using c46))
                                clear c46
                                replace H := Option.bind_eq_some_iff.mp H
                                obtain ⟨t231, A470, H⟩ := H
                                replace H : ((entrepotref19_Same.f k4 t231 x15_4).bind fun t234 => (if t234 = true then (if (t225.length : Int) = 0 then (some (t228 == (wrap64 ((x9_3.size : Int) + 1)) && (t229 == 190))) else (some false)) else (some false))) = some r := H
                                have A47 := Aside0.mk A470
                                clear A470
                                replace H := Option.bind_eq_some_iff.mp H
                                obtain ⟨t234, A480, H⟩ := H
                                replace H : (if t234 = true then (if (t225.length : Int) = 0 then (some (t228 == (wrap64 ((x9_3.size : Int) + 1)) && (t229 == 190))) else (some false)) else (some false)) = some r := H
                                have A48 := Aside0.mk A480
                                clear A480
                                by_cases c49 : t234 = true
                                · subst c49
                                  have H1 : (if (t225.length : Int) = 0 then (some (t228 == (wrap64 ((x9_3.size : Int) + 1)) && (t229 == 190))) else (some false)) = some r := by rw [if_pos rfl] at H; exact H
                                  clear H
                                  have H := H1
                                  clear H1
                                  by_cases c50 : (t225.length : Int) = 0
                                  · rw [if_pos c50] at H
                                    have c50b0 : ((t225.length : Int) == 0) = true := beq_iff_eq.mpr c50
                                    have c50b1 : ((t225.length : Int) != 0) = false := bne_eq_false_iff_eq.mpr c50
                                    clear c50
                                    obtain rfl := Option.some.inj H
                                    obtain ⟨Ao51, co51, eo51⟩ := Kd.R_slice HO_15.out
                                    subst eo51
                                    go_wp2_with (first | ((with_reducible refine gate_callee (f := 15) rfl ?_); refine goesL_ (some 97) rfl rfl Tryd.func15 (by kernel_rfl) rfl #[.string (x9_3 ++ (⟨#[32, 93]⟩ : ByteArray))] rfl (by (try simp only [List.map_toArray, List.map_cons, List.map_nil]); first | done | rfl | (simp only [List.length_drop, List.length_take]; rfl)) ?_; (with_reducible refine (jsonic_Parse.calls (x9_3 ++ (⟨#[32, 93]⟩ : ByteArray)) t225 t228 t229 _ (Tab.below HT (by repeat (first | (with_reducible first | exact HB.out | apply below_alloc | apply pw_below_drewN | apply below_drew1 | refine below_set ?_ GE205.out | refine below_set ?_ GE219.out) | exact HB.out))) A45.out).mono ?_); rintro e w52 ⟨v226, rfl, ho0, hb⟩; refine ⟨_, rfl, ?_⟩; have n0_ := Aside0.mk (Kd.R_elder' (by (with_reducible repeat (first | apply Kd.R_alloc | apply Kd.R_drewN | apply Kd.R_drew)); exact HO_13.out) (Kd.R_base ho0) hb); have n1_ := Aside0.mk (Kd.R_below (by (with_reducible repeat (first | apply Kd.R_alloc | apply Kd.R_drewN | apply Kd.R_drew)); exact HO_15.out) hb); have n2_ := Aside0.mk (Kd.R_lower (Kd.R_new' ho0 (Kd.R_lt (by (with_reducible repeat (first | apply Kd.R_alloc | apply Kd.R_drewN | apply Kd.R_drew)); exact HO_13.out))) (below_size (by repeat (first | (with_reducible first | exact HB.out | apply below_alloc | apply pw_below_drewN | apply below_drew1 | refine below_set ?_ GE205.out | refine below_set ?_ GE219.out) | exact HB.out)))); have n3_ := Aside0.mk (blk_below (g := gb205) (o := .cells #[.int .i64 t203, .int .i64 t204] 34 (0, 0)) (by (with_reducible repeat (first | refine blk_drewN ?_ _ | refine blk_drew ?_ | refine blk_alloc ?_ _)); exact BK205.out) hb); have n4_ := Aside0.mk (blk_below (g := gb219) (o := .cells #[.int .i64 t217, .int .i64 t218] 34 (0, 0)) (by (with_reducible repeat (first | refine blk_drewN ?_ _ | refine blk_drew ?_ | refine blk_alloc ?_ _)); exact BK219.out) hb); have n5_ := Aside0.mk (below_step (by repeat (first | (with_reducible first | exact HB.out | apply below_alloc | apply pw_below_drewN | apply below_drew1 | refine below_set ?_ GE205.out | refine below_set ?_ GE219.out) | exact HB.out)) hb); clear HO_13; clear HO_15; clear BK205; clear BK219; clear HB; have HO_13 := n0_; have HO_15 := n1_; have HO227 := n2_; have BK205 := n3_; have BK219 := n4_; have HB := n5_; clear n0_ n1_ n2_ n3_ n4_ n5_; (try clear hb); (try clear hb2); (try clear hk); (try clear hi); (try clear ho0)) | ((with_reducible refine gate_dst (N := 18) rfl ?_); (try (refine gate_guard (by rfl) ?_; dsimp only)); refine box_event ?hg (N := 18) ?hd (cs := #[.int .i64 0, .int .i64 0]) (t := 34) ?hr ?_; (case hd => rfl); (case hg => rfl); (case hr => first | (go_simp; done) | (go_simp; rfl)); intro gb230 hg w53 hbox hb; have n0_ := Aside0.mk (Kd.R_below (by (with_reducible repeat (first | apply Kd.R_alloc | apply Kd.R_drewN | apply Kd.R_drew)); exact HO_13.out) hb); have n1_ := Aside0.mk (Kd.R_below (by (with_reducible repeat (first | apply Kd.R_alloc | apply Kd.R_drewN | apply Kd.R_drew)); exact HO_15.out) hb); have n2_ := Aside0.mk (Kd.R_below (by (with_reducible repeat (first | apply Kd.R_alloc | apply Kd.R_drewN | apply Kd.R_drew)); exact HO227.out) hb); have n3_ := Aside0.mk (blk_below (g := gb205) (o := .cells #[.int .i64 t203, .int .i64 t204] 34 (0, 0)) (by (with_reducible repeat (first | refine blk_drewN ?_ _ | refine blk_drew ?_ | refine blk_alloc ?_ _)); exact BK205.out) hb); have n4_ := Aside0.mk (blk_below (g := gb219) (o := .cells #[.int .i64 t217, .int .i64 t218] 34 (0, 0)) (by (with_reducible repeat (first | refine blk_drewN ?_ _ | refine blk_drew ?_ | refine blk_alloc ?_ _)); exact BK219.out) hb); have n5_ := Aside0.mk (below_step (by repeat (first | (with_reducible first | exact HB.out | apply below_alloc | apply pw_below_drewN | apply below_drew1 | refine below_set ?_ GE205.out | refine below_set ?_ GE219.out) | exact HB.out)) hb); have n6_ := Aside0.mk (hbox); have n7_ := Aside0.mk ((by rw [hg]; exact (below_size (by repeat (first | (with_reducible first | exact HB.out | apply below_alloc | apply pw_below_drewN | apply below_drew1 | refine below_set ?_ GE205.out | refine below_set ?_ GE219.out) | exact HB.out))) : w.heap.size ≤ gb230)); have n8_ := Aside0.mk ((by rw [hg]; exact (below_size (by repeat (first | (with_reducible first | exact HB.out | apply below_alloc | apply pw_below_drewN | apply below_drew1 | refine below_set ?_ GE205.out | refine below_set ?_ GE219.out) | exact HB.out))) : w.heap.size ≤ gb230)); have n9_ := Aside0.mk ((by rw [hg]; exact Nat.ne_of_lt (blk_lt (g := gb205) (o := .cells #[.int .i64 t203, .int .i64 t204] 34 (0, 0)) (by (with_reducible repeat (first | refine blk_drewN ?_ _ | refine blk_drew ?_ | refine blk_alloc ?_ _)); exact BK205.out)) : gb205 ≠ gb230)); have n10_ := Aside0.mk ((by rw [hg]; exact Nat.ne_of_gt (blk_lt (g := gb205) (o := .cells #[.int .i64 t203, .int .i64 t204] 34 (0, 0)) (by (with_reducible repeat (first | refine blk_drewN ?_ _ | refine blk_drew ?_ | refine blk_alloc ?_ _)); exact BK205.out)) : gb230 ≠ gb205)); have n11_ := Aside0.mk ((by rw [hg]; exact Nat.ne_of_lt (blk_lt (g := gb219) (o := .cells #[.int .i64 t217, .int .i64 t218] 34 (0, 0)) (by (with_reducible repeat (first | refine blk_drewN ?_ _ | refine blk_drew ?_ | refine blk_alloc ?_ _)); exact BK219.out)) : gb219 ≠ gb230)); have n12_ := Aside0.mk ((by rw [hg]; exact Nat.ne_of_gt (blk_lt (g := gb219) (o := .cells #[.int .i64 t217, .int .i64 t218] 34 (0, 0)) (by (with_reducible repeat (first | refine blk_drewN ?_ _ | refine blk_drew ?_ | refine blk_alloc ?_ _)); exact BK219.out)) : gb230 ≠ gb219)); clear HO_13; clear HO_15; clear HO227; clear BK205; clear BK219; clear HB; have HO_13 := n0_; have HO_15 := n1_; have HO227 := n2_; have BK205 := n3_; have BK219 := n4_; have HB := n5_; have BK230 := n6_; have GW230 := n7_; have GE230 := n8_; have NB205_230 := n9_; have NB230_205 := n10_; have NB219_230 := n11_; have NB230_219 := n12_; clear n0_ n1_ n2_ n3_ n4_ n5_ n6_ n7_ n8_ n9_ n10_ n11_ n12_; clear hb hbox hg; have hnb54 := NB230_205.out; have hnc54 := NB205_230.out; have hnb55 := NB230_219.out; have hnc55 := NB219_230.out; have hcz56_0 : w53.cell? ⟨gb230, 0, none⟩ = some (.int .i64 0) := (blk_cell BK230.out 0).trans rfl; have hcz56_1 : w53.cell? ⟨gb230, 1, none⟩ = some (.int .i64 0) := (blk_cell BK230.out 1).trans rfl; have hfz56_0 := blk_frozen BK230.out 0; have hfz56_1 := blk_frozen BK230.out 1; have hnb57 := NB219_205.out; have hnc57 := NB205_219.out; have hcz58_0 : w53.cell? ⟨gb219, 0, none⟩ = some (.int .i64 t217) := (blk_cell BK219.out 0).trans rfl; have hcz58_1 : w53.cell? ⟨gb219, 1, none⟩ = some (.int .i64 t218) := (blk_cell BK219.out 1).trans rfl; have hfz58_0 := blk_frozen BK219.out 0; have hfz58_1 := blk_frozen BK219.out 1; obtain ⟨Ao59, co59, eo59⟩ := Kd.R_slice HO_13.out; subst eo59) | (go_at_call 12; (with_reducible refine (entrepotlaw19_its.calls k4 _ _ t214 t231 _ ?side1 ?side2 A47.out).mono ?_); (case side1 => refine (Kd.R_reads' (e := 38) (base := w.heap.size) (ok := fun k_ => (True ∧ some k_ ≠ (v226 : Value).ownBlock)) (n := t214.length) (c := co59) ?_).2.2; exact (by (with_reducible repeat (first | apply Kd.R_alloc | apply Kd.R_drewN | apply Kd.R_drew)); exact (Kd.R_mono (Kd.R_far (p := ⟨gb230, 1, none⟩) (Kd.R_far (p := ⟨gb230, 0, none⟩) (Kd.R_types HO_13.out BK230.out (by decide)) (fun _ hk => hk.2) (.int .i64 t228)) (fun _ hk => hk.2) (.int .i64 t229)) (fun _ h_ => h_.1)))); (case side2 => exact (Kd.R_reads' HO_13.out).2.1); rintro e w60 ⟨v232, rfl, ho0, hb⟩; have n0_ := Aside0.mk (Kd.R_below (by (with_reducible repeat (first | apply Kd.R_alloc | apply Kd.R_drewN | apply Kd.R_drew)); exact (Kd.R_mono (Kd.R_far (p := ⟨gb230, 1, none⟩) (Kd.R_far (p := ⟨gb230, 0, none⟩) (Kd.R_types HO_13.out BK230.out (by decide)) (fun _ hk => hk.2) (.int .i64 t228)) (fun _ hk => hk.2) (.int .i64 t229)) (fun _ h_ => h_.1))) hb); have n1_ := Aside0.mk (Kd.R_elder' (by (with_reducible repeat (first | apply Kd.R_alloc | apply Kd.R_drewN | apply Kd.R_drew)); exact (Kd.R_mono (Kd.R_far (p := ⟨gb230, 1, none⟩) (Kd.R_far (p := ⟨gb230, 0, none⟩) (Kd.R_types HO_15.out BK230.out (by decide)) (fun _ hk => hk.2) (.int .i64 t228)) (fun _ hk => hk.2) (.int .i64 t229)) (fun _ h_ => h_.1))) (Kd.R_base ho0) hb); have n2_ := Aside0.mk (Kd.R_below (by (with_reducible repeat (first | apply Kd.R_alloc | apply Kd.R_drewN | apply Kd.R_drew)); exact (Kd.R_mono (Kd.R_far (p := ⟨gb230, 1, none⟩) (Kd.R_far (p := ⟨gb230, 0, none⟩) (Kd.R_types HO227.out BK230.out (by decide)) (fun _ hk => hk.2) (.int .i64 t228)) (fun _ hk => hk.2) (.int .i64 t229)) (fun _ h_ => h_.1))) hb); have n3_ := Aside0.mk (Kd.R_lower (Kd.R_new' ho0 (Kd.R_lt (by (with_reducible repeat (first | apply Kd.R_alloc | apply Kd.R_drewN | apply Kd.R_drew)); exact (Kd.R_mono (Kd.R_far (p := ⟨gb230, 1, none⟩) (Kd.R_far (p := ⟨gb230, 0, none⟩) (Kd.R_types HO_15.out BK230.out (by decide)) (fun _ hk => hk.2) (.int .i64 t228)) (fun _ hk => hk.2) (.int .i64 t229)) (fun _ h_ => h_.1))))) (below_size (by repeat (first | (with_reducible first | exact HB.out | apply below_alloc | apply pw_below_drewN | apply below_drew1 | refine below_set ?_ GE205.out | refine below_set ?_ GE219.out | refine below_set ?_ GE230.out) | exact HB.out)))); have n4_ := Aside0.mk (blk_below (g := gb205) (o := .cells #[.int .i64 t203, .int .i64 t204] 34 (0, 0)) (by (with_reducible repeat (first | refine blk_drewN ?_ _ | refine blk_drew ?_ | refine blk_alloc ?_ _)); refine blk_far ?_ NB205_230.out _; (with_reducible repeat (first | refine blk_drewN ?_ _ | refine blk_drew ?_ | refine blk_alloc ?_ _)); refine blk_far ?_ NB205_230.out _; (with_reducible repeat (first | refine blk_drewN ?_ _ | refine blk_drew ?_ | refine blk_alloc ?_ _)); exact BK205.out) hb); have n5_ := Aside0.mk (blk_below (g := gb219) (o := .cells #[.int .i64 t217, .int .i64 t218] 34 (0, 0)) (by (with_reducible repeat (first | refine blk_drewN ?_ _ | refine blk_drew ?_ | refine blk_alloc ?_ _)); refine blk_far ?_ NB219_230.out _; (with_reducible repeat (first | refine blk_drewN ?_ _ | refine blk_drew ?_ | refine blk_alloc ?_ _)); refine blk_far ?_ NB219_230.out _; (with_reducible repeat (first | refine blk_drewN ?_ _ | refine blk_drew ?_ | refine blk_alloc ?_ _)); exact BK219.out) hb); have n6_ := Aside0.mk (blk_below (g := gb230) (o := .cells #[.int .i64 t228, .int .i64 t229] 34 (0, 0)) (by (with_reducible repeat (first | refine blk_drewN ?_ _ | refine blk_drew ?_ | refine blk_alloc ?_ _)); refine blk_put (cs := #[.int .i64 t228, .int .i64 0]) ?_ 1 _ rfl; (with_reducible repeat (first | refine blk_drewN ?_ _ | refine blk_drew ?_ | refine blk_alloc ?_ _)); refine blk_put (cs := #[.int .i64 0, .int .i64 0]) ?_ 0 _ rfl; (with_reducible repeat (first | refine blk_drewN ?_ _ | refine blk_drew ?_ | refine blk_alloc ?_ _)); exact BK230.out) hb); have n7_ := Aside0.mk (below_step (by repeat (first | (with_reducible first | exact HB.out | apply below_alloc | apply pw_below_drewN | apply below_drew1 | refine below_set ?_ GE205.out | refine below_set ?_ GE219.out | refine below_set ?_ GE230.out) | exact HB.out)) hb); clear HO_13; clear HO_15; clear HO227; clear BK205; clear BK219; clear BK230; clear HB; have HO_13 := n0_; have HO_15 := n1_; have HO227 := n2_; have HO233 := n3_; have BK205 := n4_; have BK219 := n5_; have BK230 := n6_; have HB := n7_; clear n0_ n1_ n2_ n3_ n4_ n5_ n6_ n7_; (try clear hb); (try clear hb2); (try clear hk); (try clear hi); (try clear ho0); obtain ⟨Ao61, co61, eo61⟩ := Kd.R_slice HO233.out; subst eo61) | (go_at_call 16; (with_reducible refine (entrepotref19_Same.calls k4 _ _ t231 _ _ x15_4 true _ ?side1 ?side2 ?side3 ?side4 A48.out).mono ?_); (case side1 => repeat (first | exact (Kd.R_reads' HO233.out).2.2 | (with_reducible refine Kd.C_alloc ?_ _) | (with_reducible refine Kd.C_drewN ?_ _) | (with_reducible refine Kd.C_drew ?_))); (case side2 => exact (Kd.R_reads' HO233.out).2.1); (case side3 => repeat (first | exact (Kd.R_reads' HO_15.out).2.2 | (with_reducible refine Kd.C_alloc ?_ _) | (with_reducible refine Kd.C_drewN ?_ _) | (with_reducible refine Kd.C_drew ?_))); (case side4 => exact (Kd.R_reads' HO_15.out).2.1); rintro e w' ⟨rfl, ⟨nd, rfl⟩⟩; obtain ⟨Ao62, co62, eo62⟩ := Kd.R_slice HO227.out; subst eo62; have hcz63_0 : w60.cell? ⟨gb230, 0, none⟩ = some (.int .i64 t228) := (blk_cell BK230.out 0).trans rfl; have hcz63_1 : w60.cell? ⟨gb230, 1, none⟩ = some (.int .i64 t229) := (blk_cell BK230.out 1).trans rfl; have hfz63_0 := blk_frozen BK230.out 0; have hfz63_1 := blk_frozen BK230.out 1))
                                    go_ret
                                    exact ⟨by first | rfl | (simp [errW_none, errW_some] <;> rfl) | (rw [show wrap64 ((x9_3.size : Int) + 1) = (x9_3.size : Int) + 1 by unfold wrap64; omega] <;> rfl) | (simp [*, errW_none, errW_some] <;> rfl), by repeat (first | (with_reducible first | exact HB.out | apply below_alloc | apply pw_below_drewN | apply below_drew1 | refine below_set ?_ GE205.out | refine below_set ?_ GE219.out | refine below_set ?_ GE230.out) | exact HB.out)⟩
                                  · rw [if_neg c50] at H
                                    have c50b0 : ((t225.length : Int) == 0) = false := beq_eq_false_iff_ne.mpr c50
                                    have c50b1 : ((t225.length : Int) != 0) = true := bne_iff_ne.mpr c50
                                    have c50b2 : ¬ (t225 = []) := fun h_ => c50 (by rw [h_]; rfl)
                                    obtain rfl := Option.some.inj H
                                    obtain ⟨Ao64, co64, eo64⟩ := Kd.R_slice HO_15.out
                                    subst eo64
                                    go_wp2_with (first | ((with_reducible refine gate_callee (f := 15) rfl ?_); refine goesL_ (some 97) rfl rfl Tryd.func15 (by kernel_rfl) rfl #[.string (x9_3 ++ (⟨#[32, 93]⟩ : ByteArray))] rfl (by (try simp only [List.map_toArray, List.map_cons, List.map_nil]); first | done | rfl | (simp only [List.length_drop, List.length_take]; rfl)) ?_; (with_reducible refine (jsonic_Parse.calls (x9_3 ++ (⟨#[32, 93]⟩ : ByteArray)) t225 t228 t229 _ (Tab.below HT (by repeat (first | (with_reducible first | exact HB.out | apply below_alloc | apply pw_below_drewN | apply below_drew1 | refine below_set ?_ GE205.out | refine below_set ?_ GE219.out) | exact HB.out))) A45.out).mono ?_); rintro e w65 ⟨v226, rfl, ho0, hb⟩; refine ⟨_, rfl, ?_⟩; have n0_ := Aside0.mk (Kd.R_elder' (by (with_reducible repeat (first | apply Kd.R_alloc | apply Kd.R_drewN | apply Kd.R_drew)); exact HO_13.out) (Kd.R_base ho0) hb); have n1_ := Aside0.mk (Kd.R_below (by (with_reducible repeat (first | apply Kd.R_alloc | apply Kd.R_drewN | apply Kd.R_drew)); exact HO_15.out) hb); have n2_ := Aside0.mk (Kd.R_lower (Kd.R_new' ho0 (Kd.R_lt (by (with_reducible repeat (first | apply Kd.R_alloc | apply Kd.R_drewN | apply Kd.R_drew)); exact HO_13.out))) (below_size (by repeat (first | (with_reducible first | exact HB.out | apply below_alloc | apply pw_below_drewN | apply below_drew1 | refine below_set ?_ GE205.out | refine below_set ?_ GE219.out) | exact HB.out)))); have n3_ := Aside0.mk (blk_below (g := gb205) (o := .cells #[.int .i64 t203, .int .i64 t204] 34 (0, 0)) (by (with_reducible repeat (first | refine blk_drewN ?_ _ | refine blk_drew ?_ | refine blk_alloc ?_ _)); exact BK205.out) hb); have n4_ := Aside0.mk (blk_below (g := gb219) (o := .cells #[.int .i64 t217, .int .i64 t218] 34 (0, 0)) (by (with_reducible repeat (first | refine blk_drewN ?_ _ | refine blk_drew ?_ | refine blk_alloc ?_ _)); exact BK219.out) hb); have n5_ := Aside0.mk (below_step (by repeat (first | (with_reducible first | exact HB.out | apply below_alloc | apply pw_below_drewN | apply below_drew1 | refine below_set ?_ GE205.out | refine below_set ?_ GE219.out) | exact HB.out)) hb); clear HO_13; clear HO_15; clear BK205; clear BK219; clear HB; have HO_13 := n0_; have HO_15 := n1_; have HO227 := n2_; have BK205 := n3_; have BK219 := n4_; have HB := n5_; clear n0_ n1_ n2_ n3_ n4_ n5_; (try clear hb); (try clear hb2); (try clear hk); (try clear hi); (try clear ho0)) | ((with_reducible refine gate_dst (N := 18) rfl ?_); (try (refine gate_guard (by rfl) ?_; dsimp only)); refine box_event ?hg (N := 18) ?hd (cs := #[.int .i64 0, .int .i64 0]) (t := 34) ?hr ?_; (case hd => rfl); (case hg => rfl); (case hr => first | (go_simp; done) | (go_simp; rfl)); intro gb230 hg w66 hbox hb; have n0_ := Aside0.mk (Kd.R_below (by (with_reducible repeat (first | apply Kd.R_alloc | apply Kd.R_drewN | apply Kd.R_drew)); exact HO_13.out) hb); have n1_ := Aside0.mk (Kd.R_below (by (with_reducible repeat (first | apply Kd.R_alloc | apply Kd.R_drewN | apply Kd.R_drew)); exact HO_15.out) hb); have n2_ := Aside0.mk (Kd.R_below (by (with_reducible repeat (first | apply Kd.R_alloc | apply Kd.R_drewN | apply Kd.R_drew)); exact HO227.out) hb); have n3_ := Aside0.mk (blk_below (g := gb205) (o := .cells #[.int .i64 t203, .int .i64 t204] 34 (0, 0)) (by (with_reducible repeat (first | refine blk_drewN ?_ _ | refine blk_drew ?_ | refine blk_alloc ?_ _)); exact BK205.out) hb); have n4_ := Aside0.mk (blk_below (g := gb219) (o := .cells #[.int .i64 t217, .int .i64 t218] 34 (0, 0)) (by (with_reducible repeat (first | refine blk_drewN ?_ _ | refine blk_drew ?_ | refine blk_alloc ?_ _)); exact BK219.out) hb); have n5_ := Aside0.mk (below_step (by repeat (first | (with_reducible first | exact HB.out | apply below_alloc | apply pw_below_drewN | apply below_drew1 | refine below_set ?_ GE205.out | refine below_set ?_ GE219.out) | exact HB.out)) hb); have n6_ := Aside0.mk (hbox); have n7_ := Aside0.mk ((by rw [hg]; exact (below_size (by repeat (first | (with_reducible first | exact HB.out | apply below_alloc | apply pw_below_drewN | apply below_drew1 | refine below_set ?_ GE205.out | refine below_set ?_ GE219.out) | exact HB.out))) : w.heap.size ≤ gb230)); have n8_ := Aside0.mk ((by rw [hg]; exact (below_size (by repeat (first | (with_reducible first | exact HB.out | apply below_alloc | apply pw_below_drewN | apply below_drew1 | refine below_set ?_ GE205.out | refine below_set ?_ GE219.out) | exact HB.out))) : w.heap.size ≤ gb230)); have n9_ := Aside0.mk ((by rw [hg]; exact Nat.ne_of_lt (blk_lt (g := gb205) (o := .cells #[.int .i64 t203, .int .i64 t204] 34 (0, 0)) (by (with_reducible repeat (first | refine blk_drewN ?_ _ | refine blk_drew ?_ | refine blk_alloc ?_ _)); exact BK205.out)) : gb205 ≠ gb230)); have n10_ := Aside0.mk ((by rw [hg]; exact Nat.ne_of_gt (blk_lt (g := gb205) (o := .cells #[.int .i64 t203, .int .i64 t204] 34 (0, 0)) (by (with_reducible repeat (first | refine blk_drewN ?_ _ | refine blk_drew ?_ | refine blk_alloc ?_ _)); exact BK205.out)) : gb230 ≠ gb205)); have n11_ := Aside0.mk ((by rw [hg]; exact Nat.ne_of_lt (blk_lt (g := gb219) (o := .cells #[.int .i64 t217, .int .i64 t218] 34 (0, 0)) (by (with_reducible repeat (first | refine blk_drewN ?_ _ | refine blk_drew ?_ | refine blk_alloc ?_ _)); exact BK219.out)) : gb219 ≠ gb230)); have n12_ := Aside0.mk ((by rw [hg]; exact Nat.ne_of_gt (blk_lt (g := gb219) (o := .cells #[.int .i64 t217, .int .i64 t218] 34 (0, 0)) (by (with_reducible repeat (first | refine blk_drewN ?_ _ | refine blk_drew ?_ | refine blk_alloc ?_ _)); exact BK219.out)) : gb230 ≠ gb219)); clear HO_13; clear HO_15; clear HO227; clear BK205; clear BK219; clear HB; have HO_13 := n0_; have HO_15 := n1_; have HO227 := n2_; have BK205 := n3_; have BK219 := n4_; have HB := n5_; have BK230 := n6_; have GW230 := n7_; have GE230 := n8_; have NB205_230 := n9_; have NB230_205 := n10_; have NB219_230 := n11_; have NB230_219 := n12_; clear n0_ n1_ n2_ n3_ n4_ n5_ n6_ n7_ n8_ n9_ n10_ n11_ n12_; clear hb hbox hg; have hnb67 := NB230_205.out; have hnc67 := NB205_230.out; have hnb68 := NB230_219.out; have hnc68 := NB219_230.out; have hcz69_0 : w66.cell? ⟨gb230, 0, none⟩ = some (.int .i64 0) := (blk_cell BK230.out 0).trans rfl; have hcz69_1 : w66.cell? ⟨gb230, 1, none⟩ = some (.int .i64 0) := (blk_cell BK230.out 1).trans rfl; have hfz69_0 := blk_frozen BK230.out 0; have hfz69_1 := blk_frozen BK230.out 1; have hnb70 := NB219_205.out; have hnc70 := NB205_219.out; have hcz71_0 : w66.cell? ⟨gb219, 0, none⟩ = some (.int .i64 t217) := (blk_cell BK219.out 0).trans rfl; have hcz71_1 : w66.cell? ⟨gb219, 1, none⟩ = some (.int .i64 t218) := (blk_cell BK219.out 1).trans rfl; have hfz71_0 := blk_frozen BK219.out 0; have hfz71_1 := blk_frozen BK219.out 1; obtain ⟨Ao72, co72, eo72⟩ := Kd.R_slice HO_13.out; subst eo72) | (go_at_call 12; (with_reducible refine (entrepotlaw19_its.calls k4 _ _ t214 t231 _ ?side1 ?side2 A47.out).mono ?_); (case side1 => refine (Kd.R_reads' (e := 38) (base := w.heap.size) (ok := fun k_ => (True ∧ some k_ ≠ (v226 : Value).ownBlock)) (n := t214.length) (c := co72) ?_).2.2; exact (by (with_reducible repeat (first | apply Kd.R_alloc | apply Kd.R_drewN | apply Kd.R_drew)); exact (Kd.R_mono (Kd.R_far (p := ⟨gb230, 1, none⟩) (Kd.R_far (p := ⟨gb230, 0, none⟩) (Kd.R_types HO_13.out BK230.out (by decide)) (fun _ hk => hk.2) (.int .i64 t228)) (fun _ hk => hk.2) (.int .i64 t229)) (fun _ h_ => h_.1)))); (case side2 => exact (Kd.R_reads' HO_13.out).2.1); rintro e w73 ⟨v232, rfl, ho0, hb⟩; have n0_ := Aside0.mk (Kd.R_below (by (with_reducible repeat (first | apply Kd.R_alloc | apply Kd.R_drewN | apply Kd.R_drew)); exact (Kd.R_mono (Kd.R_far (p := ⟨gb230, 1, none⟩) (Kd.R_far (p := ⟨gb230, 0, none⟩) (Kd.R_types HO_13.out BK230.out (by decide)) (fun _ hk => hk.2) (.int .i64 t228)) (fun _ hk => hk.2) (.int .i64 t229)) (fun _ h_ => h_.1))) hb); have n1_ := Aside0.mk (Kd.R_elder' (by (with_reducible repeat (first | apply Kd.R_alloc | apply Kd.R_drewN | apply Kd.R_drew)); exact (Kd.R_mono (Kd.R_far (p := ⟨gb230, 1, none⟩) (Kd.R_far (p := ⟨gb230, 0, none⟩) (Kd.R_types HO_15.out BK230.out (by decide)) (fun _ hk => hk.2) (.int .i64 t228)) (fun _ hk => hk.2) (.int .i64 t229)) (fun _ h_ => h_.1))) (Kd.R_base ho0) hb); have n2_ := Aside0.mk (Kd.R_below (by (with_reducible repeat (first | apply Kd.R_alloc | apply Kd.R_drewN | apply Kd.R_drew)); exact (Kd.R_mono (Kd.R_far (p := ⟨gb230, 1, none⟩) (Kd.R_far (p := ⟨gb230, 0, none⟩) (Kd.R_types HO227.out BK230.out (by decide)) (fun _ hk => hk.2) (.int .i64 t228)) (fun _ hk => hk.2) (.int .i64 t229)) (fun _ h_ => h_.1))) hb); have n3_ := Aside0.mk (Kd.R_lower (Kd.R_new' ho0 (Kd.R_lt (by (with_reducible repeat (first | apply Kd.R_alloc | apply Kd.R_drewN | apply Kd.R_drew)); exact (Kd.R_mono (Kd.R_far (p := ⟨gb230, 1, none⟩) (Kd.R_far (p := ⟨gb230, 0, none⟩) (Kd.R_types HO_15.out BK230.out (by decide)) (fun _ hk => hk.2) (.int .i64 t228)) (fun _ hk => hk.2) (.int .i64 t229)) (fun _ h_ => h_.1))))) (below_size (by repeat (first | (with_reducible first | exact HB.out | apply below_alloc | apply pw_below_drewN | apply below_drew1 | refine below_set ?_ GE205.out | refine below_set ?_ GE219.out | refine below_set ?_ GE230.out) | exact HB.out)))); have n4_ := Aside0.mk (blk_below (g := gb205) (o := .cells #[.int .i64 t203, .int .i64 t204] 34 (0, 0)) (by (with_reducible repeat (first | refine blk_drewN ?_ _ | refine blk_drew ?_ | refine blk_alloc ?_ _)); refine blk_far ?_ NB205_230.out _; (with_reducible repeat (first | refine blk_drewN ?_ _ | refine blk_drew ?_ | refine blk_alloc ?_ _)); refine blk_far ?_ NB205_230.out _; (with_reducible repeat (first | refine blk_drewN ?_ _ | refine blk_drew ?_ | refine blk_alloc ?_ _)); exact BK205.out) hb); have n5_ := Aside0.mk (blk_below (g := gb219) (o := .cells #[.int .i64 t217, .int .i64 t218] 34 (0, 0)) (by (with_reducible repeat (first | refine blk_drewN ?_ _ | refine blk_drew ?_ | refine blk_alloc ?_ _)); refine blk_far ?_ NB219_230.out _; (with_reducible repeat (first | refine blk_drewN ?_ _ | refine blk_drew ?_ | refine blk_alloc ?_ _)); refine blk_far ?_ NB219_230.out _; (with_reducible repeat (first | refine blk_drewN ?_ _ | refine blk_drew ?_ | refine blk_alloc ?_ _)); exact BK219.out) hb); have n6_ := Aside0.mk (blk_below (g := gb230) (o := .cells #[.int .i64 t228, .int .i64 t229] 34 (0, 0)) (by (with_reducible repeat (first | refine blk_drewN ?_ _ | refine blk_drew ?_ | refine blk_alloc ?_ _)); refine blk_put (cs := #[.int .i64 t228, .int .i64 0]) ?_ 1 _ rfl; (with_reducible repeat (first | refine blk_drewN ?_ _ | refine blk_drew ?_ | refine blk_alloc ?_ _)); refine blk_put (cs := #[.int .i64 0, .int .i64 0]) ?_ 0 _ rfl; (with_reducible repeat (first | refine blk_drewN ?_ _ | refine blk_drew ?_ | refine blk_alloc ?_ _)); exact BK230.out) hb); have n7_ := Aside0.mk (below_step (by repeat (first | (with_reducible first | exact HB.out | apply below_alloc | apply pw_below_drewN | apply below_drew1 | refine below_set ?_ GE205.out | refine below_set ?_ GE219.out | refine below_set ?_ GE230.out) | exact HB.out)) hb); clear HO_13; clear HO_15; clear HO227; clear BK205; clear BK219; clear BK230; clear HB; have HO_13 := n0_; have HO_15 := n1_; have HO227 := n2_; have HO233 := n3_; have BK205 := n4_; have BK219 := n5_; have BK230 := n6_; have HB := n7_; clear n0_ n1_ n2_ n3_ n4_ n5_ n6_ n7_; (try clear hb); (try clear hb2); (try clear hk); (try clear hi); (try clear ho0); obtain ⟨Ao74, co74, eo74⟩ := Kd.R_slice HO233.out; subst eo74) | (go_at_call 16; (with_reducible refine (entrepotref19_Same.calls k4 _ _ t231 _ _ x15_4 true _ ?side1 ?side2 ?side3 ?side4 A48.out).mono ?_); (case side1 => repeat (first | exact (Kd.R_reads' HO233.out).2.2 | (with_reducible refine Kd.C_alloc ?_ _) | (with_reducible refine Kd.C_drewN ?_ _) | (with_reducible refine Kd.C_drew ?_))); (case side2 => exact (Kd.R_reads' HO233.out).2.1); (case side3 => repeat (first | exact (Kd.R_reads' HO_15.out).2.2 | (with_reducible refine Kd.C_alloc ?_ _) | (with_reducible refine Kd.C_drewN ?_ _) | (with_reducible refine Kd.C_drew ?_))); (case side4 => exact (Kd.R_reads' HO_15.out).2.1); rintro e w' ⟨rfl, ⟨nd, rfl⟩⟩; obtain ⟨Ao75, co75, eo75⟩ := Kd.R_slice HO227.out; subst eo75))
                                    go_ret
                                    exact ⟨by first | rfl | (simp [errW_none, errW_some] <;> rfl) | (rw [show wrap64 ((x9_3.size : Int) + 1) = (x9_3.size : Int) + 1 by unfold wrap64; omega] <;> rfl) | (simp [*, errW_none, errW_some] <;> rfl), by repeat (first | (with_reducible first | exact HB.out | apply below_alloc | apply pw_below_drewN | apply below_drew1 | refine below_set ?_ GE205.out | refine below_set ?_ GE219.out | refine below_set ?_ GE230.out) | exact HB.out)⟩
                                · replace c49 := Bool.eq_false_iff.mpr c49
                                  subst c49
                                  have H1 : (some false) = some r := by rw [if_neg (show ¬ (false = true) by decide)] at H; exact H
                                  clear H
                                  have H := H1
                                  clear H1
                                  obtain rfl := Option.some.inj H
                                  obtain ⟨Ao76, co76, eo76⟩ := Kd.R_slice HO_15.out
                                  subst eo76
                                  go_wp2_with (first | ((with_reducible refine gate_callee (f := 15) rfl ?_); refine goesL_ (some 97) rfl rfl Tryd.func15 (by kernel_rfl) rfl #[.string (x9_3 ++ (⟨#[32, 93]⟩ : ByteArray))] rfl (by (try simp only [List.map_toArray, List.map_cons, List.map_nil]); first | done | rfl | (simp only [List.length_drop, List.length_take]; rfl)) ?_; (with_reducible refine (jsonic_Parse.calls (x9_3 ++ (⟨#[32, 93]⟩ : ByteArray)) t225 t228 t229 _ (Tab.below HT (by repeat (first | (with_reducible first | exact HB.out | apply below_alloc | apply pw_below_drewN | apply below_drew1 | refine below_set ?_ GE205.out | refine below_set ?_ GE219.out) | exact HB.out))) A45.out).mono ?_); rintro e w77 ⟨v226, rfl, ho0, hb⟩; refine ⟨_, rfl, ?_⟩; have n0_ := Aside0.mk (Kd.R_elder' (by (with_reducible repeat (first | apply Kd.R_alloc | apply Kd.R_drewN | apply Kd.R_drew)); exact HO_13.out) (Kd.R_base ho0) hb); have n1_ := Aside0.mk (Kd.R_below (by (with_reducible repeat (first | apply Kd.R_alloc | apply Kd.R_drewN | apply Kd.R_drew)); exact HO_15.out) hb); have n2_ := Aside0.mk (Kd.R_lower (Kd.R_new' ho0 (Kd.R_lt (by (with_reducible repeat (first | apply Kd.R_alloc | apply Kd.R_drewN | apply Kd.R_drew)); exact HO_13.out))) (below_size (by repeat (first | (with_reducible first | exact HB.out | apply below_alloc | apply pw_below_drewN | apply below_drew1 | refine below_set ?_ GE205.out | refine below_set ?_ GE219.out) | exact HB.out)))); have n3_ := Aside0.mk (blk_below (g := gb205) (o := .cells #[.int .i64 t203, .int .i64 t204] 34 (0, 0)) (by (with_reducible repeat (first | refine blk_drewN ?_ _ | refine blk_drew ?_ | refine blk_alloc ?_ _)); exact BK205.out) hb); have n4_ := Aside0.mk (blk_below (g := gb219) (o := .cells #[.int .i64 t217, .int .i64 t218] 34 (0, 0)) (by (with_reducible repeat (first | refine blk_drewN ?_ _ | refine blk_drew ?_ | refine blk_alloc ?_ _)); exact BK219.out) hb); have n5_ := Aside0.mk (below_step (by repeat (first | (with_reducible first | exact HB.out | apply below_alloc | apply pw_below_drewN | apply below_drew1 | refine below_set ?_ GE205.out | refine below_set ?_ GE219.out) | exact HB.out)) hb); clear HO_13; clear HO_15; clear BK205; clear BK219; clear HB; have HO_13 := n0_; have HO_15 := n1_; have HO227 := n2_; have BK205 := n3_; have BK219 := n4_; have HB := n5_; clear n0_ n1_ n2_ n3_ n4_ n5_; (try clear hb); (try clear hb2); (try clear hk); (try clear hi); (try clear ho0)) | ((with_reducible refine gate_dst (N := 18) rfl ?_); (try (refine gate_guard (by rfl) ?_; dsimp only)); refine box_event ?hg (N := 18) ?hd (cs := #[.int .i64 0, .int .i64 0]) (t := 34) ?hr ?_; (case hd => rfl); (case hg => rfl); (case hr => first | (go_simp; done) | (go_simp; rfl)); intro gb230 hg w78 hbox hb; have n0_ := Aside0.mk (Kd.R_below (by (with_reducible repeat (first | apply Kd.R_alloc | apply Kd.R_drewN | apply Kd.R_drew)); exact HO_13.out) hb); have n1_ := Aside0.mk (Kd.R_below (by (with_reducible repeat (first | apply Kd.R_alloc | apply Kd.R_drewN | apply Kd.R_drew)); exact HO_15.out) hb); have n2_ := Aside0.mk (Kd.R_below (by (with_reducible repeat (first | apply Kd.R_alloc | apply Kd.R_drewN | apply Kd.R_drew)); exact HO227.out) hb); have n3_ := Aside0.mk (blk_below (g := gb205) (o := .cells #[.int .i64 t203, .int .i64 t204] 34 (0, 0)) (by (with_reducible repeat (first | refine blk_drewN ?_ _ | refine blk_drew ?_ | refine blk_alloc ?_ _)); exact BK205.out) hb); have n4_ := Aside0.mk (blk_below (g := gb219) (o := .cells #[.int .i64 t217, .int .i64 t218] 34 (0, 0)) (by (with_reducible repeat (first | refine blk_drewN ?_ _ | refine blk_drew ?_ | refine blk_alloc ?_ _)); exact BK219.out) hb); have n5_ := Aside0.mk (below_step (by repeat (first | (with_reducible first | exact HB.out | apply below_alloc | apply pw_below_drewN | apply below_drew1 | refine below_set ?_ GE205.out | refine below_set ?_ GE219.out) | exact HB.out)) hb); have n6_ := Aside0.mk (hbox); have n7_ := Aside0.mk ((by rw [hg]; exact (below_size (by repeat (first | (with_reducible first | exact HB.out | apply below_alloc | apply pw_below_drewN | apply below_drew1 | refine below_set ?_ GE205.out | refine below_set ?_ GE219.out) | exact HB.out))) : w.heap.size ≤ gb230)); have n8_ := Aside0.mk ((by rw [hg]; exact (below_size (by repeat (first | (with_reducible first | exact HB.out | apply below_alloc | apply pw_below_drewN | apply below_drew1 | refine below_set ?_ GE205.out | refine below_set ?_ GE219.out) | exact HB.out))) : w.heap.size ≤ gb230)); have n9_ := Aside0.mk ((by rw [hg]; exact Nat.ne_of_lt (blk_lt (g := gb205) (o := .cells #[.int .i64 t203, .int .i64 t204] 34 (0, 0)) (by (with_reducible repeat (first | refine blk_drewN ?_ _ | refine blk_drew ?_ | refine blk_alloc ?_ _)); exact BK205.out)) : gb205 ≠ gb230)); have n10_ := Aside0.mk ((by rw [hg]; exact Nat.ne_of_gt (blk_lt (g := gb205) (o := .cells #[.int .i64 t203, .int .i64 t204] 34 (0, 0)) (by (with_reducible repeat (first | refine blk_drewN ?_ _ | refine blk_drew ?_ | refine blk_alloc ?_ _)); exact BK205.out)) : gb230 ≠ gb205)); have n11_ := Aside0.mk ((by rw [hg]; exact Nat.ne_of_lt (blk_lt (g := gb219) (o := .cells #[.int .i64 t217, .int .i64 t218] 34 (0, 0)) (by (with_reducible repeat (first | refine blk_drewN ?_ _ | refine blk_drew ?_ | refine blk_alloc ?_ _)); exact BK219.out)) : gb219 ≠ gb230)); have n12_ := Aside0.mk ((by rw [hg]; exact Nat.ne_of_gt (blk_lt (g := gb219) (o := .cells #[.int .i64 t217, .int .i64 t218] 34 (0, 0)) (by (with_reducible repeat (first | refine blk_drewN ?_ _ | refine blk_drew ?_ | refine blk_alloc ?_ _)); exact BK219.out)) : gb230 ≠ gb219)); clear HO_13; clear HO_15; clear HO227; clear BK205; clear BK219; clear HB; have HO_13 := n0_; have HO_15 := n1_; have HO227 := n2_; have BK205 := n3_; have BK219 := n4_; have HB := n5_; have BK230 := n6_; have GW230 := n7_; have GE230 := n8_; have NB205_230 := n9_; have NB230_205 := n10_; have NB219_230 := n11_; have NB230_219 := n12_; clear n0_ n1_ n2_ n3_ n4_ n5_ n6_ n7_ n8_ n9_ n10_ n11_ n12_; clear hb hbox hg; have hnb79 := NB230_205.out; have hnc79 := NB205_230.out; have hnb80 := NB230_219.out; have hnc80 := NB219_230.out; have hcz81_0 : w78.cell? ⟨gb230, 0, none⟩ = some (.int .i64 0) := (blk_cell BK230.out 0).trans rfl; have hcz81_1 : w78.cell? ⟨gb230, 1, none⟩ = some (.int .i64 0) := (blk_cell BK230.out 1).trans rfl; have hfz81_0 := blk_frozen BK230.out 0; have hfz81_1 := blk_frozen BK230.out 1; have hnb82 := NB219_205.out; have hnc82 := NB205_219.out; have hcz83_0 : w78.cell? ⟨gb219, 0, none⟩ = some (.int .i64 t217) := (blk_cell BK219.out 0).trans rfl; have hcz83_1 : w78.cell? ⟨gb219, 1, none⟩ = some (.int .i64 t218) := (blk_cell BK219.out 1).trans rfl; have hfz83_0 := blk_frozen BK219.out 0; have hfz83_1 := blk_frozen BK219.out 1; obtain ⟨Ao84, co84, eo84⟩ := Kd.R_slice HO_13.out; subst eo84) | (go_at_call 12; (with_reducible refine (entrepotlaw19_its.calls k4 _ _ t214 t231 _ ?side1 ?side2 A47.out).mono ?_); (case side1 => refine (Kd.R_reads' (e := 38) (base := w.heap.size) (ok := fun k_ => (True ∧ some k_ ≠ (v226 : Value).ownBlock)) (n := t214.length) (c := co84) ?_).2.2; exact (by (with_reducible repeat (first | apply Kd.R_alloc | apply Kd.R_drewN | apply Kd.R_drew)); exact (Kd.R_mono (Kd.R_far (p := ⟨gb230, 1, none⟩) (Kd.R_far (p := ⟨gb230, 0, none⟩) (Kd.R_types HO_13.out BK230.out (by decide)) (fun _ hk => hk.2) (.int .i64 t228)) (fun _ hk => hk.2) (.int .i64 t229)) (fun _ h_ => h_.1)))); (case side2 => exact (Kd.R_reads' HO_13.out).2.1); rintro e w85 ⟨v232, rfl, ho0, hb⟩; have n0_ := Aside0.mk (Kd.R_below (by (with_reducible repeat (first | apply Kd.R_alloc | apply Kd.R_drewN | apply Kd.R_drew)); exact (Kd.R_mono (Kd.R_far (p := ⟨gb230, 1, none⟩) (Kd.R_far (p := ⟨gb230, 0, none⟩) (Kd.R_types HO_13.out BK230.out (by decide)) (fun _ hk => hk.2) (.int .i64 t228)) (fun _ hk => hk.2) (.int .i64 t229)) (fun _ h_ => h_.1))) hb); have n1_ := Aside0.mk (Kd.R_elder' (by (with_reducible repeat (first | apply Kd.R_alloc | apply Kd.R_drewN | apply Kd.R_drew)); exact (Kd.R_mono (Kd.R_far (p := ⟨gb230, 1, none⟩) (Kd.R_far (p := ⟨gb230, 0, none⟩) (Kd.R_types HO_15.out BK230.out (by decide)) (fun _ hk => hk.2) (.int .i64 t228)) (fun _ hk => hk.2) (.int .i64 t229)) (fun _ h_ => h_.1))) (Kd.R_base ho0) hb); have n2_ := Aside0.mk (Kd.R_below (by (with_reducible repeat (first | apply Kd.R_alloc | apply Kd.R_drewN | apply Kd.R_drew)); exact (Kd.R_mono (Kd.R_far (p := ⟨gb230, 1, none⟩) (Kd.R_far (p := ⟨gb230, 0, none⟩) (Kd.R_types HO227.out BK230.out (by decide)) (fun _ hk => hk.2) (.int .i64 t228)) (fun _ hk => hk.2) (.int .i64 t229)) (fun _ h_ => h_.1))) hb); have n3_ := Aside0.mk (Kd.R_lower (Kd.R_new' ho0 (Kd.R_lt (by (with_reducible repeat (first | apply Kd.R_alloc | apply Kd.R_drewN | apply Kd.R_drew)); exact (Kd.R_mono (Kd.R_far (p := ⟨gb230, 1, none⟩) (Kd.R_far (p := ⟨gb230, 0, none⟩) (Kd.R_types HO_15.out BK230.out (by decide)) (fun _ hk => hk.2) (.int .i64 t228)) (fun _ hk => hk.2) (.int .i64 t229)) (fun _ h_ => h_.1))))) (below_size (by repeat (first | (with_reducible first | exact HB.out | apply below_alloc | apply pw_below_drewN | apply below_drew1 | refine below_set ?_ GE205.out | refine below_set ?_ GE219.out | refine below_set ?_ GE230.out) | exact HB.out)))); have n4_ := Aside0.mk (blk_below (g := gb205) (o := .cells #[.int .i64 t203, .int .i64 t204] 34 (0, 0)) (by (with_reducible repeat (first | refine blk_drewN ?_ _ | refine blk_drew ?_ | refine blk_alloc ?_ _)); refine blk_far ?_ NB205_230.out _; (with_reducible repeat (first | refine blk_drewN ?_ _ | refine blk_drew ?_ | refine blk_alloc ?_ _)); refine blk_far ?_ NB205_230.out _; (with_reducible repeat (first | refine blk_drewN ?_ _ | refine blk_drew ?_ | refine blk_alloc ?_ _)); exact BK205.out) hb); have n5_ := Aside0.mk (blk_below (g := gb219) (o := .cells #[.int .i64 t217, .int .i64 t218] 34 (0, 0)) (by (with_reducible repeat (first | refine blk_drewN ?_ _ | refine blk_drew ?_ | refine blk_alloc ?_ _)); refine blk_far ?_ NB219_230.out _; (with_reducible repeat (first | refine blk_drewN ?_ _ | refine blk_drew ?_ | refine blk_alloc ?_ _)); refine blk_far ?_ NB219_230.out _; (with_reducible repeat (first | refine blk_drewN ?_ _ | refine blk_drew ?_ | refine blk_alloc ?_ _)); exact BK219.out) hb); have n6_ := Aside0.mk (blk_below (g := gb230) (o := .cells #[.int .i64 t228, .int .i64 t229] 34 (0, 0)) (by (with_reducible repeat (first | refine blk_drewN ?_ _ | refine blk_drew ?_ | refine blk_alloc ?_ _)); refine blk_put (cs := #[.int .i64 t228, .int .i64 0]) ?_ 1 _ rfl; (with_reducible repeat (first | refine blk_drewN ?_ _ | refine blk_drew ?_ | refine blk_alloc ?_ _)); refine blk_put (cs := #[.int .i64 0, .int .i64 0]) ?_ 0 _ rfl; (with_reducible repeat (first | refine blk_drewN ?_ _ | refine blk_drew ?_ | refine blk_alloc ?_ _)); exact BK230.out) hb); have n7_ := Aside0.mk (below_step (by repeat (first | (with_reducible first | exact HB.out | apply below_alloc | apply pw_below_drewN | apply below_drew1 | refine below_set ?_ GE205.out | refine below_set ?_ GE219.out | refine below_set ?_ GE230.out) | exact HB.out)) hb); clear HO_13; clear HO_15; clear HO227; clear BK205; clear BK219; clear BK230; clear HB; have HO_13 := n0_; have HO_15 := n1_; have HO227 := n2_; have HO233 := n3_; have BK205 := n4_; have BK219 := n5_; have BK230 := n6_; have HB := n7_; clear n0_ n1_ n2_ n3_ n4_ n5_ n6_ n7_; (try clear hb); (try clear hb2); (try clear hk); (try clear hi); (try clear ho0); obtain ⟨Ao86, co86, eo86⟩ := Kd.R_slice HO233.out; subst eo86) | (go_at_call 16; (with_reducible refine (entrepotref19_Same.calls k4 _ _ t231 _ _ x15_4 false _ ?side1 ?side2 ?side3 ?side4 A48.out).mono ?_); (case side1 => repeat (first | exact (Kd.R_reads' HO233.out).2.2 | (with_reducible refine Kd.C_alloc ?_ _) | (with_reducible refine Kd.C_drewN ?_ _) | (with_reducible refine Kd.C_drew ?_))); (case side2 => exact (Kd.R_reads' HO233.out).2.1); (case side3 => repeat (first | exact (Kd.R_reads' HO_15.out).2.2 | (with_reducible refine Kd.C_alloc ?_ _) | (with_reducible refine Kd.C_drewN ?_ _) | (with_reducible refine Kd.C_drew ?_))); (case side4 => exact (Kd.R_reads' HO_15.out).2.1); rintro e w' ⟨rfl, ⟨nd, rfl⟩⟩))
                                  go_ret
                                  exact ⟨by first | rfl | (simp [errW_none, errW_some] <;> rfl) | (rw [show wrap64 ((x9_3.size : Int) + 1) = (x9_3.size : Int) + 1 by unfold wrap64; omega] <;> rfl) | (simp [*, errW_none, errW_some] <;> rfl), by repeat (first | (with_reducible first | exact HB.out | apply below_alloc | apply pw_below_drewN | apply below_drew1 | refine below_set ?_ GE205.out | refine below_set ?_ GE219.out | refine below_set ?_ GE230.out) | exact HB.out)⟩
                              · rw [if_neg c46] at H
                                have c46b0 : (t217 == 0 && (t218 == 0)) = false := by simpa using c46
                                (try (have c46b1 : decide (t217 = 0 && (t218 == 0)) = false := by simpa using c46))
                                (try (have c46b2 : (t217 == 0 && (t218 == 0)) = false := by simpa using c46))
                                (try (have c46b3 : ¬ (t217 = 0 && (t218 == 0)) := by simpa using c46))
                                clear c46
                                obtain rfl := Option.some.inj H
                                obtain ⟨Ao87, co87, eo87⟩ := Kd.R_slice HO_15.out
                                subst eo87
                                go_wp2_with (first | ((with_reducible refine gate_callee (f := 15) rfl ?_); refine goesL_ (some 97) rfl rfl Tryd.func15 (by kernel_rfl) rfl #[.string (x9_3 ++ (⟨#[32, 93]⟩ : ByteArray))] rfl (by (try simp only [List.map_toArray, List.map_cons, List.map_nil]); first | done | rfl | (simp only [List.length_drop, List.length_take]; rfl)) ?_; (with_reducible refine (jsonic_Parse.calls (x9_3 ++ (⟨#[32, 93]⟩ : ByteArray)) t225 t228 t229 _ (Tab.below HT (by repeat (first | (with_reducible first | exact HB.out | apply below_alloc | apply pw_below_drewN | apply below_drew1 | refine below_set ?_ GE205.out | refine below_set ?_ GE219.out) | exact HB.out))) A45.out).mono ?_); rintro e w88 ⟨v226, rfl, ho0, hb⟩; refine ⟨_, rfl, ?_⟩; have n0_ := Aside0.mk (Kd.R_elder' (by (with_reducible repeat (first | apply Kd.R_alloc | apply Kd.R_drewN | apply Kd.R_drew)); exact HO_13.out) (Kd.R_base ho0) hb); have n1_ := Aside0.mk (Kd.R_below (by (with_reducible repeat (first | apply Kd.R_alloc | apply Kd.R_drewN | apply Kd.R_drew)); exact HO_15.out) hb); have n2_ := Aside0.mk (Kd.R_lower (Kd.R_new' ho0 (Kd.R_lt (by (with_reducible repeat (first | apply Kd.R_alloc | apply Kd.R_drewN | apply Kd.R_drew)); exact HO_13.out))) (below_size (by repeat (first | (with_reducible first | exact HB.out | apply below_alloc | apply pw_below_drewN | apply below_drew1 | refine below_set ?_ GE205.out | refine below_set ?_ GE219.out) | exact HB.out)))); have n3_ := Aside0.mk (blk_below (g := gb205) (o := .cells #[.int .i64 t203, .int .i64 t204] 34 (0, 0)) (by (with_reducible repeat (first | refine blk_drewN ?_ _ | refine blk_drew ?_ | refine blk_alloc ?_ _)); exact BK205.out) hb); have n4_ := Aside0.mk (blk_below (g := gb219) (o := .cells #[.int .i64 t217, .int .i64 t218] 34 (0, 0)) (by (with_reducible repeat (first | refine blk_drewN ?_ _ | refine blk_drew ?_ | refine blk_alloc ?_ _)); exact BK219.out) hb); have n5_ := Aside0.mk (below_step (by repeat (first | (with_reducible first | exact HB.out | apply below_alloc | apply pw_below_drewN | apply below_drew1 | refine below_set ?_ GE205.out | refine below_set ?_ GE219.out) | exact HB.out)) hb); clear HO_13; clear HO_15; clear BK205; clear BK219; clear HB; have HO_13 := n0_; have HO_15 := n1_; have HO227 := n2_; have BK205 := n3_; have BK219 := n4_; have HB := n5_; clear n0_ n1_ n2_ n3_ n4_ n5_; (try clear hb); (try clear hb2); (try clear hk); (try clear hi); (try clear ho0)) | ((with_reducible refine gate_dst (N := 18) rfl ?_); (try (refine gate_guard (by rfl) ?_; dsimp only)); refine box_event ?hg (N := 18) ?hd (cs := #[.int .i64 0, .int .i64 0]) (t := 34) ?hr ?_; (case hd => rfl); (case hg => rfl); (case hr => first | (go_simp; done) | (go_simp; rfl)); intro gb230 hg w89 hbox hb; have n0_ := Aside0.mk (Kd.R_below (by (with_reducible repeat (first | apply Kd.R_alloc | apply Kd.R_drewN | apply Kd.R_drew)); exact HO_13.out) hb); have n1_ := Aside0.mk (Kd.R_below (by (with_reducible repeat (first | apply Kd.R_alloc | apply Kd.R_drewN | apply Kd.R_drew)); exact HO_15.out) hb); have n2_ := Aside0.mk (Kd.R_below (by (with_reducible repeat (first | apply Kd.R_alloc | apply Kd.R_drewN | apply Kd.R_drew)); exact HO227.out) hb); have n3_ := Aside0.mk (blk_below (g := gb205) (o := .cells #[.int .i64 t203, .int .i64 t204] 34 (0, 0)) (by (with_reducible repeat (first | refine blk_drewN ?_ _ | refine blk_drew ?_ | refine blk_alloc ?_ _)); exact BK205.out) hb); have n4_ := Aside0.mk (blk_below (g := gb219) (o := .cells #[.int .i64 t217, .int .i64 t218] 34 (0, 0)) (by (with_reducible repeat (first | refine blk_drewN ?_ _ | refine blk_drew ?_ | refine blk_alloc ?_ _)); exact BK219.out) hb); have n5_ := Aside0.mk (below_step (by repeat (first | (with_reducible first | exact HB.out | apply below_alloc | apply pw_below_drewN | apply below_drew1 | refine below_set ?_ GE205.out | refine below_set ?_ GE219.out) | exact HB.out)) hb); have n6_ := Aside0.mk (hbox); have n7_ := Aside0.mk ((by rw [hg]; exact (below_size (by repeat (first | (with_reducible first | exact HB.out | apply below_alloc | apply pw_below_drewN | apply below_drew1 | refine below_set ?_ GE205.out | refine below_set ?_ GE219.out) | exact HB.out))) : w.heap.size ≤ gb230)); have n8_ := Aside0.mk ((by rw [hg]; exact (below_size (by repeat (first | (with_reducible first | exact HB.out | apply below_alloc | apply pw_below_drewN | apply below_drew1 | refine below_set ?_ GE205.out | refine below_set ?_ GE219.out) | exact HB.out))) : w.heap.size ≤ gb230)); have n9_ := Aside0.mk ((by rw [hg]; exact Nat.ne_of_lt (blk_lt (g := gb205) (o := .cells #[.int .i64 t203, .int .i64 t204] 34 (0, 0)) (by (with_reducible repeat (first | refine blk_drewN ?_ _ | refine blk_drew ?_ | refine blk_alloc ?_ _)); exact BK205.out)) : gb205 ≠ gb230)); have n10_ := Aside0.mk ((by rw [hg]; exact Nat.ne_of_gt (blk_lt (g := gb205) (o := .cells #[.int .i64 t203, .int .i64 t204] 34 (0, 0)) (by (with_reducible repeat (first | refine blk_drewN ?_ _ | refine blk_drew ?_ | refine blk_alloc ?_ _)); exact BK205.out)) : gb230 ≠ gb205)); have n11_ := Aside0.mk ((by rw [hg]; exact Nat.ne_of_lt (blk_lt (g := gb219) (o := .cells #[.int .i64 t217, .int .i64 t218] 34 (0, 0)) (by (with_reducible repeat (first | refine blk_drewN ?_ _ | refine blk_drew ?_ | refine blk_alloc ?_ _)); exact BK219.out)) : gb219 ≠ gb230)); have n12_ := Aside0.mk ((by rw [hg]; exact Nat.ne_of_gt (blk_lt (g := gb219) (o := .cells #[.int .i64 t217, .int .i64 t218] 34 (0, 0)) (by (with_reducible repeat (first | refine blk_drewN ?_ _ | refine blk_drew ?_ | refine blk_alloc ?_ _)); exact BK219.out)) : gb230 ≠ gb219)); clear HO_13; clear HO_15; clear HO227; clear BK205; clear BK219; clear HB; have HO_13 := n0_; have HO_15 := n1_; have HO227 := n2_; have BK205 := n3_; have BK219 := n4_; have HB := n5_; have BK230 := n6_; have GW230 := n7_; have GE230 := n8_; have NB205_230 := n9_; have NB230_205 := n10_; have NB219_230 := n11_; have NB230_219 := n12_; clear n0_ n1_ n2_ n3_ n4_ n5_ n6_ n7_ n8_ n9_ n10_ n11_ n12_; clear hb hbox hg; have hnb90 := NB230_205.out; have hnc90 := NB205_230.out; have hnb91 := NB230_219.out; have hnc91 := NB219_230.out; have hcz92_0 : w89.cell? ⟨gb230, 0, none⟩ = some (.int .i64 0) := (blk_cell BK230.out 0).trans rfl; have hcz92_1 : w89.cell? ⟨gb230, 1, none⟩ = some (.int .i64 0) := (blk_cell BK230.out 1).trans rfl; have hfz92_0 := blk_frozen BK230.out 0; have hfz92_1 := blk_frozen BK230.out 1; have hnb93 := NB219_205.out; have hnc93 := NB205_219.out; have hcz94_0 : w89.cell? ⟨gb219, 0, none⟩ = some (.int .i64 t217) := (blk_cell BK219.out 0).trans rfl; have hcz94_1 : w89.cell? ⟨gb219, 1, none⟩ = some (.int .i64 t218) := (blk_cell BK219.out 1).trans rfl; have hfz94_0 := blk_frozen BK219.out 0; have hfz94_1 := blk_frozen BK219.out 1))
                                go_ret
                                exact ⟨by first | rfl | (simp [errW_none, errW_some] <;> rfl) | (rw [show wrap64 ((x9_3.size : Int) + 1) = (x9_3.size : Int) + 1 by unfold wrap64; omega] <;> rfl) | (simp [*, errW_none, errW_some] <;> rfl), by repeat (first | (with_reducible first | exact HB.out | apply below_alloc | apply pw_below_drewN | apply below_drew1 | refine below_set ?_ GE205.out | refine below_set ?_ GE219.out | refine below_set ?_ GE230.out) | exact HB.out)⟩
                            · rw [if_neg c44] at H
                              exact absurd H (by simp)
        · rw [if_neg c12] at H
          have c12b0 : (t204 == 0) = false := beq_eq_false_iff_ne.mpr c12
          have c12b1 : (t204 != 0) = true := bne_iff_ne.mpr c12
          obtain rfl := Option.some.inj H
          go_wp2_with (first | ((with_reducible refine gate_callee (f := 15) rfl ?_); refine goesL_ (some 29) rfl rfl Tryd.func15 (by kernel_rfl) rfl #[.string a0] rfl (by (try simp only [List.map_toArray, List.map_cons, List.map_nil]); first | done | rfl | (simp only [List.length_drop, List.length_take]; rfl)) ?_; (with_reducible refine (jsonic_Parse.calls a0 t200 t203 t204 _ (Tab.below HT (by repeat (first | (with_reducible first | exact HB.out | apply below_alloc | apply pw_below_drewN | apply below_drew1) | exact HB.out))) A11.out).mono ?_); rintro e w95 ⟨v201, rfl, ho0, hb⟩; refine ⟨_, rfl, ?_⟩; have n0_ := Aside0.mk (Kd.R_lower ho0 (below_size (by repeat (first | (with_reducible first | exact HB.out | apply below_alloc | apply pw_below_drewN | apply below_drew1) | exact HB.out)))); have n1_ := Aside0.mk (below_step (by repeat (first | (with_reducible first | exact HB.out | apply below_alloc | apply pw_below_drewN | apply below_drew1) | exact HB.out)) hb); clear HB; have HO202 := n0_; have HB := n1_; clear n0_ n1_; (try clear hb); (try clear hb2); (try clear hk); (try clear hi); (try clear ho0)) | ((with_reducible refine gate_dst (N := 8) rfl ?_); (try (refine gate_guard (by rfl) ?_; dsimp only)); refine box_event ?hg (N := 8) ?hd (cs := #[.int .i64 0, .int .i64 0]) (t := 34) ?hr ?_; (case hd => rfl); (case hg => rfl); (case hr => first | (go_simp; done) | (go_simp; rfl)); intro gb205 hg w96 hbox hb; have n0_ := Aside0.mk (Kd.R_below (by (with_reducible repeat (first | apply Kd.R_alloc | apply Kd.R_drewN | apply Kd.R_drew)); exact HO202.out) hb); have n1_ := Aside0.mk (below_step (by repeat (first | (with_reducible first | exact HB.out | apply below_alloc | apply pw_below_drewN | apply below_drew1) | exact HB.out)) hb); have n2_ := Aside0.mk (hbox); have n3_ := Aside0.mk ((by rw [hg]; exact (below_size (by repeat (first | (with_reducible first | exact HB.out | apply below_alloc | apply pw_below_drewN | apply below_drew1) | exact HB.out))) : w.heap.size ≤ gb205)); have n4_ := Aside0.mk ((by rw [hg]; exact (below_size (by repeat (first | (with_reducible first | exact HB.out | apply below_alloc | apply pw_below_drewN | apply below_drew1) | exact HB.out))) : w.heap.size ≤ gb205)); clear HO202; clear HB; have HO202 := n0_; have HB := n1_; have BK205 := n2_; have GW205 := n3_; have GE205 := n4_; clear n0_ n1_ n2_ n3_ n4_; clear hb hbox hg; have hcz97_0 : w96.cell? ⟨gb205, 0, none⟩ = some (.int .i64 0) := (blk_cell BK205.out 0).trans rfl; have hcz97_1 : w96.cell? ⟨gb205, 1, none⟩ = some (.int .i64 0) := (blk_cell BK205.out 1).trans rfl; have hfz97_0 := blk_frozen BK205.out 0; have hfz97_1 := blk_frozen BK205.out 1; obtain ⟨Ao98, co98, eo98⟩ := Kd.R_slice HO202.out; subst eo98))
          go_ret
          exact ⟨by first | rfl | (simp [errW_none, errW_some] <;> rfl) | (simp [*, errW_none, errW_some] <;> rfl), by repeat (first | (with_reducible first | exact HB.out | apply below_alloc | apply pw_below_drewN | apply below_drew1 | refine below_set ?_ GE205.out) | exact HB.out)⟩

/-- THE ONE PURE STATEMENT of entrepotlaw19_JsonicBlanks: yours. -/
def entrepotlaw19_JsonicBlanks.Pure : Prop := ∀ (a0 : ByteArray) (a1 : Int) (a2 : Int), a0.size ≤ 140737488351232 → (Lit.int .u8 a1).wf = true → (Lit.int .u8 a2).wf = true → ∃ k, entrepotlaw19_JsonicBlanks.f k a0 a1 a2 = some true
theorem entrepotlaw19_JsonicBlanks.walk (P : entrepotlaw19_JsonicBlanks.Pure) (a0 : ByteArray) (a1 : Int) (a2 : Int) (w : World) (HT : Tab w) (w0 : a0.size ≤ 140737488351232) (w1 : (Lit.int .u8 a1).wf = true) (w2 : (Lit.int .u8 a2).wf = true) :
    Calls Tryd.prog 5 #[.string a0, .int .u8 a1, .int .u8 a2] w fun e w' => e = .returned (.bool true) ∧ Below w.heap.size w w' := by
  obtain ⟨k, h⟩ := P a0 a1 a2 w0 w1 w2
  refine (entrepotlaw19_JsonicBlanks.calls k a0 a1 a2 true w HT h).mono ?_
  rintro e w' ⟨rfl, hd⟩
  exact ⟨rfl, hd⟩

end Go.Proofs.YtainnkpoibgkcaaDoor.PAll
