-- Written by a program out of the translation, for several roots at once (set All). Not trusted: Lean checks it.
import Derived.Test.YtbbkchifbinioaaDoorPAllx0
import Derived.Test.YtbbkchifbinioaaDoorPAllx1
import Derived.Test.YtbbkchifbinioaaDoorPAllx3
import Derived.Test.YtbbkchifbinioaaDoorPAllx8
import Derived.Test.YtbbkchifbinioaaDoorGivenD
namespace Go.Proofs.YtbbkchifbinioaaDoor.PAll
open Go.RowKit Go.Proofs.YtbbkchifbinioaaDoorW.PrintWords Go.Proofs.YtbbkchifbinioaaDoorW.PrintLast Go.Proofs.YtbbkchifbinioaaDoorW.PrintMore
attribute [local go_sem] max2_int min2_int max_two min_two max_three min_three max_four min_four   -- for this text's walks alone
set_option linter.unusedVariables false
set_option linter.unusedSimpArgs false

attribute [local go_sem high] eqA24
/-! ### entrepotlaw03_WordsPaired: function 7 -/
mutual
def entrepotlaw03_WordsPaired.j0 : Nat → ByteArray → ByteArray → Int → Bool → Option (Bool)
  | 0, _, _, _, _ => none
  | k + 1, x0, x1, x2, x43 => if x43 = true then ((entrepotlaw03_shown.f).bind fun t216 => (some t216)) else ((entrepotref03_Fields.f k x1 0 (x1.size : Int)).bind fun t217 => (if (t217.length : Int) > 0 then (if 0 < (t217.length : Int) then (if ((rd_T27 t217 0).f0) = 0 then (if 0 ≤ (wrap64 ((t217.length : Int) - 1)) then (if (wrap64 ((t217.length : Int) - 1)) < (t217.length : Int) then (if ((rd_T27 t217 (wrap64 ((t217.length : Int) - 1))).f1) = (x1.size : Int) then (if (t217.length : Int) = 0 then (entrepotlaw03_WordsPaired.j1 k x0 x1 x2 (x1.toList != ([] : List UInt8))) else (entrepotlaw03_WordsPaired.j1 k x0 x1 x2 false)) else (entrepotlaw03_WordsPaired.j1 k x0 x1 x2 true)) else (none)) else (none)) else (entrepotlaw03_WordsPaired.j1 k x0 x1 x2 true)) else (none)) else (if (t217.length : Int) = 0 then (entrepotlaw03_WordsPaired.j1 k x0 x1 x2 (x1.toList != ([] : List UInt8))) else (entrepotlaw03_WordsPaired.j1 k x0 x1 x2 false))))
def entrepotlaw03_WordsPaired.j1 : Nat → ByteArray → ByteArray → Int → Bool → Option (Bool)
  | 0, _, _, _, _ => none
  | k + 1, x0, x1, x2, x79 => if x79 = true then (some true) else (entrepotlaw03_WordsPaired.l0 k x0 x1 x2 (⟨#[]⟩ : ByteArray) 0)
def entrepotlaw03_WordsPaired.l0 : Nat → ByteArray → ByteArray → Int → ByteArray → Int → Option (Bool)
  | 0, _, _, _, _, _ => none
  | k + 1, x0, x1, x2, x11, x12 => if x12 < (Int.tmod (wrap64 (x2)) 4) then (if x11.size + 1 ≤ 9223372036854775807 then (entrepotlaw03_WordsPaired.l0 k x0 x1 x2 (x11 ++ (⟨#[32]⟩ : ByteArray)) (wrap64 (x12 + 1))) else (none)) else (if x11.size + x0.size ≤ 9223372036854775807 then (if (x11 ++ x0).size + x11.size ≤ 9223372036854775807 then (if ((x11 ++ x0) ++ x11).size + 1 ≤ 9223372036854775807 then (if (((x11 ++ x0) ++ x11) ++ (⟨#[58]⟩ : ByteArray)).size + x11.size ≤ 9223372036854775807 then (if ((((x11 ++ x0) ++ x11) ++ (⟨#[58]⟩ : ByteArray)) ++ x11).size + x1.size ≤ 9223372036854775807 then (if (((((x11 ++ x0) ++ x11) ++ (⟨#[58]⟩ : ByteArray)) ++ x11) ++ x1).size + x11.size ≤ 9223372036854775807 then ((words_Key.f ((((((x11 ++ x0) ++ x11) ++ (⟨#[58]⟩ : ByteArray)) ++ x11) ++ x1) ++ x11) 0 (((((((x11 ++ x0) ++ x11) ++ (⟨#[58]⟩ : ByteArray)) ++ x11) ++ x1) ++ x11).size : Int)).bind fun bt222 => (if bt222.1.toList = x0.toList then (if bt222.2.2.2 = true then ((words_Text.f ((((((x11 ++ x0) ++ x11) ++ (⟨#[58]⟩ : ByteArray)) ++ x11) ++ x1) ++ x11) bt222.2.1 bt222.2.2.1).bind fun t227 => (if t227.toList = x1.toList then (if x0.size + x11.size ≤ 9223372036854775807 then ((words_Key.f (x0 ++ x11) 0 (wrap64 ((x0.size : Int) + (x11.size : Int)))).bind fun bt228 => (if bt228.1.toList = x0.toList then (if bt228.2.2.2 = true then (some (bt228.2.1 == (wrap64 ((x0.size : Int) + (x11.size : Int))) && (bt228.2.2.1 == (wrap64 ((x0.size : Int) + (x11.size : Int)))))) else (some false)) else (some false))) else (none)) else (some false))) else (some false)) else (some false))) else (none)) else (none)) else (none)) else (none)) else (none)) else (none))
end
def entrepotlaw03_WordsPaired.f (k : Nat) (a0 : ByteArray) (a1 : ByteArray) (a2 : Int) : Option (Bool) := (words_Key.f a0 0 (a0.size : Int)).bind fun bt210 => (if bt210.2.2.2 = true then (if bt210.1.toList = a0.toList then (if (a1.size : Int) > 200 then (entrepotlaw03_WordsPaired.j0 k a0 a1 a2 true) else ((entrepotlaw03_shown.f).bind fun t215 => (entrepotlaw03_WordsPaired.j0 k a0 a1 a2 (!t215)))) else (entrepotlaw03_WordsPaired.j0 k a0 a1 a2 true)) else (entrepotlaw03_WordsPaired.j0 k a0 a1 a2 true))
theorem entrepotlaw03_WordsPaired.mono_l : ∀ k, (∀ y0 y1 y2 y3, LeO (entrepotlaw03_WordsPaired.j0 k y0 y1 y2 y3) (entrepotlaw03_WordsPaired.j0 (k + 1) y0 y1 y2 y3)) ∧ (∀ y0 y1 y2 y3, LeO (entrepotlaw03_WordsPaired.j1 k y0 y1 y2 y3) (entrepotlaw03_WordsPaired.j1 (k + 1) y0 y1 y2 y3)) ∧ (∀ y0 y1 y2 y3 y4, LeO (entrepotlaw03_WordsPaired.l0 k y0 y1 y2 y3 y4) (entrepotlaw03_WordsPaired.l0 (k + 1) y0 y1 y2 y3 y4))
  | 0 => ⟨fun _ _ _ _ r h => by simp [entrepotlaw03_WordsPaired.j0] at h, fun _ _ _ _ r h => by simp [entrepotlaw03_WordsPaired.j1] at h, fun _ _ _ _ _ r h => by simp [entrepotlaw03_WordsPaired.l0] at h⟩
  | k + 1 => by
    obtain ⟨ih0, ih1, ih2⟩ := entrepotlaw03_WordsPaired.mono_l k
    refine ⟨?_, ?_, ?_⟩
    · intro y0 y1 y2 y3
      unfold entrepotlaw03_WordsPaired.j0
      repeat' first
      | (with_reducible exact ih0 _ _ _ _)
      | (with_reducible exact ih1 _ _ _ _)
      | (with_reducible exact ih2 _ _ _ _ _)
      | (with_reducible exact entrepotref03_Fields.mono _ _ _ _)
      | (with_reducible exact LeO.refl _)
      | (with_reducible exact LeO.none _)
      | (with_reducible refine LeO.ite ?_ ?_)
      | (with_reducible refine LeO.bind ?_ (fun _ => ?_))
      | exact ih0 _ _ _ _
      | exact ih1 _ _ _ _
      | exact ih2 _ _ _ _ _
      | exact entrepotref03_Fields.mono _ _ _ _
      | exact LeO.none _
      | refine LeO.ite ?_ ?_
      | refine LeO.bind ?_ (fun _ => ?_)
    · intro y0 y1 y2 y3
      unfold entrepotlaw03_WordsPaired.j1
      repeat' first
      | (with_reducible exact ih0 _ _ _ _)
      | (with_reducible exact ih1 _ _ _ _)
      | (with_reducible exact ih2 _ _ _ _ _)
      | (with_reducible exact entrepotref03_Fields.mono _ _ _ _)
      | (with_reducible exact LeO.refl _)
      | (with_reducible exact LeO.none _)
      | (with_reducible refine LeO.ite ?_ ?_)
      | (with_reducible refine LeO.bind ?_ (fun _ => ?_))
      | exact ih0 _ _ _ _
      | exact ih1 _ _ _ _
      | exact ih2 _ _ _ _ _
      | exact entrepotref03_Fields.mono _ _ _ _
      | exact LeO.none _
      | refine LeO.ite ?_ ?_
      | refine LeO.bind ?_ (fun _ => ?_)
    · intro y0 y1 y2 y3 y4
      unfold entrepotlaw03_WordsPaired.l0
      repeat' first
      | (with_reducible exact ih0 _ _ _ _)
      | (with_reducible exact ih1 _ _ _ _)
      | (with_reducible exact ih2 _ _ _ _ _)
      | (with_reducible exact entrepotref03_Fields.mono _ _ _ _)
      | (with_reducible exact LeO.refl _)
      | (with_reducible exact LeO.none _)
      | (with_reducible refine LeO.ite ?_ ?_)
      | (with_reducible refine LeO.bind ?_ (fun _ => ?_))
      | exact ih0 _ _ _ _
      | exact ih1 _ _ _ _
      | exact ih2 _ _ _ _ _
      | exact entrepotref03_Fields.mono _ _ _ _
      | exact LeO.none _
      | refine LeO.ite ?_ ?_
      | refine LeO.bind ?_ (fun _ => ?_)
theorem entrepotlaw03_WordsPaired.mono : ∀ a0 a1 a2 k, LeO (entrepotlaw03_WordsPaired.f k a0 a1 a2) (entrepotlaw03_WordsPaired.f (k + 1) a0 a1 a2) := by
  intro a0 a1 a2 k
  obtain ⟨ih0, ih1, ih2⟩ := entrepotlaw03_WordsPaired.mono_l k
  unfold entrepotlaw03_WordsPaired.f
  repeat' first
      | (with_reducible exact ih0 _ _ _ _)
      | (with_reducible exact ih1 _ _ _ _)
      | (with_reducible exact ih2 _ _ _ _ _)
      | (with_reducible exact entrepotref03_Fields.mono _ _ _ _)
      | (with_reducible exact LeO.refl _)
      | (with_reducible exact LeO.none _)
      | (with_reducible refine LeO.ite ?_ ?_)
      | (with_reducible refine LeO.bind ?_ (fun _ => ?_))
      | exact ih0 _ _ _ _
      | exact ih1 _ _ _ _
      | exact ih2 _ _ _ _ _
      | exact entrepotref03_Fields.mono _ _ _ _
      | exact LeO.none _
      | refine LeO.ite ?_ ?_
      | refine LeO.bind ?_ (fun _ => ?_)
set_option maxHeartbeats 8000000 in
set_option maxRecDepth 100000 in
theorem entrepotlaw03_WordsPaired.calls (k : Nat) (a0 : ByteArray) (a1 : ByteArray) (a2 : Int) (r : Bool) (w : World) (h : entrepotlaw03_WordsPaired.f k a0 a1 a2 = some r) :
    Calls Tryd.prog 7 #[.string a0, .string a1, .int .u8 a2] w fun e w' => e = .returned (.bool r) ∧ Below w.heap.size w w' := by
  have hu24 := Tryd.underlying24
  have HB := Aside0.mk (Below.refl w.heap.size w)
  have H : ((words_Key.f a0 0 (a0.size : Int)).bind fun bt210 => (if bt210.2.2.2 = true then (if bt210.1.toList = a0.toList then (if (a1.size : Int) > 200 then (entrepotlaw03_WordsPaired.j0 k a0 a1 a2 true) else ((entrepotlaw03_shown.f).bind fun t215 => (entrepotlaw03_WordsPaired.j0 k a0 a1 a2 (!t215)))) else (entrepotlaw03_WordsPaired.j0 k a0 a1 a2 true)) else (entrepotlaw03_WordsPaired.j0 k a0 a1 a2 true))) = some r := h
  clear h
  replace H := Option.bind_eq_some_iff.mp H
  obtain ⟨⟨t210, t211, t212, t213⟩, A40, H⟩ := H
  replace H : (if t213 = true then (if t210.toList = a0.toList then (if (a1.size : Int) > 200 then (entrepotlaw03_WordsPaired.j0 k a0 a1 a2 true) else ((entrepotlaw03_shown.f).bind fun t215 => (entrepotlaw03_WordsPaired.j0 k a0 a1 a2 (!t215)))) else (entrepotlaw03_WordsPaired.j0 k a0 a1 a2 true)) else (entrepotlaw03_WordsPaired.j0 k a0 a1 a2 true)) = some r := H
  have A4 := Aside0.mk A40
  clear A40
  have HC5 := Aside0.mk H
  clear H
  go_enter Tryd.func7, Tryd.ntmps7
  go_upto_region 2 with (first | ((with_reducible refine gate_callee (f := 11) rfl ?_); refine goesL_ (some 24) rfl rfl Tryd.func11 (by kernel_rfl) rfl #[.string a0, .int .i64 0, .int .i64 (a0.size : Int)] rfl (by (try simp only [List.map_toArray, List.map_cons, List.map_nil]); first | done | rfl | (simp only [List.length_drop, List.length_take]; rfl) | (simp only [ByteArray.size_append, Int.natCast_add]; rfl)) ?_; (with_reducible refine (words_Key.calls a0 0 (a0.size : Int) t210 t211 t212 t213 _ A4.out).mono ?_); rintro e w6 ⟨rfl, hb⟩; refine ⟨_, rfl, ?_⟩; have n0_ := Aside0.mk (below_step (by repeat (first | (with_reducible first | exact HB.out | apply below_alloc | apply pw_below_drewN | apply below_drew1) | exact HB.out)) hb); clear HB; have HB := n0_; clear n0_; (try clear hb); (try clear hb2); (try clear hk); (try clear hi)) | ((with_reducible refine gate_dst (N := 8) rfl ?_); (try (refine gate_guard (by rfl) ?_; dsimp only)); refine box_event ?hg (N := 8) ?hd (cs := #[.int .i64 0, .int .i64 0]) (t := 24) ?hr ?_; (case hd => rfl); (case hg => rfl); (case hr => first | (go_simp; done) | (go_simp; rfl)); intro gb214 hg w7 hbox hb; have n0_ := Aside0.mk (below_step (by repeat (first | (with_reducible first | exact HB.out | apply below_alloc | apply pw_below_drewN | apply below_drew1) | exact HB.out)) hb); have n1_ := Aside0.mk (hbox); have n2_ := Aside0.mk ((by rw [hg]; exact (below_size (by repeat (first | (with_reducible first | exact HB.out | apply below_alloc | apply pw_below_drewN | apply below_drew1) | exact HB.out))) : w.heap.size ≤ gb214)); have n3_ := Aside0.mk ((by rw [hg]; exact (below_size (by repeat (first | (with_reducible first | exact HB.out | apply below_alloc | apply pw_below_drewN | apply below_drew1) | exact HB.out))) : w.heap.size ≤ gb214)); clear HB; have HB := n0_; have BK214 := n1_; have GW214 := n2_; have GE214 := n3_; clear n0_ n1_ n2_ n3_; clear hb hbox hg; have hcz8_0 : w7.cell? ⟨gb214, 0, none⟩ = some (.int .i64 0) := (blk_cell BK214.out 0).trans rfl; have hcz8_1 : w7.cell? ⟨gb214, 1, none⟩ = some (.int .i64 0) := (blk_cell BK214.out 1).trans rfl; have hfz8_0 := blk_frozen BK214.out 0; have hfz8_1 := blk_frozen BK214.out 1))
  (try simp only [Act.put, List.setIfInBounds_toArray, List.set_cons_zero, List.set_cons_succ])
  go_cut [43] (fun v43 wc => ∃ (kq : Nat) (x43_4 : Bool), v43 = .bool x43_4 ∧ Aside0 (entrepotlaw03_WordsPaired.j0 kq a0 a1 a2 x43_4 = some r) ∧ Aside0 (kq ≤ k) ∧ Aside0 (wc.heap[gb214]? = some (.cells #[.int .i64 t211, .int .i64 t212] 24 (0, 0))) ∧ Aside0 (Below w.heap.size w wc))
  case first =>
    have H := HC5.out
    clear HC5
    by_cases c9 : t213 = true
    · subst c9
      have H1 : (if t210.toList = a0.toList then (if (a1.size : Int) > 200 then (entrepotlaw03_WordsPaired.j0 k a0 a1 a2 true) else ((entrepotlaw03_shown.f).bind fun t215 => (entrepotlaw03_WordsPaired.j0 k a0 a1 a2 (!t215)))) else (entrepotlaw03_WordsPaired.j0 k a0 a1 a2 true)) = some r := by rw [if_pos rfl] at H; exact H
      clear H
      have H := H1
      clear H1
      by_cases c10 : t210.toList = a0.toList
      · rw [if_pos c10] at H
        have c10b0 : (t210.toList == a0.toList) = true := beq_iff_eq.mpr c10
        have c10b1 : (t210.toList != a0.toList) = false := bne_eq_false_iff_eq.mpr c10
        clear c10
        (first | rw [c10b0] | (simp only [i64_w, i32_w]; rw [c10b0]) | skip)
        by_cases c11 : (a1.size : Int) > 200
        · rw [if_pos c11] at H
          have c11b0 : decide (200 < (a1.size : Int)) = true := decide_eq_true c11
          have c11b1 : decide (200 < a1.size) = true := decide_eq_true (by omega)
          clear c11
          have H' := Aside0.mk H
          clear H
          go_wp2
          go_meet
          case rel => exact ⟨_, (true), (by first | rfl | (simp; done) | (simp [*]; done) | (congr 1; cases a1.toList <;> rfl)), H', ⟨by first | omega | exact Nat.le_refl _⟩, ⟨by (with_reducible repeat (first | refine blk_drewN ?_ _ | refine blk_drew ?_ | refine blk_alloc ?_ _)); refine blk_put (cs := #[.int .i64 t211, .int .i64 0]) ?_ 1 _ rfl; (with_reducible repeat (first | refine blk_drewN ?_ _ | refine blk_drew ?_ | refine blk_alloc ?_ _)); refine blk_put (cs := #[.int .i64 0, .int .i64 0]) ?_ 0 _ rfl; (with_reducible repeat (first | refine blk_drewN ?_ _ | refine blk_drew ?_ | refine blk_alloc ?_ _)); exact BK214.out⟩, ⟨by repeat (first | (with_reducible first | exact HB.out | apply below_alloc | apply pw_below_drewN | apply below_drew1 | refine below_set ?_ GE214.out) | exact HB.out)⟩⟩
        · rw [if_neg c11] at H
          have c11b0 : decide (200 < (a1.size : Int)) = false := decide_eq_false c11
          have c11b1 : decide (200 < a1.size) = false := decide_eq_false (by omega)
          clear c11
          replace H := Option.bind_eq_some_iff.mp H
          obtain ⟨t215, A120, H⟩ := H
          replace H : (entrepotlaw03_WordsPaired.j0 k a0 a1 a2 (!t215)) = some r := H
          have A12 := Aside0.mk A120
          clear A120
          have H' := Aside0.mk H
          clear H
          go_wp2_with (first | (go_at_call 10; (with_reducible refine (entrepotlaw03_shown.calls  t215 _ A12.out).mono ?_); rintro e w13 ⟨rfl, hb⟩; have n0_ := Aside0.mk (blk_below (g := gb214) (o := .cells #[.int .i64 t211, .int .i64 t212] 24 (0, 0)) (by (with_reducible repeat (first | refine blk_drewN ?_ _ | refine blk_drew ?_ | refine blk_alloc ?_ _)); refine blk_put (cs := #[.int .i64 t211, .int .i64 0]) ?_ 1 _ rfl; (with_reducible repeat (first | refine blk_drewN ?_ _ | refine blk_drew ?_ | refine blk_alloc ?_ _)); refine blk_put (cs := #[.int .i64 0, .int .i64 0]) ?_ 0 _ rfl; (with_reducible repeat (first | refine blk_drewN ?_ _ | refine blk_drew ?_ | refine blk_alloc ?_ _)); exact BK214.out) hb); have n1_ := Aside0.mk (below_step (by repeat (first | (with_reducible first | exact HB.out | apply below_alloc | apply pw_below_drewN | apply below_drew1 | refine below_set ?_ GE214.out) | exact HB.out)) hb); clear BK214; clear HB; have BK214 := n0_; have HB := n1_; clear n0_ n1_; (try clear hb); (try clear hb2); (try clear hk); (try clear hi)))
          go_meet
          case rel => exact ⟨_, (!t215), (by first | rfl | (simp; done) | (simp [*]; done) | (congr 1; cases a1.toList <;> rfl)), H', ⟨by first | omega | exact Nat.le_refl _⟩, ⟨by (with_reducible repeat (first | refine blk_drewN ?_ _ | refine blk_drew ?_ | refine blk_alloc ?_ _)); exact BK214.out⟩, ⟨by repeat (first | (with_reducible first | exact HB.out | apply below_alloc | apply pw_below_drewN | apply below_drew1 | refine below_set ?_ GE214.out) | exact HB.out)⟩⟩
      · rw [if_neg c10] at H
        have c10b0 : (t210.toList == a0.toList) = false := beq_eq_false_iff_ne.mpr c10
        have c10b1 : (t210.toList != a0.toList) = true := bne_iff_ne.mpr c10
        (first | rw [c10b0] | (simp only [i64_w, i32_w]; rw [c10b0]) | skip)
        have H' := Aside0.mk H
        clear H
        go_wp2
        go_meet
        case rel => exact ⟨_, (true), (by first | rfl | (simp; done) | (simp [*]; done) | (congr 1; cases a1.toList <;> rfl)), H', ⟨by first | omega | exact Nat.le_refl _⟩, ⟨by (with_reducible repeat (first | refine blk_drewN ?_ _ | refine blk_drew ?_ | refine blk_alloc ?_ _)); refine blk_put (cs := #[.int .i64 t211, .int .i64 0]) ?_ 1 _ rfl; (with_reducible repeat (first | refine blk_drewN ?_ _ | refine blk_drew ?_ | refine blk_alloc ?_ _)); refine blk_put (cs := #[.int .i64 0, .int .i64 0]) ?_ 0 _ rfl; (with_reducible repeat (first | refine blk_drewN ?_ _ | refine blk_drew ?_ | refine blk_alloc ?_ _)); exact BK214.out⟩, ⟨by repeat (first | (with_reducible first | exact HB.out | apply below_alloc | apply pw_below_drewN | apply below_drew1 | refine below_set ?_ GE214.out) | exact HB.out)⟩⟩
    · replace c9 := Bool.eq_false_iff.mpr c9
      subst c9
      have H1 : (entrepotlaw03_WordsPaired.j0 k a0 a1 a2 true) = some r := by rw [if_neg (show ¬ (false = true) by decide)] at H; exact H
      clear H
      have H := H1
      clear H1
      have H' := Aside0.mk H
      clear H
      go_wp2
      go_meet
      case rel => exact ⟨_, (true), (by first | rfl | (simp; done) | (simp [*]; done) | (congr 1; cases a1.toList <;> rfl)), H', ⟨by first | omega | exact Nat.le_refl _⟩, ⟨by (with_reducible repeat (first | refine blk_drewN ?_ _ | refine blk_drew ?_ | refine blk_alloc ?_ _)); refine blk_put (cs := #[.int .i64 t211, .int .i64 0]) ?_ 1 _ rfl; (with_reducible repeat (first | refine blk_drewN ?_ _ | refine blk_drew ?_ | refine blk_alloc ?_ _)); refine blk_put (cs := #[.int .i64 0, .int .i64 0]) ?_ 0 _ rfl; (with_reducible repeat (first | refine blk_drewN ?_ _ | refine blk_drew ?_ | refine blk_alloc ?_ _)); exact BK214.out⟩, ⟨by repeat (first | (with_reducible first | exact HB.out | apply below_alloc | apply pw_below_drewN | apply below_drew1 | refine below_set ?_ GE214.out) | exact HB.out)⟩⟩
  case rest =>
    clear HC5
    try clear c1
    try clear p2
    try clear c7
    try clear c9
    try clear c10
    try clear c10b0
    try clear c10b1
    try clear c11
    try clear c11b0
    try clear c11b1
    try clear hcz8_0
    try clear hcz8_1
    try clear hfz8_0
    try clear hfz8_1
    obtain ⟨kq, x43_4, rfl, HA, HJ4, BK214, HB⟩ := hcut
    cases kq with
    | zero => exact absurd HA.out (by simp [entrepotlaw03_WordsPaired.j0])
    | succ kj4 =>
      have H := HA.out
      clear HA
      simp only [entrepotlaw03_WordsPaired.j0] at H
      by_cases c14 : x43_4 = true
      · subst c14
        have H1 : ((entrepotlaw03_shown.f).bind fun t216 => (some t216)) = some r := by rw [if_pos rfl] at H; exact H
        clear H
        have H := H1
        clear H1
        replace H := Option.bind_eq_some_iff.mp H
        obtain ⟨t216, A150, H⟩ := H
        replace H : (some t216) = some r := H
        have A15 := Aside0.mk A150
        clear A150
        obtain rfl := Option.some.inj H
        go_wp2_with (first | ((with_reducible refine gate_callee (f := 10) rfl ?_); refine goesL_ (some 44) rfl rfl Tryd.func10 (by kernel_rfl) rfl #[] rfl (by (try simp only [List.map_toArray, List.map_cons, List.map_nil]); first | done | rfl | (simp only [List.length_drop, List.length_take]; rfl) | (simp only [ByteArray.size_append, Int.natCast_add]; rfl)) ?_; (with_reducible refine (entrepotlaw03_shown.calls  t216 _ A15.out).mono ?_); rintro e w16 ⟨rfl, hb⟩; refine ⟨_, rfl, ?_⟩; have n0_ := Aside0.mk (blk_below (g := gb214) (o := .cells #[.int .i64 t211, .int .i64 t212] 24 (0, 0)) (by (with_reducible repeat (first | refine blk_drewN ?_ _ | refine blk_drew ?_ | refine blk_alloc ?_ _)); exact BK214.out) hb); have n1_ := Aside0.mk (below_step (by repeat (first | (with_reducible first | exact HB.out | apply below_alloc | apply pw_below_drewN | apply below_drew1 | refine below_set ?_ GE214.out) | exact HB.out)) hb); clear BK214; clear HB; have BK214 := n0_; have HB := n1_; clear n0_ n1_; (try clear hb); (try clear hb2); (try clear hk); (try clear hi)))
        go_ret
        exact ⟨by first | rfl | (simp [errW_none, errW_some] <;> rfl) | (simp [*, errW_none, errW_some] <;> rfl), by repeat (first | (with_reducible first | exact HB.out | apply below_alloc | apply pw_below_drewN | apply below_drew1 | refine below_set ?_ GE214.out) | exact HB.out)⟩
      · replace c14 := Bool.eq_false_iff.mpr c14
        subst c14
        have H1 : ((entrepotref03_Fields.f kj4 a1 0 (a1.size : Int)).bind fun t217 => (if (t217.length : Int) > 0 then (if 0 < (t217.length : Int) then (if ((rd_T27 t217 0).f0) = 0 then (if 0 ≤ (wrap64 ((t217.length : Int) - 1)) then (if (wrap64 ((t217.length : Int) - 1)) < (t217.length : Int) then (if ((rd_T27 t217 (wrap64 ((t217.length : Int) - 1))).f1) = (a1.size : Int) then (if (t217.length : Int) = 0 then (entrepotlaw03_WordsPaired.j1 kj4 a0 a1 a2 (a1.toList != ([] : List UInt8))) else (entrepotlaw03_WordsPaired.j1 kj4 a0 a1 a2 false)) else (entrepotlaw03_WordsPaired.j1 kj4 a0 a1 a2 true)) else (none)) else (none)) else (entrepotlaw03_WordsPaired.j1 kj4 a0 a1 a2 true)) else (none)) else (if (t217.length : Int) = 0 then (entrepotlaw03_WordsPaired.j1 kj4 a0 a1 a2 (a1.toList != ([] : List UInt8))) else (entrepotlaw03_WordsPaired.j1 kj4 a0 a1 a2 false)))) = some r := by rw [if_neg (show ¬ (false = true) by decide)] at H; exact H
        clear H
        have H := H1
        clear H1
        replace H := Option.bind_eq_some_iff.mp H
        obtain ⟨t217, A170, H⟩ := H
        replace H : (if (t217.length : Int) > 0 then (if 0 < (t217.length : Int) then (if ((rd_T27 t217 0).f0) = 0 then (if 0 ≤ (wrap64 ((t217.length : Int) - 1)) then (if (wrap64 ((t217.length : Int) - 1)) < (t217.length : Int) then (if ((rd_T27 t217 (wrap64 ((t217.length : Int) - 1))).f1) = (a1.size : Int) then (if (t217.length : Int) = 0 then (entrepotlaw03_WordsPaired.j1 kj4 a0 a1 a2 (a1.toList != ([] : List UInt8))) else (entrepotlaw03_WordsPaired.j1 kj4 a0 a1 a2 false)) else (entrepotlaw03_WordsPaired.j1 kj4 a0 a1 a2 true)) else (none)) else (none)) else (entrepotlaw03_WordsPaired.j1 kj4 a0 a1 a2 true)) else (none)) else (if (t217.length : Int) = 0 then (entrepotlaw03_WordsPaired.j1 kj4 a0 a1 a2 (a1.toList != ([] : List UInt8))) else (entrepotlaw03_WordsPaired.j1 kj4 a0 a1 a2 false))) = some r := H
        have A17 := Aside0.mk A170
        clear A170
        have HC18 := Aside0.mk H
        clear H
        go_upto_region 5 with (first | ((with_reducible refine gate_callee (f := 16) rfl ?_); refine goesL_ (some 48) rfl rfl Tryd.func16 (by kernel_rfl) rfl #[.string a1, .int .i64 0, .int .i64 (a1.size : Int)] rfl (by (try simp only [List.map_toArray, List.map_cons, List.map_nil]); first | done | rfl | (simp only [List.length_drop, List.length_take]; rfl) | (simp only [ByteArray.size_append, Int.natCast_add]; rfl)) ?_; (with_reducible refine (entrepotref03_Fields.calls kj4 a1 0 (a1.size : Int) t217 _ A17.out).mono ?_); rintro e w19 ⟨v218, rfl, ho0, hb⟩; refine ⟨_, rfl, ?_⟩; have n0_ := Aside0.mk (Kd.R_lower ho0 (below_size (by repeat (first | (with_reducible first | exact HB.out | apply below_alloc | apply pw_below_drewN | apply below_drew1 | refine below_set ?_ GE214.out) | exact HB.out)))); have n1_ := Aside0.mk (blk_below (g := gb214) (o := .cells #[.int .i64 t211, .int .i64 t212] 24 (0, 0)) (by (with_reducible repeat (first | refine blk_drewN ?_ _ | refine blk_drew ?_ | refine blk_alloc ?_ _)); exact BK214.out) hb); have n2_ := Aside0.mk (below_step (by repeat (first | (with_reducible first | exact HB.out | apply below_alloc | apply pw_below_drewN | apply below_drew1 | refine below_set ?_ GE214.out) | exact HB.out)) hb); clear BK214; clear HB; have HO219 := n0_; have BK214 := n1_; have HB := n2_; clear n0_ n1_ n2_; (try clear hb); (try clear hb2); (try clear hk); (try clear hi); (try clear ho0)))
        (try simp only [Act.put, List.setIfInBounds_toArray, List.set_cons_zero, List.set_cons_succ])
        go_cut [79] (fun v79 wc => ∃ (kq : Nat) (x79_17 : Bool), v79 = .bool x79_17 ∧ Aside0 (entrepotlaw03_WordsPaired.j1 kq a0 a1 a2 x79_17 = some r) ∧ Aside0 (kq ≤ kj4) ∧ Aside0 (wc.heap[gb214]? = some (.cells #[.int .i64 t211, .int .i64 t212] 24 (0, 0))) ∧ Aside0 (Below w.heap.size w wc))
        case first =>
          have H := HC18.out
          clear HC18
          by_cases c20 : (t217.length : Int) > 0
          · rw [if_pos c20] at H
            have c20b0 : decide (0 < (t217.length : Int)) = true := decide_eq_true c20
            have c20b1 : decide (0 < t217.length) = true := decide_eq_true (by omega)
            clear c20
            (first | rw [c20b0] | (simp only [i64_w, i32_w]; rw [c20b0]) | skip)
            by_cases c21 : 0 < (t217.length : Int)
            · rw [if_pos c21] at H
              have c21b0 : decide (0 < (t217.length : Int)) = true := decide_eq_true c21
              have c21b1 : decide (0 < t217.length) = true := decide_eq_true (by omega)
              clear c21
              by_cases c22 : ((rd_T27 t217 0).f0) = 0
              · rw [if_pos c22] at H
                have c22b0 : (((rd_T27 t217 0).f0) == 0) = true := beq_iff_eq.mpr c22
                have c22b1 : (((rd_T27 t217 0).f0) != 0) = false := bne_eq_false_iff_eq.mpr c22
                clear c22
                obtain ⟨ji23, hji23⟩ : ∃ j_ : Int, (wrap64 ((t217.length : Int) - 1)) = j_ := ⟨_, rfl⟩
                replace H : (if 0 ≤ (ji23) then (if (ji23) < (t217.length : Int) then (if ((rd_T27 t217 (ji23)).f1) = (a1.size : Int) then (if (t217.length : Int) = 0 then (entrepotlaw03_WordsPaired.j1 kj4 a0 a1 a2 (a1.toList != ([] : List UInt8))) else (entrepotlaw03_WordsPaired.j1 kj4 a0 a1 a2 false)) else (entrepotlaw03_WordsPaired.j1 kj4 a0 a1 a2 true)) else (none)) else (none)) = some r := by first | (rw [hji23] at H; exact H) | (simp only [hji23] at H ⊢; exact H)
                have hji23w : (IntKind.i64.wrap ((t217.length : Int) - 1)) = ji23 := (i64_w _).trans hji23
                by_cases c24 : 0 ≤ (ji23)
                · rw [if_pos c24] at H
                  have c24b0 : decide (0 ≤ (ji23)) = true := decide_eq_true c24
                  clear c24
                  by_cases c25 : (ji23) < (t217.length : Int)
                  · rw [if_pos c25] at H
                    have c25b0 : decide ((ji23) < (t217.length : Int)) = true := decide_eq_true c25
                    clear c25
                    by_cases c26 : ((rd_T27 t217 (ji23)).f1) = (a1.size : Int)
                    · rw [if_pos c26] at H
                      have c26b0 : (((rd_T27 t217 (ji23)).f1) == (a1.size : Int)) = true := beq_iff_eq.mpr c26
                      have c26b1 : (((rd_T27 t217 (ji23)).f1) != (a1.size : Int)) = false := bne_eq_false_iff_eq.mpr c26
                      clear c26
                      by_cases c27 : (t217.length : Int) = 0
                      · rw [if_pos c27] at H
                        have c27b0 : ((t217.length : Int) == 0) = true := beq_iff_eq.mpr c27
                        have c27b1 : ((t217.length : Int) != 0) = false := bne_eq_false_iff_eq.mpr c27
                        clear c27
                        have H' := Aside0.mk H
                        clear H
                        obtain ⟨Ao28, co28, eo28⟩ := Kd.R_slice HO219.out
                        subst eo28
                        have p220 : 0 ≤ (0 : Int) := (by omega)
                        have q220 : 0 < (t217.length : Int) := of_decide_eq_true (by first | (with_reducible assumption) | assumption)
                        obtain ⟨ad220, e220, hx220_0, hx220_1⟩ := at_T27 (Kd.R_reads' HO219.out).2.2 0 p220 q220
                        cases e220
                        have qi220 : (0 < t217.length) = True := eq_true (by omega)
                        (try rw [show ((0 : Int)).toNat = 0 from rfl] at hx220_0)
                        (try rw [show 0 * 2 = 0 from rfl] at hx220_0)
                        (try rw [Addr.add_zero'] at hx220_0)
                        (try rw [show ((0 : Int)).toNat = 0 from rfl] at hx220_1)
                        (try rw [show 0 * 2 = 0 from rfl] at hx220_1)
                        (try rw [Addr.add_zero'] at hx220_1)
                        replace p220 := eq_true p220
                        replace q220 := eq_true q220
                        have p221 : 0 ≤ ((ji23) : Int) := of_decide_eq_true (by first | (with_reducible assumption) | assumption)
                        have q221 : (ji23) < (t217.length : Int) := of_decide_eq_true (by first | (with_reducible assumption) | assumption)
                        obtain ⟨ad221, e221, hx221_0, hx221_1⟩ := at_T27 (Kd.R_reads' HO219.out).2.2 (ji23) p221 q221
                        obtain rfl : ad220 = ad221 := (by injection e221)
                        replace p221 := eq_true p221
                        replace q221 := eq_true q221
                        go_wp2
                        go_meet
                        case rel => exact ⟨_, ((a1.toList != ([] : List UInt8))), (by first | rfl | (simp; done) | (simp [*]; done) | (congr 1; cases a1.toList <;> rfl)), H', ⟨by have := HJ4.out; first | omega | exact Nat.le_refl _⟩, ⟨by (with_reducible repeat (first | refine blk_drewN ?_ _ | refine blk_drew ?_ | refine blk_alloc ?_ _)); exact BK214.out⟩, ⟨by repeat (first | (with_reducible first | exact HB.out | apply below_alloc | apply pw_below_drewN | apply below_drew1 | refine below_set ?_ GE214.out) | exact HB.out)⟩⟩
                      · rw [if_neg c27] at H
                        have c27b0 : ((t217.length : Int) == 0) = false := beq_eq_false_iff_ne.mpr c27
                        have c27b1 : ((t217.length : Int) != 0) = true := bne_iff_ne.mpr c27
                        have c27b2 : ¬ (t217 = []) := fun h_ => c27 (by rw [h_]; rfl)
                        have H' := Aside0.mk H
                        clear H
                        obtain ⟨Ao29, co29, eo29⟩ := Kd.R_slice HO219.out
                        subst eo29
                        have p220 : 0 ≤ (0 : Int) := (by omega)
                        have q220 : 0 < (t217.length : Int) := of_decide_eq_true (by first | (with_reducible assumption) | assumption)
                        obtain ⟨ad220, e220, hx220_0, hx220_1⟩ := at_T27 (Kd.R_reads' HO219.out).2.2 0 p220 q220
                        cases e220
                        have qi220 : (0 < t217.length) = True := eq_true (by omega)
                        (try rw [show ((0 : Int)).toNat = 0 from rfl] at hx220_0)
                        (try rw [show 0 * 2 = 0 from rfl] at hx220_0)
                        (try rw [Addr.add_zero'] at hx220_0)
                        (try rw [show ((0 : Int)).toNat = 0 from rfl] at hx220_1)
                        (try rw [show 0 * 2 = 0 from rfl] at hx220_1)
                        (try rw [Addr.add_zero'] at hx220_1)
                        replace p220 := eq_true p220
                        replace q220 := eq_true q220
                        have p221 : 0 ≤ ((ji23) : Int) := of_decide_eq_true (by first | (with_reducible assumption) | assumption)
                        have q221 : (ji23) < (t217.length : Int) := of_decide_eq_true (by first | (with_reducible assumption) | assumption)
                        obtain ⟨ad221, e221, hx221_0, hx221_1⟩ := at_T27 (Kd.R_reads' HO219.out).2.2 (ji23) p221 q221
                        obtain rfl : ad220 = ad221 := (by injection e221)
                        replace p221 := eq_true p221
                        replace q221 := eq_true q221
                        go_wp2
                        go_meet
                        case rel => exact ⟨_, (false), (by first | rfl | (simp; done) | (simp [*]; done) | (congr 1; cases a1.toList <;> rfl)), H', ⟨by have := HJ4.out; first | omega | exact Nat.le_refl _⟩, ⟨by (with_reducible repeat (first | refine blk_drewN ?_ _ | refine blk_drew ?_ | refine blk_alloc ?_ _)); exact BK214.out⟩, ⟨by repeat (first | (with_reducible first | exact HB.out | apply below_alloc | apply pw_below_drewN | apply below_drew1 | refine below_set ?_ GE214.out) | exact HB.out)⟩⟩
                    · rw [if_neg c26] at H
                      have c26b0 : (((rd_T27 t217 (ji23)).f1) == (a1.size : Int)) = false := beq_eq_false_iff_ne.mpr c26
                      have c26b1 : (((rd_T27 t217 (ji23)).f1) != (a1.size : Int)) = true := bne_iff_ne.mpr c26
                      have H' := Aside0.mk H
                      clear H
                      obtain ⟨Ao30, co30, eo30⟩ := Kd.R_slice HO219.out
                      subst eo30
                      have p220 : 0 ≤ (0 : Int) := (by omega)
                      have q220 : 0 < (t217.length : Int) := of_decide_eq_true (by first | (with_reducible assumption) | assumption)
                      obtain ⟨ad220, e220, hx220_0, hx220_1⟩ := at_T27 (Kd.R_reads' HO219.out).2.2 0 p220 q220
                      cases e220
                      have qi220 : (0 < t217.length) = True := eq_true (by omega)
                      (try rw [show ((0 : Int)).toNat = 0 from rfl] at hx220_0)
                      (try rw [show 0 * 2 = 0 from rfl] at hx220_0)
                      (try rw [Addr.add_zero'] at hx220_0)
                      (try rw [show ((0 : Int)).toNat = 0 from rfl] at hx220_1)
                      (try rw [show 0 * 2 = 0 from rfl] at hx220_1)
                      (try rw [Addr.add_zero'] at hx220_1)
                      replace p220 := eq_true p220
                      replace q220 := eq_true q220
                      have p221 : 0 ≤ ((ji23) : Int) := of_decide_eq_true (by first | (with_reducible assumption) | assumption)
                      have q221 : (ji23) < (t217.length : Int) := of_decide_eq_true (by first | (with_reducible assumption) | assumption)
                      obtain ⟨ad221, e221, hx221_0, hx221_1⟩ := at_T27 (Kd.R_reads' HO219.out).2.2 (ji23) p221 q221
                      obtain rfl : ad220 = ad221 := (by injection e221)
                      replace p221 := eq_true p221
                      replace q221 := eq_true q221
                      go_wp2
                      go_meet
                      case rel => exact ⟨_, (true), (by first | rfl | (simp; done) | (simp [*]; done) | (congr 1; cases a1.toList <;> rfl)), H', ⟨by have := HJ4.out; first | omega | exact Nat.le_refl _⟩, ⟨by (with_reducible repeat (first | refine blk_drewN ?_ _ | refine blk_drew ?_ | refine blk_alloc ?_ _)); exact BK214.out⟩, ⟨by repeat (first | (with_reducible first | exact HB.out | apply below_alloc | apply pw_below_drewN | apply below_drew1 | refine below_set ?_ GE214.out) | exact HB.out)⟩⟩
                  · rw [if_neg c25] at H
                    exact absurd H (by simp)
                · rw [if_neg c24] at H
                  exact absurd H (by simp)
              · rw [if_neg c22] at H
                have c22b0 : (((rd_T27 t217 0).f0) == 0) = false := beq_eq_false_iff_ne.mpr c22
                have c22b1 : (((rd_T27 t217 0).f0) != 0) = true := bne_iff_ne.mpr c22
                have H' := Aside0.mk H
                clear H
                obtain ⟨Ao31, co31, eo31⟩ := Kd.R_slice HO219.out
                subst eo31
                have p220 : 0 ≤ (0 : Int) := (by omega)
                have q220 : 0 < (t217.length : Int) := of_decide_eq_true (by first | (with_reducible assumption) | assumption)
                obtain ⟨ad220, e220, hx220_0, hx220_1⟩ := at_T27 (Kd.R_reads' HO219.out).2.2 0 p220 q220
                cases e220
                have qi220 : (0 < t217.length) = True := eq_true (by omega)
                (try rw [show ((0 : Int)).toNat = 0 from rfl] at hx220_0)
                (try rw [show 0 * 2 = 0 from rfl] at hx220_0)
                (try rw [Addr.add_zero'] at hx220_0)
                (try rw [show ((0 : Int)).toNat = 0 from rfl] at hx220_1)
                (try rw [show 0 * 2 = 0 from rfl] at hx220_1)
                (try rw [Addr.add_zero'] at hx220_1)
                replace p220 := eq_true p220
                replace q220 := eq_true q220
                go_wp2
                go_meet
                case rel => exact ⟨_, (true), (by first | rfl | (simp; done) | (simp [*]; done) | (congr 1; cases a1.toList <;> rfl)), H', ⟨by have := HJ4.out; first | omega | exact Nat.le_refl _⟩, ⟨by (with_reducible repeat (first | refine blk_drewN ?_ _ | refine blk_drew ?_ | refine blk_alloc ?_ _)); exact BK214.out⟩, ⟨by repeat (first | (with_reducible first | exact HB.out | apply below_alloc | apply pw_below_drewN | apply below_drew1 | refine below_set ?_ GE214.out) | exact HB.out)⟩⟩
            · rw [if_neg c21] at H
              exact absurd H (by simp)
          · rw [if_neg c20] at H
            have c20b0 : decide (0 < (t217.length : Int)) = false := decide_eq_false c20
            have c20b1 : decide (0 < t217.length) = false := decide_eq_false (by omega)
            clear c20
            (first | rw [c20b0] | (simp only [i64_w, i32_w]; rw [c20b0]) | skip)
            by_cases c32 : (t217.length : Int) = 0
            · rw [if_pos c32] at H
              have c32b0 : ((t217.length : Int) == 0) = true := beq_iff_eq.mpr c32
              have c32b1 : ((t217.length : Int) != 0) = false := bne_eq_false_iff_eq.mpr c32
              clear c32
              have H' := Aside0.mk H
              clear H
              obtain ⟨Ao33, co33, eo33⟩ := Kd.R_slice HO219.out
              subst eo33
              go_wp2
              go_meet
              case rel => exact ⟨_, ((a1.toList != ([] : List UInt8))), (by first | rfl | (simp; done) | (simp [*]; done) | (congr 1; cases a1.toList <;> rfl)), H', ⟨by have := HJ4.out; first | omega | exact Nat.le_refl _⟩, ⟨by (with_reducible repeat (first | refine blk_drewN ?_ _ | refine blk_drew ?_ | refine blk_alloc ?_ _)); exact BK214.out⟩, ⟨by repeat (first | (with_reducible first | exact HB.out | apply below_alloc | apply pw_below_drewN | apply below_drew1 | refine below_set ?_ GE214.out) | exact HB.out)⟩⟩
            · rw [if_neg c32] at H
              have c32b0 : ((t217.length : Int) == 0) = false := beq_eq_false_iff_ne.mpr c32
              have c32b1 : ((t217.length : Int) != 0) = true := bne_iff_ne.mpr c32
              have c32b2 : ¬ (t217 = []) := fun h_ => c32 (by rw [h_]; rfl)
              have H' := Aside0.mk H
              clear H
              obtain ⟨Ao34, co34, eo34⟩ := Kd.R_slice HO219.out
              subst eo34
              go_wp2
              go_meet
              case rel => exact ⟨_, (false), (by first | rfl | (simp; done) | (simp [*]; done) | (congr 1; cases a1.toList <;> rfl)), H', ⟨by have := HJ4.out; first | omega | exact Nat.le_refl _⟩, ⟨by (with_reducible repeat (first | refine blk_drewN ?_ _ | refine blk_drew ?_ | refine blk_alloc ?_ _)); exact BK214.out⟩, ⟨by repeat (first | (with_reducible first | exact HB.out | apply below_alloc | apply pw_below_drewN | apply below_drew1 | refine below_set ?_ GE214.out) | exact HB.out)⟩⟩
        case rest =>
          clear HC18
          try clear c1
          try clear c2
          try clear p2
          try clear q2
          try clear hx2
          try clear qi2
          try clear c3
          try clear p6
          try clear c7
          try clear c9
          try clear c10
          try clear c10b0
          try clear c10b1
          try clear c11
          try clear c11b0
          try clear c11b1
          try clear c14
          try clear c16
          try clear c20
          try clear c20b0
          try clear c20b1
          try clear c21
          try clear c21b0
          try clear c21b1
          try clear c22
          try clear c22b0
          try clear c22b1
          try clear p22
          try clear q22
          try clear hx22
          try clear qi22
          try clear c24
          try clear c24b0
          try clear c25
          try clear c25b0
          try clear c26
          try clear c26b0
          try clear c26b1
          try clear c27
          try clear c27b0
          try clear c27b1
          try clear c27b2
          try clear c32
          try clear c32b0
          try clear c32b1
          try clear c32b2
          try clear hcz8_0
          try clear hcz8_1
          try clear hfz8_0
          try clear hfz8_1
          try clear hx220_0
          try clear hx220_1
          try clear hx221_0
          try clear hx221_1
          try clear p2
          try clear p220
          try clear p221
          try clear q220
          try clear q221
          obtain ⟨kq, x79_17, rfl, HA, HJ17, BK214, HB⟩ := hcut
          cases kq with
          | zero => exact absurd HA.out (by simp [entrepotlaw03_WordsPaired.j1])
          | succ kj17 =>
            have H := HA.out
            clear HA
            simp only [entrepotlaw03_WordsPaired.j1] at H
            by_cases c35 : x79_17 = true
            · subst c35
              have H1 : (some true) = some r := by rw [if_pos rfl] at H; exact H
              clear H
              have H := H1
              clear H1
              obtain rfl := Option.some.inj H
              go_wp2
              go_ret
              exact ⟨by first | rfl | (simp [errW_none, errW_some] <;> rfl) | (simp [*, errW_none, errW_some] <;> rfl), by repeat (first | (with_reducible first | exact HB.out | apply below_alloc | apply pw_below_drewN | apply below_drew1 | refine below_set ?_ GE214.out) | exact HB.out)⟩
            · replace c35 := Bool.eq_false_iff.mpr c35
              subst c35
              have H1 : (entrepotlaw03_WordsPaired.l0 kj17 a0 a1 a2 (⟨#[]⟩ : ByteArray) 0) = some r := by rw [if_neg (show ¬ (false = true) by decide)] at H; exact H
              clear H
              have H := H1
              clear H1
              have H' := Aside0.mk H
              clear H
              go_wp2
              go_loopg [11, 12] kj17 (fun kq v11 v12 w' => ∃ (x11_3 : ByteArray) (x12_3 : Int), v11 = .string x11_3 ∧ v12 = .int .i64 x12_3 ∧ Aside0 (entrepotlaw03_WordsPaired.l0 kq a0 a1 a2 x11_3 x12_3 = some r) ∧ Aside0 (kq ≤ kj17) ∧ Aside0 (w'.heap[gb214]? = some (.cells #[.int .i64 t211, .int .i64 t212] 24 (0, 0))) ∧ Aside0 (Below w.heap.size w w'))
              case atStart => exact ⟨((⟨#[]⟩ : ByteArray)), (0), (by first | rfl | (simp; done) | (simp [*]; done)), (by first | rfl | (simp; done) | (simp [*]; done) | (congr 1; cases a1.toList <;> rfl)), H', ⟨Nat.le_refl _⟩, ⟨by (with_reducible repeat (first | refine blk_drewN ?_ _ | refine blk_drew ?_ | refine blk_alloc ?_ _)); exact BK214.out⟩, ⟨by repeat (first | (with_reducible first | exact HB.out | apply below_alloc | apply pw_below_drewN | apply below_drew1 | refine below_set ?_ GE214.out) | exact HB.out)⟩⟩
              case round =>
                clear H'
                try clear c1
                try clear c2
                try clear p2
                try clear q2
                try clear hx2
                try clear qi2
                try clear c3
                try clear p6
                try clear c7
                try clear c9
                try clear c10
                try clear c10b0
                try clear c10b1
                try clear c11
                try clear c11b0
                try clear c11b1
                try clear c14
                try clear c16
                try clear c20
                try clear c20b0
                try clear c20b1
                try clear c21
                try clear c21b0
                try clear c21b1
                try clear c22
                try clear c22b0
                try clear c22b1
                try clear p22
                try clear q22
                try clear hx22
                try clear qi22
                try clear c24
                try clear c24b0
                try clear c25
                try clear c25b0
                try clear c26
                try clear c26b0
                try clear c26b1
                try clear c27
                try clear c27b0
                try clear c27b1
                try clear c27b2
                try clear c32
                try clear c32b0
                try clear c32b1
                try clear c32b2
                try clear c35
                try clear hcz8_0
                try clear hcz8_1
                try clear hfz8_0
                try clear hfz8_1
                try clear hx220_0
                try clear hx220_1
                try clear hx221_0
                try clear hx221_1
                try clear p2
                try clear p22
                try clear p220
                try clear p221
                try clear p6
                try clear q2
                try clear q22
                try clear q220
                try clear q221
                obtain ⟨x11_3, x12_3, rfl, rfl, HA, HK3, BK214, HB⟩ := hrel
                cases gk with
                | zero => exact absurd HA.out (by simp [entrepotlaw03_WordsPaired.l0])
                | succ k3 =>
                  have H := HA.out
                  clear HA
                  simp only [entrepotlaw03_WordsPaired.l0] at H
                  by_cases c36 : x12_3 < (Int.tmod (wrap64 (a2)) 4)
                  · rw [if_pos c36] at H
                    have c36b0 : decide (x12_3 < (Int.tmod (wrap64 (a2)) 4)) = true := decide_eq_true c36
                    clear c36
                    by_cases c37 : x11_3.size + 1 ≤ 9223372036854775807
                    · rw [if_pos c37] at H
                      have c37b0 := eq_true c37
                      have c37b1 : decide (x11_3.size + 1 ≤ 9223372036854775807) = true := decide_eq_true c37
                      try have c37b2 : (9223372036854775807 < x11_3.size + 1) = False := eq_false (Nat.not_lt.2 c37)
                      have H' := Aside0.mk H
                      clear H
                      go_wp2
                      go_roundg k3
                      case measure => have := HJ4.out; have := HJ17.out; have := HK3.out; omega
                      case rel => exact ⟨(x11_3 ++ (⟨#[32]⟩ : ByteArray)), (wrap64 (x12_3 + 1)), (by first | rfl | (simp; done) | (simp [*]; done)), (by first | rfl | (simp; done) | (simp [*]; done) | (congr 1; cases a1.toList <;> rfl)), H', ⟨by have := HJ4.out; have := HJ17.out; have := HK3.out; omega⟩, ⟨by (with_reducible repeat (first | refine blk_drewN ?_ _ | refine blk_drew ?_ | refine blk_alloc ?_ _)); exact BK214.out⟩, ⟨by repeat (first | (with_reducible first | exact HB.out | apply below_alloc | apply pw_below_drewN | apply below_drew1 | refine below_set ?_ GE214.out) | exact HB.out)⟩⟩
                    · rw [if_neg c37] at H
                      exact absurd H (by simp)
                  · rw [if_neg c36] at H
                    have c36b0 : decide (x12_3 < (Int.tmod (wrap64 (a2)) 4)) = false := decide_eq_false c36
                    clear c36
                    by_cases c38 : x11_3.size + a0.size ≤ 9223372036854775807
                    · rw [if_pos c38] at H
                      have c38b0 := eq_true c38
                      have c38b1 : decide (x11_3.size + a0.size ≤ 9223372036854775807) = true := decide_eq_true c38
                      try have c38b2 : (9223372036854775807 < x11_3.size + a0.size) = False := eq_false (Nat.not_lt.2 c38)
                      by_cases c39 : (x11_3 ++ a0).size + x11_3.size ≤ 9223372036854775807
                      · rw [if_pos c39] at H
                        have c39b0 := eq_true c39
                        have c39b1 : decide ((x11_3 ++ a0).size + x11_3.size ≤ 9223372036854775807) = true := decide_eq_true c39
                        try have c39b2 : (9223372036854775807 < (x11_3 ++ a0).size + x11_3.size) = False := eq_false (Nat.not_lt.2 c39)
                        try have c39b4 : (9223372036854775807 < x11_3.size + a0.size + x11_3.size) = False := eq_false (by have h_ := c39; simp only [ByteArray.size_append] at h_; omega)
                        by_cases c40 : ((x11_3 ++ a0) ++ x11_3).size + 1 ≤ 9223372036854775807
                        · rw [if_pos c40] at H
                          have c40b0 := eq_true c40
                          have c40b1 : decide (((x11_3 ++ a0) ++ x11_3).size + 1 ≤ 9223372036854775807) = true := decide_eq_true c40
                          try have c40b2 : (9223372036854775807 < ((x11_3 ++ a0) ++ x11_3).size + 1) = False := eq_false (Nat.not_lt.2 c40)
                          try have c40b4 : (9223372036854775807 < x11_3.size + a0.size + x11_3.size + 1) = False := eq_false (by have h_ := c40; simp only [ByteArray.size_append] at h_; omega)
                          by_cases c41 : (((x11_3 ++ a0) ++ x11_3) ++ (⟨#[58]⟩ : ByteArray)).size + x11_3.size ≤ 9223372036854775807
                          · rw [if_pos c41] at H
                            have c41b0 := eq_true c41
                            have c41b1 : decide ((((x11_3 ++ a0) ++ x11_3) ++ (⟨#[58]⟩ : ByteArray)).size + x11_3.size ≤ 9223372036854775807) = true := decide_eq_true c41
                            try have c41b2 : (9223372036854775807 < (((x11_3 ++ a0) ++ x11_3) ++ (⟨#[58]⟩ : ByteArray)).size + x11_3.size) = False := eq_false (Nat.not_lt.2 c41)
                            try have c41b4 : (9223372036854775807 < x11_3.size + a0.size + x11_3.size + 1 + x11_3.size) = False := eq_false (by have h_ := c41; simp only [ByteArray.size_append] at h_; have e0_ : (⟨#[58]⟩ : ByteArray).size = 1 := rfl; omega)
                            by_cases c42 : ((((x11_3 ++ a0) ++ x11_3) ++ (⟨#[58]⟩ : ByteArray)) ++ x11_3).size + a1.size ≤ 9223372036854775807
                            · rw [if_pos c42] at H
                              have c42b0 := eq_true c42
                              have c42b1 : decide (((((x11_3 ++ a0) ++ x11_3) ++ (⟨#[58]⟩ : ByteArray)) ++ x11_3).size + a1.size ≤ 9223372036854775807) = true := decide_eq_true c42
                              try have c42b2 : (9223372036854775807 < ((((x11_3 ++ a0) ++ x11_3) ++ (⟨#[58]⟩ : ByteArray)) ++ x11_3).size + a1.size) = False := eq_false (Nat.not_lt.2 c42)
                              try have c42b4 : (9223372036854775807 < x11_3.size + a0.size + x11_3.size + 1 + x11_3.size + a1.size) = False := eq_false (by have h_ := c42; simp only [ByteArray.size_append] at h_; have e0_ : (⟨#[58]⟩ : ByteArray).size = 1 := rfl; omega)
                              by_cases c43 : (((((x11_3 ++ a0) ++ x11_3) ++ (⟨#[58]⟩ : ByteArray)) ++ x11_3) ++ a1).size + x11_3.size ≤ 9223372036854775807
                              · rw [if_pos c43] at H
                                have c43b0 := eq_true c43
                                have c43b1 : decide ((((((x11_3 ++ a0) ++ x11_3) ++ (⟨#[58]⟩ : ByteArray)) ++ x11_3) ++ a1).size + x11_3.size ≤ 9223372036854775807) = true := decide_eq_true c43
                                try have c43b2 : (9223372036854775807 < (((((x11_3 ++ a0) ++ x11_3) ++ (⟨#[58]⟩ : ByteArray)) ++ x11_3) ++ a1).size + x11_3.size) = False := eq_false (Nat.not_lt.2 c43)
                                try have c43b4 : (9223372036854775807 < x11_3.size + a0.size + x11_3.size + 1 + x11_3.size + a1.size + x11_3.size) = False := eq_false (by have h_ := c43; simp only [ByteArray.size_append] at h_; have e0_ : (⟨#[58]⟩ : ByteArray).size = 1 := rfl; omega)
                                replace H := Option.bind_eq_some_iff.mp H
                                obtain ⟨⟨t222, t223, t224, t225⟩, A440, H⟩ := H
                                replace H : (if t222.toList = a0.toList then (if t225 = true then ((words_Text.f ((((((x11_3 ++ a0) ++ x11_3) ++ (⟨#[58]⟩ : ByteArray)) ++ x11_3) ++ a1) ++ x11_3) t223 t224).bind fun t227 => (if t227.toList = a1.toList then (if a0.size + x11_3.size ≤ 9223372036854775807 then ((words_Key.f (a0 ++ x11_3) 0 (wrap64 ((a0.size : Int) + (x11_3.size : Int)))).bind fun bt228 => (if bt228.1.toList = a0.toList then (if bt228.2.2.2 = true then (some (bt228.2.1 == (wrap64 ((a0.size : Int) + (x11_3.size : Int))) && (bt228.2.2.1 == (wrap64 ((a0.size : Int) + (x11_3.size : Int)))))) else (some false)) else (some false))) else (none)) else (some false))) else (some false)) else (some false)) = some r := H
                                have A44 := Aside0.mk A440
                                clear A440
                                by_cases c45 : t222.toList = a0.toList
                                · rw [if_pos c45] at H
                                  have c45b0 : (t222.toList == a0.toList) = true := beq_iff_eq.mpr c45
                                  have c45b1 : (t222.toList != a0.toList) = false := bne_eq_false_iff_eq.mpr c45
                                  clear c45
                                  by_cases c46 : t225 = true
                                  · subst c46
                                    have H1 : ((words_Text.f ((((((x11_3 ++ a0) ++ x11_3) ++ (⟨#[58]⟩ : ByteArray)) ++ x11_3) ++ a1) ++ x11_3) t223 t224).bind fun t227 => (if t227.toList = a1.toList then (if a0.size + x11_3.size ≤ 9223372036854775807 then ((words_Key.f (a0 ++ x11_3) 0 (wrap64 ((a0.size : Int) + (x11_3.size : Int)))).bind fun bt228 => (if bt228.1.toList = a0.toList then (if bt228.2.2.2 = true then (some (bt228.2.1 == (wrap64 ((a0.size : Int) + (x11_3.size : Int))) && (bt228.2.2.1 == (wrap64 ((a0.size : Int) + (x11_3.size : Int)))))) else (some false)) else (some false))) else (none)) else (some false))) = some r := by rw [if_pos rfl] at H; exact H
                                    clear H
                                    have H := H1
                                    clear H1
                                    replace H := Option.bind_eq_some_iff.mp H
                                    obtain ⟨t227, A470, H⟩ := H
                                    replace H : (if t227.toList = a1.toList then (if a0.size + x11_3.size ≤ 9223372036854775807 then ((words_Key.f (a0 ++ x11_3) 0 (wrap64 ((a0.size : Int) + (x11_3.size : Int)))).bind fun bt228 => (if bt228.1.toList = a0.toList then (if bt228.2.2.2 = true then (some (bt228.2.1 == (wrap64 ((a0.size : Int) + (x11_3.size : Int))) && (bt228.2.2.1 == (wrap64 ((a0.size : Int) + (x11_3.size : Int)))))) else (some false)) else (some false))) else (none)) else (some false)) = some r := H
                                    have A47 := Aside0.mk A470
                                    clear A470
                                    by_cases c48 : t227.toList = a1.toList
                                    · rw [if_pos c48] at H
                                      have c48b0 : (t227.toList == a1.toList) = true := beq_iff_eq.mpr c48
                                      have c48b1 : (t227.toList != a1.toList) = false := bne_eq_false_iff_eq.mpr c48
                                      clear c48
                                      by_cases c49 : a0.size + x11_3.size ≤ 9223372036854775807
                                      · rw [if_pos c49] at H
                                        rw [show wrap64 ((a0.size : Int) + (x11_3.size : Int)) = (a0.size : Int) + (x11_3.size : Int) from IntWalk.wrap64_in _ ⟨by omega, by omega⟩] at H
                                        have c49b0 := eq_true c49
                                        have c49b1 : decide (a0.size + x11_3.size ≤ 9223372036854775807) = true := decide_eq_true c49
                                        try have c49b2 : (9223372036854775807 < a0.size + x11_3.size) = False := eq_false (Nat.not_lt.2 c49)
                                        replace H := Option.bind_eq_some_iff.mp H
                                        obtain ⟨⟨t228, t229, t230, t231⟩, A500, H⟩ := H
                                        replace H : (if t228.toList = a0.toList then (if t231 = true then (some (t229 == ((a0.size : Int) + (x11_3.size : Int)) && (t230 == ((a0.size : Int) + (x11_3.size : Int))))) else (some false)) else (some false)) = some r := H
                                        have A50 := Aside0.mk A500
                                        clear A500
                                        by_cases c51 : t228.toList = a0.toList
                                        · rw [if_pos c51] at H
                                          have c51b0 : (t228.toList == a0.toList) = true := beq_iff_eq.mpr c51
                                          have c51b1 : (t228.toList != a0.toList) = false := bne_eq_false_iff_eq.mpr c51
                                          clear c51
                                          by_cases c52 : t231 = true
                                          · subst c52
                                            have H1 : (some (t229 == ((a0.size : Int) + (x11_3.size : Int)) && (t230 == ((a0.size : Int) + (x11_3.size : Int))))) = some r := by rw [if_pos rfl] at H; exact H
                                            clear H
                                            have H := H1
                                            clear H1
                                            obtain rfl := Option.some.inj H
                                            go_wp2_with (first | ((with_reducible refine gate_callee (f := 11) rfl ?_); refine goesL_ (some 105) rfl rfl Tryd.func11 (by kernel_rfl) rfl #[.string ((((((x11_3 ++ a0) ++ x11_3) ++ (⟨#[58]⟩ : ByteArray)) ++ x11_3) ++ a1) ++ x11_3), .int .i64 0, .int .i64 (((((((x11_3 ++ a0) ++ x11_3) ++ (⟨#[58]⟩ : ByteArray)) ++ x11_3) ++ a1) ++ x11_3).size : Int)] rfl (by (try simp only [List.map_toArray, List.map_cons, List.map_nil]); first | done | rfl | (simp only [List.length_drop, List.length_take]; rfl) | (simp only [ByteArray.size_append, Int.natCast_add]; rfl)) ?_; (with_reducible refine (words_Key.calls ((((((x11_3 ++ a0) ++ x11_3) ++ (⟨#[58]⟩ : ByteArray)) ++ x11_3) ++ a1) ++ x11_3) 0 (((((((x11_3 ++ a0) ++ x11_3) ++ (⟨#[58]⟩ : ByteArray)) ++ x11_3) ++ a1) ++ x11_3).size : Int) t222 t223 t224 true _ A44.out).mono ?_); rintro e w53 ⟨rfl, hb⟩; refine ⟨_, rfl, ?_⟩; have n0_ := Aside0.mk (blk_below (g := gb214) (o := .cells #[.int .i64 t211, .int .i64 t212] 24 (0, 0)) (by (with_reducible repeat (first | refine blk_drewN ?_ _ | refine blk_drew ?_ | refine blk_alloc ?_ _)); exact BK214.out) hb); have n1_ := Aside0.mk (below_step (by repeat (first | (with_reducible first | exact HB.out | apply below_alloc | apply pw_below_drewN | apply below_drew1 | refine below_set ?_ GE214.out) | exact HB.out)) hb); clear BK214; clear HB; have BK214 := n0_; have HB := n1_; clear n0_ n1_; (try clear hb); (try clear hb2); (try clear hk); (try clear hi)) | ((with_reducible refine gate_dst (N := 15) rfl ?_); (try (refine gate_guard (by rfl) ?_; dsimp only)); refine box_event ?hg (N := 15) ?hd (cs := #[.int .i64 0, .int .i64 0]) (t := 24) ?hr ?_; (case hd => rfl); (case hg => rfl); (case hr => first | (go_simp; done) | (go_simp; rfl)); intro gb226 hg w54 hbox hb; have n0_ := Aside0.mk (blk_below (g := gb214) (o := .cells #[.int .i64 t211, .int .i64 t212] 24 (0, 0)) (by (with_reducible repeat (first | refine blk_drewN ?_ _ | refine blk_drew ?_ | refine blk_alloc ?_ _)); exact BK214.out) hb); have n1_ := Aside0.mk (below_step (by repeat (first | (with_reducible first | exact HB.out | apply below_alloc | apply pw_below_drewN | apply below_drew1 | refine below_set ?_ GE214.out) | exact HB.out)) hb); have n2_ := Aside0.mk (hbox); have n3_ := Aside0.mk ((by rw [hg]; exact (below_size (by repeat (first | (with_reducible first | exact HB.out | apply below_alloc | apply pw_below_drewN | apply below_drew1 | refine below_set ?_ GE214.out) | exact HB.out))) : w.heap.size ≤ gb226)); have n4_ := Aside0.mk ((by rw [hg]; exact (below_size (by repeat (first | (with_reducible first | exact HB.out | apply below_alloc | apply pw_below_drewN | apply below_drew1 | refine below_set ?_ GE214.out) | exact HB.out))) : w.heap.size ≤ gb226)); have n5_ := Aside0.mk ((by rw [hg]; exact Nat.ne_of_lt (blk_lt (g := gb214) (o := .cells #[.int .i64 t211, .int .i64 t212] 24 (0, 0)) (by (with_reducible repeat (first | refine blk_drewN ?_ _ | refine blk_drew ?_ | refine blk_alloc ?_ _)); exact BK214.out)) : gb214 ≠ gb226)); have n6_ := Aside0.mk ((by rw [hg]; exact Nat.ne_of_gt (blk_lt (g := gb214) (o := .cells #[.int .i64 t211, .int .i64 t212] 24 (0, 0)) (by (with_reducible repeat (first | refine blk_drewN ?_ _ | refine blk_drew ?_ | refine blk_alloc ?_ _)); exact BK214.out)) : gb226 ≠ gb214)); clear BK214; clear HB; have BK214 := n0_; have HB := n1_; have BK226 := n2_; have GW226 := n3_; have GE226 := n4_; have NB214_226 := n5_; have NB226_214 := n6_; clear n0_ n1_ n2_ n3_ n4_ n5_ n6_; clear hb hbox hg; have hnb55 := NB226_214.out; have hnc55 := NB214_226.out; have hcz56_0 : w54.cell? ⟨gb226, 0, none⟩ = some (.int .i64 0) := (blk_cell BK226.out 0).trans rfl; have hcz56_1 : w54.cell? ⟨gb226, 1, none⟩ = some (.int .i64 0) := (blk_cell BK226.out 1).trans rfl; have hfz56_0 := blk_frozen BK226.out 0; have hfz56_1 := blk_frozen BK226.out 1) | (go_at_call 17; (with_reducible refine (words_Text.calls ((((((x11_3 ++ a0) ++ x11_3) ++ (⟨#[58]⟩ : ByteArray)) ++ x11_3) ++ a1) ++ x11_3) t223 t224 t227 _ A47.out).mono ?_); rintro e w57 ⟨rfl, hb⟩; have n0_ := Aside0.mk (blk_below (g := gb214) (o := .cells #[.int .i64 t211, .int .i64 t212] 24 (0, 0)) (by (with_reducible repeat (first | refine blk_drewN ?_ _ | refine blk_drew ?_ | refine blk_alloc ?_ _)); refine blk_far ?_ NB214_226.out _; (with_reducible repeat (first | refine blk_drewN ?_ _ | refine blk_drew ?_ | refine blk_alloc ?_ _)); refine blk_far ?_ NB214_226.out _; (with_reducible repeat (first | refine blk_drewN ?_ _ | refine blk_drew ?_ | refine blk_alloc ?_ _)); exact BK214.out) hb); have n1_ := Aside0.mk (blk_below (g := gb226) (o := .cells #[.int .i64 t223, .int .i64 t224] 24 (0, 0)) (by (with_reducible repeat (first | refine blk_drewN ?_ _ | refine blk_drew ?_ | refine blk_alloc ?_ _)); refine blk_put (cs := #[.int .i64 t223, .int .i64 0]) ?_ 1 _ rfl; (with_reducible repeat (first | refine blk_drewN ?_ _ | refine blk_drew ?_ | refine blk_alloc ?_ _)); refine blk_put (cs := #[.int .i64 0, .int .i64 0]) ?_ 0 _ rfl; (with_reducible repeat (first | refine blk_drewN ?_ _ | refine blk_drew ?_ | refine blk_alloc ?_ _)); exact BK226.out) hb); have n2_ := Aside0.mk (below_step (by repeat (first | (with_reducible first | exact HB.out | apply below_alloc | apply pw_below_drewN | apply below_drew1 | refine below_set ?_ GE214.out | refine below_set ?_ GE226.out) | exact HB.out)) hb); clear BK214; clear BK226; clear HB; have BK214 := n0_; have BK226 := n1_; have HB := n2_; clear n0_ n1_ n2_; (try clear hb); (try clear hb2); (try clear hk); (try clear hi)) | ((with_reducible refine gate_callee (f := 11) rfl ?_); refine goesL_ (some 132) rfl rfl Tryd.func11 (by kernel_rfl) rfl #[.string (a0 ++ x11_3), .int .i64 0, .int .i64 ((a0.size : Int) + (x11_3.size : Int))] rfl (by (try simp only [List.map_toArray, List.map_cons, List.map_nil]); first | done | rfl | (simp only [List.length_drop, List.length_take]; rfl) | (simp only [ByteArray.size_append, Int.natCast_add]; rfl)) ?_; (with_reducible refine (words_Key.calls (a0 ++ x11_3) 0 ((a0.size : Int) + (x11_3.size : Int)) t228 t229 t230 true _ A50.out).mono ?_); rintro e w58 ⟨rfl, hb⟩; refine ⟨_, rfl, ?_⟩; have n0_ := Aside0.mk (blk_below (g := gb214) (o := .cells #[.int .i64 t211, .int .i64 t212] 24 (0, 0)) (by (with_reducible repeat (first | refine blk_drewN ?_ _ | refine blk_drew ?_ | refine blk_alloc ?_ _)); exact BK214.out) hb); have n1_ := Aside0.mk (blk_below (g := gb226) (o := .cells #[.int .i64 t223, .int .i64 t224] 24 (0, 0)) (by (with_reducible repeat (first | refine blk_drewN ?_ _ | refine blk_drew ?_ | refine blk_alloc ?_ _)); exact BK226.out) hb); have n2_ := Aside0.mk (below_step (by repeat (first | (with_reducible first | exact HB.out | apply below_alloc | apply pw_below_drewN | apply below_drew1 | refine below_set ?_ GE214.out | refine below_set ?_ GE226.out) | exact HB.out)) hb); clear BK214; clear BK226; clear HB; have BK214 := n0_; have BK226 := n1_; have HB := n2_; clear n0_ n1_ n2_; (try clear hb); (try clear hb2); (try clear hk); (try clear hi)) | ((with_reducible refine gate_dst (N := 18) rfl ?_); (try (refine gate_guard (by rfl) ?_; dsimp only)); refine box_event ?hg (N := 18) ?hd (cs := #[.int .i64 0, .int .i64 0]) (t := 24) ?hr ?_; (case hd => rfl); (case hg => rfl); (case hr => first | (go_simp; done) | (go_simp; rfl)); intro gb232 hg w59 hbox hb; have n0_ := Aside0.mk (blk_below (g := gb214) (o := .cells #[.int .i64 t211, .int .i64 t212] 24 (0, 0)) (by (with_reducible repeat (first | refine blk_drewN ?_ _ | refine blk_drew ?_ | refine blk_alloc ?_ _)); exact BK214.out) hb); have n1_ := Aside0.mk (blk_below (g := gb226) (o := .cells #[.int .i64 t223, .int .i64 t224] 24 (0, 0)) (by (with_reducible repeat (first | refine blk_drewN ?_ _ | refine blk_drew ?_ | refine blk_alloc ?_ _)); exact BK226.out) hb); have n2_ := Aside0.mk (below_step (by repeat (first | (with_reducible first | exact HB.out | apply below_alloc | apply pw_below_drewN | apply below_drew1 | refine below_set ?_ GE214.out | refine below_set ?_ GE226.out) | exact HB.out)) hb); have n3_ := Aside0.mk (hbox); have n4_ := Aside0.mk ((by rw [hg]; exact (below_size (by repeat (first | (with_reducible first | exact HB.out | apply below_alloc | apply pw_below_drewN | apply below_drew1 | refine below_set ?_ GE214.out | refine below_set ?_ GE226.out) | exact HB.out))) : w.heap.size ≤ gb232)); have n5_ := Aside0.mk ((by rw [hg]; exact (below_size (by repeat (first | (with_reducible first | exact HB.out | apply below_alloc | apply pw_below_drewN | apply below_drew1 | refine below_set ?_ GE214.out | refine below_set ?_ GE226.out) | exact HB.out))) : w.heap.size ≤ gb232)); have n6_ := Aside0.mk ((by rw [hg]; exact Nat.ne_of_lt (blk_lt (g := gb214) (o := .cells #[.int .i64 t211, .int .i64 t212] 24 (0, 0)) (by (with_reducible repeat (first | refine blk_drewN ?_ _ | refine blk_drew ?_ | refine blk_alloc ?_ _)); exact BK214.out)) : gb214 ≠ gb232)); have n7_ := Aside0.mk ((by rw [hg]; exact Nat.ne_of_gt (blk_lt (g := gb214) (o := .cells #[.int .i64 t211, .int .i64 t212] 24 (0, 0)) (by (with_reducible repeat (first | refine blk_drewN ?_ _ | refine blk_drew ?_ | refine blk_alloc ?_ _)); exact BK214.out)) : gb232 ≠ gb214)); have n8_ := Aside0.mk ((by rw [hg]; exact Nat.ne_of_lt (blk_lt (g := gb226) (o := .cells #[.int .i64 t223, .int .i64 t224] 24 (0, 0)) (by (with_reducible repeat (first | refine blk_drewN ?_ _ | refine blk_drew ?_ | refine blk_alloc ?_ _)); exact BK226.out)) : gb226 ≠ gb232)); have n9_ := Aside0.mk ((by rw [hg]; exact Nat.ne_of_gt (blk_lt (g := gb226) (o := .cells #[.int .i64 t223, .int .i64 t224] 24 (0, 0)) (by (with_reducible repeat (first | refine blk_drewN ?_ _ | refine blk_drew ?_ | refine blk_alloc ?_ _)); exact BK226.out)) : gb232 ≠ gb226)); clear BK214; clear BK226; clear HB; have BK214 := n0_; have BK226 := n1_; have HB := n2_; have BK232 := n3_; have GW232 := n4_; have GE232 := n5_; have NB214_232 := n6_; have NB232_214 := n7_; have NB226_232 := n8_; have NB232_226 := n9_; clear n0_ n1_ n2_ n3_ n4_ n5_ n6_ n7_ n8_ n9_; clear hb hbox hg; have hnb60 := NB232_214.out; have hnc60 := NB214_232.out; have hnb61 := NB232_226.out; have hnc61 := NB226_232.out; have hcz62_0 : w59.cell? ⟨gb232, 0, none⟩ = some (.int .i64 0) := (blk_cell BK232.out 0).trans rfl; have hcz62_1 : w59.cell? ⟨gb232, 1, none⟩ = some (.int .i64 0) := (blk_cell BK232.out 1).trans rfl; have hfz62_0 := blk_frozen BK232.out 0; have hfz62_1 := blk_frozen BK232.out 1))
                                            go_ret
                                            exact ⟨by first | rfl | (simp [errW_none, errW_some] <;> rfl) | (simp [*, errW_none, errW_some] <;> rfl), by repeat (first | (with_reducible first | exact HB.out | apply below_alloc | apply pw_below_drewN | apply below_drew1 | refine below_set ?_ GE214.out | refine below_set ?_ GE226.out | refine below_set ?_ GE232.out) | exact HB.out)⟩
                                          · replace c52 := Bool.eq_false_iff.mpr c52
                                            subst c52
                                            have H1 : (some false) = some r := by rw [if_neg (show ¬ (false = true) by decide)] at H; exact H
                                            clear H
                                            have H := H1
                                            clear H1
                                            obtain rfl := Option.some.inj H
                                            go_wp2_with (first | ((with_reducible refine gate_callee (f := 11) rfl ?_); refine goesL_ (some 105) rfl rfl Tryd.func11 (by kernel_rfl) rfl #[.string ((((((x11_3 ++ a0) ++ x11_3) ++ (⟨#[58]⟩ : ByteArray)) ++ x11_3) ++ a1) ++ x11_3), .int .i64 0, .int .i64 (((((((x11_3 ++ a0) ++ x11_3) ++ (⟨#[58]⟩ : ByteArray)) ++ x11_3) ++ a1) ++ x11_3).size : Int)] rfl (by (try simp only [List.map_toArray, List.map_cons, List.map_nil]); first | done | rfl | (simp only [List.length_drop, List.length_take]; rfl) | (simp only [ByteArray.size_append, Int.natCast_add]; rfl)) ?_; (with_reducible refine (words_Key.calls ((((((x11_3 ++ a0) ++ x11_3) ++ (⟨#[58]⟩ : ByteArray)) ++ x11_3) ++ a1) ++ x11_3) 0 (((((((x11_3 ++ a0) ++ x11_3) ++ (⟨#[58]⟩ : ByteArray)) ++ x11_3) ++ a1) ++ x11_3).size : Int) t222 t223 t224 true _ A44.out).mono ?_); rintro e w63 ⟨rfl, hb⟩; refine ⟨_, rfl, ?_⟩; have n0_ := Aside0.mk (blk_below (g := gb214) (o := .cells #[.int .i64 t211, .int .i64 t212] 24 (0, 0)) (by (with_reducible repeat (first | refine blk_drewN ?_ _ | refine blk_drew ?_ | refine blk_alloc ?_ _)); exact BK214.out) hb); have n1_ := Aside0.mk (below_step (by repeat (first | (with_reducible first | exact HB.out | apply below_alloc | apply pw_below_drewN | apply below_drew1 | refine below_set ?_ GE214.out) | exact HB.out)) hb); clear BK214; clear HB; have BK214 := n0_; have HB := n1_; clear n0_ n1_; (try clear hb); (try clear hb2); (try clear hk); (try clear hi)) | ((with_reducible refine gate_dst (N := 15) rfl ?_); (try (refine gate_guard (by rfl) ?_; dsimp only)); refine box_event ?hg (N := 15) ?hd (cs := #[.int .i64 0, .int .i64 0]) (t := 24) ?hr ?_; (case hd => rfl); (case hg => rfl); (case hr => first | (go_simp; done) | (go_simp; rfl)); intro gb226 hg w64 hbox hb; have n0_ := Aside0.mk (blk_below (g := gb214) (o := .cells #[.int .i64 t211, .int .i64 t212] 24 (0, 0)) (by (with_reducible repeat (first | refine blk_drewN ?_ _ | refine blk_drew ?_ | refine blk_alloc ?_ _)); exact BK214.out) hb); have n1_ := Aside0.mk (below_step (by repeat (first | (with_reducible first | exact HB.out | apply below_alloc | apply pw_below_drewN | apply below_drew1 | refine below_set ?_ GE214.out) | exact HB.out)) hb); have n2_ := Aside0.mk (hbox); have n3_ := Aside0.mk ((by rw [hg]; exact (below_size (by repeat (first | (with_reducible first | exact HB.out | apply below_alloc | apply pw_below_drewN | apply below_drew1 | refine below_set ?_ GE214.out) | exact HB.out))) : w.heap.size ≤ gb226)); have n4_ := Aside0.mk ((by rw [hg]; exact (below_size (by repeat (first | (with_reducible first | exact HB.out | apply below_alloc | apply pw_below_drewN | apply below_drew1 | refine below_set ?_ GE214.out) | exact HB.out))) : w.heap.size ≤ gb226)); have n5_ := Aside0.mk ((by rw [hg]; exact Nat.ne_of_lt (blk_lt (g := gb214) (o := .cells #[.int .i64 t211, .int .i64 t212] 24 (0, 0)) (by (with_reducible repeat (first | refine blk_drewN ?_ _ | refine blk_drew ?_ | refine blk_alloc ?_ _)); exact BK214.out)) : gb214 ≠ gb226)); have n6_ := Aside0.mk ((by rw [hg]; exact Nat.ne_of_gt (blk_lt (g := gb214) (o := .cells #[.int .i64 t211, .int .i64 t212] 24 (0, 0)) (by (with_reducible repeat (first | refine blk_drewN ?_ _ | refine blk_drew ?_ | refine blk_alloc ?_ _)); exact BK214.out)) : gb226 ≠ gb214)); clear BK214; clear HB; have BK214 := n0_; have HB := n1_; have BK226 := n2_; have GW226 := n3_; have GE226 := n4_; have NB214_226 := n5_; have NB226_214 := n6_; clear n0_ n1_ n2_ n3_ n4_ n5_ n6_; clear hb hbox hg; have hnb65 := NB226_214.out; have hnc65 := NB214_226.out; have hcz66_0 : w64.cell? ⟨gb226, 0, none⟩ = some (.int .i64 0) := (blk_cell BK226.out 0).trans rfl; have hcz66_1 : w64.cell? ⟨gb226, 1, none⟩ = some (.int .i64 0) := (blk_cell BK226.out 1).trans rfl; have hfz66_0 := blk_frozen BK226.out 0; have hfz66_1 := blk_frozen BK226.out 1) | (go_at_call 17; (with_reducible refine (words_Text.calls ((((((x11_3 ++ a0) ++ x11_3) ++ (⟨#[58]⟩ : ByteArray)) ++ x11_3) ++ a1) ++ x11_3) t223 t224 t227 _ A47.out).mono ?_); rintro e w67 ⟨rfl, hb⟩; have n0_ := Aside0.mk (blk_below (g := gb214) (o := .cells #[.int .i64 t211, .int .i64 t212] 24 (0, 0)) (by (with_reducible repeat (first | refine blk_drewN ?_ _ | refine blk_drew ?_ | refine blk_alloc ?_ _)); refine blk_far ?_ NB214_226.out _; (with_reducible repeat (first | refine blk_drewN ?_ _ | refine blk_drew ?_ | refine blk_alloc ?_ _)); refine blk_far ?_ NB214_226.out _; (with_reducible repeat (first | refine blk_drewN ?_ _ | refine blk_drew ?_ | refine blk_alloc ?_ _)); exact BK214.out) hb); have n1_ := Aside0.mk (blk_below (g := gb226) (o := .cells #[.int .i64 t223, .int .i64 t224] 24 (0, 0)) (by (with_reducible repeat (first | refine blk_drewN ?_ _ | refine blk_drew ?_ | refine blk_alloc ?_ _)); refine blk_put (cs := #[.int .i64 t223, .int .i64 0]) ?_ 1 _ rfl; (with_reducible repeat (first | refine blk_drewN ?_ _ | refine blk_drew ?_ | refine blk_alloc ?_ _)); refine blk_put (cs := #[.int .i64 0, .int .i64 0]) ?_ 0 _ rfl; (with_reducible repeat (first | refine blk_drewN ?_ _ | refine blk_drew ?_ | refine blk_alloc ?_ _)); exact BK226.out) hb); have n2_ := Aside0.mk (below_step (by repeat (first | (with_reducible first | exact HB.out | apply below_alloc | apply pw_below_drewN | apply below_drew1 | refine below_set ?_ GE214.out | refine below_set ?_ GE226.out) | exact HB.out)) hb); clear BK214; clear BK226; clear HB; have BK214 := n0_; have BK226 := n1_; have HB := n2_; clear n0_ n1_ n2_; (try clear hb); (try clear hb2); (try clear hk); (try clear hi)) | ((with_reducible refine gate_callee (f := 11) rfl ?_); refine goesL_ (some 132) rfl rfl Tryd.func11 (by kernel_rfl) rfl #[.string (a0 ++ x11_3), .int .i64 0, .int .i64 ((a0.size : Int) + (x11_3.size : Int))] rfl (by (try simp only [List.map_toArray, List.map_cons, List.map_nil]); first | done | rfl | (simp only [List.length_drop, List.length_take]; rfl) | (simp only [ByteArray.size_append, Int.natCast_add]; rfl)) ?_; (with_reducible refine (words_Key.calls (a0 ++ x11_3) 0 ((a0.size : Int) + (x11_3.size : Int)) t228 t229 t230 false _ A50.out).mono ?_); rintro e w68 ⟨rfl, hb⟩; refine ⟨_, rfl, ?_⟩; have n0_ := Aside0.mk (blk_below (g := gb214) (o := .cells #[.int .i64 t211, .int .i64 t212] 24 (0, 0)) (by (with_reducible repeat (first | refine blk_drewN ?_ _ | refine blk_drew ?_ | refine blk_alloc ?_ _)); exact BK214.out) hb); have n1_ := Aside0.mk (blk_below (g := gb226) (o := .cells #[.int .i64 t223, .int .i64 t224] 24 (0, 0)) (by (with_reducible repeat (first | refine blk_drewN ?_ _ | refine blk_drew ?_ | refine blk_alloc ?_ _)); exact BK226.out) hb); have n2_ := Aside0.mk (below_step (by repeat (first | (with_reducible first | exact HB.out | apply below_alloc | apply pw_below_drewN | apply below_drew1 | refine below_set ?_ GE214.out | refine below_set ?_ GE226.out) | exact HB.out)) hb); clear BK214; clear BK226; clear HB; have BK214 := n0_; have BK226 := n1_; have HB := n2_; clear n0_ n1_ n2_; (try clear hb); (try clear hb2); (try clear hk); (try clear hi)) | ((with_reducible refine gate_dst (N := 18) rfl ?_); (try (refine gate_guard (by rfl) ?_; dsimp only)); refine box_event ?hg (N := 18) ?hd (cs := #[.int .i64 0, .int .i64 0]) (t := 24) ?hr ?_; (case hd => rfl); (case hg => rfl); (case hr => first | (go_simp; done) | (go_simp; rfl)); intro gb232 hg w69 hbox hb; have n0_ := Aside0.mk (blk_below (g := gb214) (o := .cells #[.int .i64 t211, .int .i64 t212] 24 (0, 0)) (by (with_reducible repeat (first | refine blk_drewN ?_ _ | refine blk_drew ?_ | refine blk_alloc ?_ _)); exact BK214.out) hb); have n1_ := Aside0.mk (blk_below (g := gb226) (o := .cells #[.int .i64 t223, .int .i64 t224] 24 (0, 0)) (by (with_reducible repeat (first | refine blk_drewN ?_ _ | refine blk_drew ?_ | refine blk_alloc ?_ _)); exact BK226.out) hb); have n2_ := Aside0.mk (below_step (by repeat (first | (with_reducible first | exact HB.out | apply below_alloc | apply pw_below_drewN | apply below_drew1 | refine below_set ?_ GE214.out | refine below_set ?_ GE226.out) | exact HB.out)) hb); have n3_ := Aside0.mk (hbox); have n4_ := Aside0.mk ((by rw [hg]; exact (below_size (by repeat (first | (with_reducible first | exact HB.out | apply below_alloc | apply pw_below_drewN | apply below_drew1 | refine below_set ?_ GE214.out | refine below_set ?_ GE226.out) | exact HB.out))) : w.heap.size ≤ gb232)); have n5_ := Aside0.mk ((by rw [hg]; exact (below_size (by repeat (first | (with_reducible first | exact HB.out | apply below_alloc | apply pw_below_drewN | apply below_drew1 | refine below_set ?_ GE214.out | refine below_set ?_ GE226.out) | exact HB.out))) : w.heap.size ≤ gb232)); have n6_ := Aside0.mk ((by rw [hg]; exact Nat.ne_of_lt (blk_lt (g := gb214) (o := .cells #[.int .i64 t211, .int .i64 t212] 24 (0, 0)) (by (with_reducible repeat (first | refine blk_drewN ?_ _ | refine blk_drew ?_ | refine blk_alloc ?_ _)); exact BK214.out)) : gb214 ≠ gb232)); have n7_ := Aside0.mk ((by rw [hg]; exact Nat.ne_of_gt (blk_lt (g := gb214) (o := .cells #[.int .i64 t211, .int .i64 t212] 24 (0, 0)) (by (with_reducible repeat (first | refine blk_drewN ?_ _ | refine blk_drew ?_ | refine blk_alloc ?_ _)); exact BK214.out)) : gb232 ≠ gb214)); have n8_ := Aside0.mk ((by rw [hg]; exact Nat.ne_of_lt (blk_lt (g := gb226) (o := .cells #[.int .i64 t223, .int .i64 t224] 24 (0, 0)) (by (with_reducible repeat (first | refine blk_drewN ?_ _ | refine blk_drew ?_ | refine blk_alloc ?_ _)); exact BK226.out)) : gb226 ≠ gb232)); have n9_ := Aside0.mk ((by rw [hg]; exact Nat.ne_of_gt (blk_lt (g := gb226) (o := .cells #[.int .i64 t223, .int .i64 t224] 24 (0, 0)) (by (with_reducible repeat (first | refine blk_drewN ?_ _ | refine blk_drew ?_ | refine blk_alloc ?_ _)); exact BK226.out)) : gb232 ≠ gb226)); clear BK214; clear BK226; clear HB; have BK214 := n0_; have BK226 := n1_; have HB := n2_; have BK232 := n3_; have GW232 := n4_; have GE232 := n5_; have NB214_232 := n6_; have NB232_214 := n7_; have NB226_232 := n8_; have NB232_226 := n9_; clear n0_ n1_ n2_ n3_ n4_ n5_ n6_ n7_ n8_ n9_; clear hb hbox hg; have hnb70 := NB232_214.out; have hnc70 := NB214_232.out; have hnb71 := NB232_226.out; have hnc71 := NB226_232.out; have hcz72_0 : w69.cell? ⟨gb232, 0, none⟩ = some (.int .i64 0) := (blk_cell BK232.out 0).trans rfl; have hcz72_1 : w69.cell? ⟨gb232, 1, none⟩ = some (.int .i64 0) := (blk_cell BK232.out 1).trans rfl; have hfz72_0 := blk_frozen BK232.out 0; have hfz72_1 := blk_frozen BK232.out 1))
                                            go_ret
                                            exact ⟨by first | rfl | (simp [errW_none, errW_some] <;> rfl) | (simp [*, errW_none, errW_some] <;> rfl), by repeat (first | (with_reducible first | exact HB.out | apply below_alloc | apply pw_below_drewN | apply below_drew1 | refine below_set ?_ GE214.out | refine below_set ?_ GE226.out | refine below_set ?_ GE232.out) | exact HB.out)⟩
                                        · rw [if_neg c51] at H
                                          have c51b0 : (t228.toList == a0.toList) = false := beq_eq_false_iff_ne.mpr c51
                                          have c51b1 : (t228.toList != a0.toList) = true := bne_iff_ne.mpr c51
                                          obtain rfl := Option.some.inj H
                                          go_wp2_with (first | ((with_reducible refine gate_callee (f := 11) rfl ?_); refine goesL_ (some 105) rfl rfl Tryd.func11 (by kernel_rfl) rfl #[.string ((((((x11_3 ++ a0) ++ x11_3) ++ (⟨#[58]⟩ : ByteArray)) ++ x11_3) ++ a1) ++ x11_3), .int .i64 0, .int .i64 (((((((x11_3 ++ a0) ++ x11_3) ++ (⟨#[58]⟩ : ByteArray)) ++ x11_3) ++ a1) ++ x11_3).size : Int)] rfl (by (try simp only [List.map_toArray, List.map_cons, List.map_nil]); first | done | rfl | (simp only [List.length_drop, List.length_take]; rfl) | (simp only [ByteArray.size_append, Int.natCast_add]; rfl)) ?_; (with_reducible refine (words_Key.calls ((((((x11_3 ++ a0) ++ x11_3) ++ (⟨#[58]⟩ : ByteArray)) ++ x11_3) ++ a1) ++ x11_3) 0 (((((((x11_3 ++ a0) ++ x11_3) ++ (⟨#[58]⟩ : ByteArray)) ++ x11_3) ++ a1) ++ x11_3).size : Int) t222 t223 t224 true _ A44.out).mono ?_); rintro e w73 ⟨rfl, hb⟩; refine ⟨_, rfl, ?_⟩; have n0_ := Aside0.mk (blk_below (g := gb214) (o := .cells #[.int .i64 t211, .int .i64 t212] 24 (0, 0)) (by (with_reducible repeat (first | refine blk_drewN ?_ _ | refine blk_drew ?_ | refine blk_alloc ?_ _)); exact BK214.out) hb); have n1_ := Aside0.mk (below_step (by repeat (first | (with_reducible first | exact HB.out | apply below_alloc | apply pw_below_drewN | apply below_drew1 | refine below_set ?_ GE214.out) | exact HB.out)) hb); clear BK214; clear HB; have BK214 := n0_; have HB := n1_; clear n0_ n1_; (try clear hb); (try clear hb2); (try clear hk); (try clear hi)) | ((with_reducible refine gate_dst (N := 15) rfl ?_); (try (refine gate_guard (by rfl) ?_; dsimp only)); refine box_event ?hg (N := 15) ?hd (cs := #[.int .i64 0, .int .i64 0]) (t := 24) ?hr ?_; (case hd => rfl); (case hg => rfl); (case hr => first | (go_simp; done) | (go_simp; rfl)); intro gb226 hg w74 hbox hb; have n0_ := Aside0.mk (blk_below (g := gb214) (o := .cells #[.int .i64 t211, .int .i64 t212] 24 (0, 0)) (by (with_reducible repeat (first | refine blk_drewN ?_ _ | refine blk_drew ?_ | refine blk_alloc ?_ _)); exact BK214.out) hb); have n1_ := Aside0.mk (below_step (by repeat (first | (with_reducible first | exact HB.out | apply below_alloc | apply pw_below_drewN | apply below_drew1 | refine below_set ?_ GE214.out) | exact HB.out)) hb); have n2_ := Aside0.mk (hbox); have n3_ := Aside0.mk ((by rw [hg]; exact (below_size (by repeat (first | (with_reducible first | exact HB.out | apply below_alloc | apply pw_below_drewN | apply below_drew1 | refine below_set ?_ GE214.out) | exact HB.out))) : w.heap.size ≤ gb226)); have n4_ := Aside0.mk ((by rw [hg]; exact (below_size (by repeat (first | (with_reducible first | exact HB.out | apply below_alloc | apply pw_below_drewN | apply below_drew1 | refine below_set ?_ GE214.out) | exact HB.out))) : w.heap.size ≤ gb226)); have n5_ := Aside0.mk ((by rw [hg]; exact Nat.ne_of_lt (blk_lt (g := gb214) (o := .cells #[.int .i64 t211, .int .i64 t212] 24 (0, 0)) (by (with_reducible repeat (first | refine blk_drewN ?_ _ | refine blk_drew ?_ | refine blk_alloc ?_ _)); exact BK214.out)) : gb214 ≠ gb226)); have n6_ := Aside0.mk ((by rw [hg]; exact Nat.ne_of_gt (blk_lt (g := gb214) (o := .cells #[.int .i64 t211, .int .i64 t212] 24 (0, 0)) (by (with_reducible repeat (first | refine blk_drewN ?_ _ | refine blk_drew ?_ | refine blk_alloc ?_ _)); exact BK214.out)) : gb226 ≠ gb214)); clear BK214; clear HB; have BK214 := n0_; have HB := n1_; have BK226 := n2_; have GW226 := n3_; have GE226 := n4_; have NB214_226 := n5_; have NB226_214 := n6_; clear n0_ n1_ n2_ n3_ n4_ n5_ n6_; clear hb hbox hg; have hnb75 := NB226_214.out; have hnc75 := NB214_226.out; have hcz76_0 : w74.cell? ⟨gb226, 0, none⟩ = some (.int .i64 0) := (blk_cell BK226.out 0).trans rfl; have hcz76_1 : w74.cell? ⟨gb226, 1, none⟩ = some (.int .i64 0) := (blk_cell BK226.out 1).trans rfl; have hfz76_0 := blk_frozen BK226.out 0; have hfz76_1 := blk_frozen BK226.out 1) | (go_at_call 17; (with_reducible refine (words_Text.calls ((((((x11_3 ++ a0) ++ x11_3) ++ (⟨#[58]⟩ : ByteArray)) ++ x11_3) ++ a1) ++ x11_3) t223 t224 t227 _ A47.out).mono ?_); rintro e w77 ⟨rfl, hb⟩; have n0_ := Aside0.mk (blk_below (g := gb214) (o := .cells #[.int .i64 t211, .int .i64 t212] 24 (0, 0)) (by (with_reducible repeat (first | refine blk_drewN ?_ _ | refine blk_drew ?_ | refine blk_alloc ?_ _)); refine blk_far ?_ NB214_226.out _; (with_reducible repeat (first | refine blk_drewN ?_ _ | refine blk_drew ?_ | refine blk_alloc ?_ _)); refine blk_far ?_ NB214_226.out _; (with_reducible repeat (first | refine blk_drewN ?_ _ | refine blk_drew ?_ | refine blk_alloc ?_ _)); exact BK214.out) hb); have n1_ := Aside0.mk (blk_below (g := gb226) (o := .cells #[.int .i64 t223, .int .i64 t224] 24 (0, 0)) (by (with_reducible repeat (first | refine blk_drewN ?_ _ | refine blk_drew ?_ | refine blk_alloc ?_ _)); refine blk_put (cs := #[.int .i64 t223, .int .i64 0]) ?_ 1 _ rfl; (with_reducible repeat (first | refine blk_drewN ?_ _ | refine blk_drew ?_ | refine blk_alloc ?_ _)); refine blk_put (cs := #[.int .i64 0, .int .i64 0]) ?_ 0 _ rfl; (with_reducible repeat (first | refine blk_drewN ?_ _ | refine blk_drew ?_ | refine blk_alloc ?_ _)); exact BK226.out) hb); have n2_ := Aside0.mk (below_step (by repeat (first | (with_reducible first | exact HB.out | apply below_alloc | apply pw_below_drewN | apply below_drew1 | refine below_set ?_ GE214.out | refine below_set ?_ GE226.out) | exact HB.out)) hb); clear BK214; clear BK226; clear HB; have BK214 := n0_; have BK226 := n1_; have HB := n2_; clear n0_ n1_ n2_; (try clear hb); (try clear hb2); (try clear hk); (try clear hi)) | ((with_reducible refine gate_callee (f := 11) rfl ?_); refine goesL_ (some 132) rfl rfl Tryd.func11 (by kernel_rfl) rfl #[.string (a0 ++ x11_3), .int .i64 0, .int .i64 ((a0.size : Int) + (x11_3.size : Int))] rfl (by (try simp only [List.map_toArray, List.map_cons, List.map_nil]); first | done | rfl | (simp only [List.length_drop, List.length_take]; rfl) | (simp only [ByteArray.size_append, Int.natCast_add]; rfl)) ?_; (with_reducible refine (words_Key.calls (a0 ++ x11_3) 0 ((a0.size : Int) + (x11_3.size : Int)) t228 t229 t230 t231 _ A50.out).mono ?_); rintro e w78 ⟨rfl, hb⟩; refine ⟨_, rfl, ?_⟩; have n0_ := Aside0.mk (blk_below (g := gb214) (o := .cells #[.int .i64 t211, .int .i64 t212] 24 (0, 0)) (by (with_reducible repeat (first | refine blk_drewN ?_ _ | refine blk_drew ?_ | refine blk_alloc ?_ _)); exact BK214.out) hb); have n1_ := Aside0.mk (blk_below (g := gb226) (o := .cells #[.int .i64 t223, .int .i64 t224] 24 (0, 0)) (by (with_reducible repeat (first | refine blk_drewN ?_ _ | refine blk_drew ?_ | refine blk_alloc ?_ _)); exact BK226.out) hb); have n2_ := Aside0.mk (below_step (by repeat (first | (with_reducible first | exact HB.out | apply below_alloc | apply pw_below_drewN | apply below_drew1 | refine below_set ?_ GE214.out | refine below_set ?_ GE226.out) | exact HB.out)) hb); clear BK214; clear BK226; clear HB; have BK214 := n0_; have BK226 := n1_; have HB := n2_; clear n0_ n1_ n2_; (try clear hb); (try clear hb2); (try clear hk); (try clear hi)) | ((with_reducible refine gate_dst (N := 18) rfl ?_); (try (refine gate_guard (by rfl) ?_; dsimp only)); refine box_event ?hg (N := 18) ?hd (cs := #[.int .i64 0, .int .i64 0]) (t := 24) ?hr ?_; (case hd => rfl); (case hg => rfl); (case hr => first | (go_simp; done) | (go_simp; rfl)); intro gb232 hg w79 hbox hb; have n0_ := Aside0.mk (blk_below (g := gb214) (o := .cells #[.int .i64 t211, .int .i64 t212] 24 (0, 0)) (by (with_reducible repeat (first | refine blk_drewN ?_ _ | refine blk_drew ?_ | refine blk_alloc ?_ _)); exact BK214.out) hb); have n1_ := Aside0.mk (blk_below (g := gb226) (o := .cells #[.int .i64 t223, .int .i64 t224] 24 (0, 0)) (by (with_reducible repeat (first | refine blk_drewN ?_ _ | refine blk_drew ?_ | refine blk_alloc ?_ _)); exact BK226.out) hb); have n2_ := Aside0.mk (below_step (by repeat (first | (with_reducible first | exact HB.out | apply below_alloc | apply pw_below_drewN | apply below_drew1 | refine below_set ?_ GE214.out | refine below_set ?_ GE226.out) | exact HB.out)) hb); have n3_ := Aside0.mk (hbox); have n4_ := Aside0.mk ((by rw [hg]; exact (below_size (by repeat (first | (with_reducible first | exact HB.out | apply below_alloc | apply pw_below_drewN | apply below_drew1 | refine below_set ?_ GE214.out | refine below_set ?_ GE226.out) | exact HB.out))) : w.heap.size ≤ gb232)); have n5_ := Aside0.mk ((by rw [hg]; exact (below_size (by repeat (first | (with_reducible first | exact HB.out | apply below_alloc | apply pw_below_drewN | apply below_drew1 | refine below_set ?_ GE214.out | refine below_set ?_ GE226.out) | exact HB.out))) : w.heap.size ≤ gb232)); have n6_ := Aside0.mk ((by rw [hg]; exact Nat.ne_of_lt (blk_lt (g := gb214) (o := .cells #[.int .i64 t211, .int .i64 t212] 24 (0, 0)) (by (with_reducible repeat (first | refine blk_drewN ?_ _ | refine blk_drew ?_ | refine blk_alloc ?_ _)); exact BK214.out)) : gb214 ≠ gb232)); have n7_ := Aside0.mk ((by rw [hg]; exact Nat.ne_of_gt (blk_lt (g := gb214) (o := .cells #[.int .i64 t211, .int .i64 t212] 24 (0, 0)) (by (with_reducible repeat (first | refine blk_drewN ?_ _ | refine blk_drew ?_ | refine blk_alloc ?_ _)); exact BK214.out)) : gb232 ≠ gb214)); have n8_ := Aside0.mk ((by rw [hg]; exact Nat.ne_of_lt (blk_lt (g := gb226) (o := .cells #[.int .i64 t223, .int .i64 t224] 24 (0, 0)) (by (with_reducible repeat (first | refine blk_drewN ?_ _ | refine blk_drew ?_ | refine blk_alloc ?_ _)); exact BK226.out)) : gb226 ≠ gb232)); have n9_ := Aside0.mk ((by rw [hg]; exact Nat.ne_of_gt (blk_lt (g := gb226) (o := .cells #[.int .i64 t223, .int .i64 t224] 24 (0, 0)) (by (with_reducible repeat (first | refine blk_drewN ?_ _ | refine blk_drew ?_ | refine blk_alloc ?_ _)); exact BK226.out)) : gb232 ≠ gb226)); clear BK214; clear BK226; clear HB; have BK214 := n0_; have BK226 := n1_; have HB := n2_; have BK232 := n3_; have GW232 := n4_; have GE232 := n5_; have NB214_232 := n6_; have NB232_214 := n7_; have NB226_232 := n8_; have NB232_226 := n9_; clear n0_ n1_ n2_ n3_ n4_ n5_ n6_ n7_ n8_ n9_; clear hb hbox hg; have hnb80 := NB232_214.out; have hnc80 := NB214_232.out; have hnb81 := NB232_226.out; have hnc81 := NB226_232.out; have hcz82_0 : w79.cell? ⟨gb232, 0, none⟩ = some (.int .i64 0) := (blk_cell BK232.out 0).trans rfl; have hcz82_1 : w79.cell? ⟨gb232, 1, none⟩ = some (.int .i64 0) := (blk_cell BK232.out 1).trans rfl; have hfz82_0 := blk_frozen BK232.out 0; have hfz82_1 := blk_frozen BK232.out 1))
                                          go_ret
                                          exact ⟨by first | rfl | (simp [errW_none, errW_some] <;> rfl) | (simp [*, errW_none, errW_some] <;> rfl), by repeat (first | (with_reducible first | exact HB.out | apply below_alloc | apply pw_below_drewN | apply below_drew1 | refine below_set ?_ GE214.out | refine below_set ?_ GE226.out | refine below_set ?_ GE232.out) | exact HB.out)⟩
                                      · rw [if_neg c49] at H
                                        exact absurd H (by simp)
                                    · rw [if_neg c48] at H
                                      have c48b0 : (t227.toList == a1.toList) = false := beq_eq_false_iff_ne.mpr c48
                                      have c48b1 : (t227.toList != a1.toList) = true := bne_iff_ne.mpr c48
                                      obtain rfl := Option.some.inj H
                                      go_wp2_with (first | ((with_reducible refine gate_callee (f := 11) rfl ?_); refine goesL_ (some 105) rfl rfl Tryd.func11 (by kernel_rfl) rfl #[.string ((((((x11_3 ++ a0) ++ x11_3) ++ (⟨#[58]⟩ : ByteArray)) ++ x11_3) ++ a1) ++ x11_3), .int .i64 0, .int .i64 (((((((x11_3 ++ a0) ++ x11_3) ++ (⟨#[58]⟩ : ByteArray)) ++ x11_3) ++ a1) ++ x11_3).size : Int)] rfl (by (try simp only [List.map_toArray, List.map_cons, List.map_nil]); first | done | rfl | (simp only [List.length_drop, List.length_take]; rfl) | (simp only [ByteArray.size_append, Int.natCast_add]; rfl)) ?_; (with_reducible refine (words_Key.calls ((((((x11_3 ++ a0) ++ x11_3) ++ (⟨#[58]⟩ : ByteArray)) ++ x11_3) ++ a1) ++ x11_3) 0 (((((((x11_3 ++ a0) ++ x11_3) ++ (⟨#[58]⟩ : ByteArray)) ++ x11_3) ++ a1) ++ x11_3).size : Int) t222 t223 t224 true _ A44.out).mono ?_); rintro e w83 ⟨rfl, hb⟩; refine ⟨_, rfl, ?_⟩; have n0_ := Aside0.mk (blk_below (g := gb214) (o := .cells #[.int .i64 t211, .int .i64 t212] 24 (0, 0)) (by (with_reducible repeat (first | refine blk_drewN ?_ _ | refine blk_drew ?_ | refine blk_alloc ?_ _)); exact BK214.out) hb); have n1_ := Aside0.mk (below_step (by repeat (first | (with_reducible first | exact HB.out | apply below_alloc | apply pw_below_drewN | apply below_drew1 | refine below_set ?_ GE214.out) | exact HB.out)) hb); clear BK214; clear HB; have BK214 := n0_; have HB := n1_; clear n0_ n1_; (try clear hb); (try clear hb2); (try clear hk); (try clear hi)) | ((with_reducible refine gate_dst (N := 15) rfl ?_); (try (refine gate_guard (by rfl) ?_; dsimp only)); refine box_event ?hg (N := 15) ?hd (cs := #[.int .i64 0, .int .i64 0]) (t := 24) ?hr ?_; (case hd => rfl); (case hg => rfl); (case hr => first | (go_simp; done) | (go_simp; rfl)); intro gb226 hg w84 hbox hb; have n0_ := Aside0.mk (blk_below (g := gb214) (o := .cells #[.int .i64 t211, .int .i64 t212] 24 (0, 0)) (by (with_reducible repeat (first | refine blk_drewN ?_ _ | refine blk_drew ?_ | refine blk_alloc ?_ _)); exact BK214.out) hb); have n1_ := Aside0.mk (below_step (by repeat (first | (with_reducible first | exact HB.out | apply below_alloc | apply pw_below_drewN | apply below_drew1 | refine below_set ?_ GE214.out) | exact HB.out)) hb); have n2_ := Aside0.mk (hbox); have n3_ := Aside0.mk ((by rw [hg]; exact (below_size (by repeat (first | (with_reducible first | exact HB.out | apply below_alloc | apply pw_below_drewN | apply below_drew1 | refine below_set ?_ GE214.out) | exact HB.out))) : w.heap.size ≤ gb226)); have n4_ := Aside0.mk ((by rw [hg]; exact (below_size (by repeat (first | (with_reducible first | exact HB.out | apply below_alloc | apply pw_below_drewN | apply below_drew1 | refine below_set ?_ GE214.out) | exact HB.out))) : w.heap.size ≤ gb226)); have n5_ := Aside0.mk ((by rw [hg]; exact Nat.ne_of_lt (blk_lt (g := gb214) (o := .cells #[.int .i64 t211, .int .i64 t212] 24 (0, 0)) (by (with_reducible repeat (first | refine blk_drewN ?_ _ | refine blk_drew ?_ | refine blk_alloc ?_ _)); exact BK214.out)) : gb214 ≠ gb226)); have n6_ := Aside0.mk ((by rw [hg]; exact Nat.ne_of_gt (blk_lt (g := gb214) (o := .cells #[.int .i64 t211, .int .i64 t212] 24 (0, 0)) (by (with_reducible repeat (first | refine blk_drewN ?_ _ | refine blk_drew ?_ | refine blk_alloc ?_ _)); exact BK214.out)) : gb226 ≠ gb214)); clear BK214; clear HB; have BK214 := n0_; have HB := n1_; have BK226 := n2_; have GW226 := n3_; have GE226 := n4_; have NB214_226 := n5_; have NB226_214 := n6_; clear n0_ n1_ n2_ n3_ n4_ n5_ n6_; clear hb hbox hg; have hnb85 := NB226_214.out; have hnc85 := NB214_226.out; have hcz86_0 : w84.cell? ⟨gb226, 0, none⟩ = some (.int .i64 0) := (blk_cell BK226.out 0).trans rfl; have hcz86_1 : w84.cell? ⟨gb226, 1, none⟩ = some (.int .i64 0) := (blk_cell BK226.out 1).trans rfl; have hfz86_0 := blk_frozen BK226.out 0; have hfz86_1 := blk_frozen BK226.out 1) | (go_at_call 17; (with_reducible refine (words_Text.calls ((((((x11_3 ++ a0) ++ x11_3) ++ (⟨#[58]⟩ : ByteArray)) ++ x11_3) ++ a1) ++ x11_3) t223 t224 t227 _ A47.out).mono ?_); rintro e w87 ⟨rfl, hb⟩; have n0_ := Aside0.mk (blk_below (g := gb214) (o := .cells #[.int .i64 t211, .int .i64 t212] 24 (0, 0)) (by (with_reducible repeat (first | refine blk_drewN ?_ _ | refine blk_drew ?_ | refine blk_alloc ?_ _)); refine blk_far ?_ NB214_226.out _; (with_reducible repeat (first | refine blk_drewN ?_ _ | refine blk_drew ?_ | refine blk_alloc ?_ _)); refine blk_far ?_ NB214_226.out _; (with_reducible repeat (first | refine blk_drewN ?_ _ | refine blk_drew ?_ | refine blk_alloc ?_ _)); exact BK214.out) hb); have n1_ := Aside0.mk (blk_below (g := gb226) (o := .cells #[.int .i64 t223, .int .i64 t224] 24 (0, 0)) (by (with_reducible repeat (first | refine blk_drewN ?_ _ | refine blk_drew ?_ | refine blk_alloc ?_ _)); refine blk_put (cs := #[.int .i64 t223, .int .i64 0]) ?_ 1 _ rfl; (with_reducible repeat (first | refine blk_drewN ?_ _ | refine blk_drew ?_ | refine blk_alloc ?_ _)); refine blk_put (cs := #[.int .i64 0, .int .i64 0]) ?_ 0 _ rfl; (with_reducible repeat (first | refine blk_drewN ?_ _ | refine blk_drew ?_ | refine blk_alloc ?_ _)); exact BK226.out) hb); have n2_ := Aside0.mk (below_step (by repeat (first | (with_reducible first | exact HB.out | apply below_alloc | apply pw_below_drewN | apply below_drew1 | refine below_set ?_ GE214.out | refine below_set ?_ GE226.out) | exact HB.out)) hb); clear BK214; clear BK226; clear HB; have BK214 := n0_; have BK226 := n1_; have HB := n2_; clear n0_ n1_ n2_; (try clear hb); (try clear hb2); (try clear hk); (try clear hi)))
                                      go_ret
                                      exact ⟨by first | rfl | (simp [errW_none, errW_some] <;> rfl) | (simp [*, errW_none, errW_some] <;> rfl), by repeat (first | (with_reducible first | exact HB.out | apply below_alloc | apply pw_below_drewN | apply below_drew1 | refine below_set ?_ GE214.out | refine below_set ?_ GE226.out) | exact HB.out)⟩
                                  · replace c46 := Bool.eq_false_iff.mpr c46
                                    subst c46
                                    have H1 : (some false) = some r := by rw [if_neg (show ¬ (false = true) by decide)] at H; exact H
                                    clear H
                                    have H := H1
                                    clear H1
                                    obtain rfl := Option.some.inj H
                                    go_wp2_with (first | ((with_reducible refine gate_callee (f := 11) rfl ?_); refine goesL_ (some 105) rfl rfl Tryd.func11 (by kernel_rfl) rfl #[.string ((((((x11_3 ++ a0) ++ x11_3) ++ (⟨#[58]⟩ : ByteArray)) ++ x11_3) ++ a1) ++ x11_3), .int .i64 0, .int .i64 (((((((x11_3 ++ a0) ++ x11_3) ++ (⟨#[58]⟩ : ByteArray)) ++ x11_3) ++ a1) ++ x11_3).size : Int)] rfl (by (try simp only [List.map_toArray, List.map_cons, List.map_nil]); first | done | rfl | (simp only [List.length_drop, List.length_take]; rfl) | (simp only [ByteArray.size_append, Int.natCast_add]; rfl)) ?_; (with_reducible refine (words_Key.calls ((((((x11_3 ++ a0) ++ x11_3) ++ (⟨#[58]⟩ : ByteArray)) ++ x11_3) ++ a1) ++ x11_3) 0 (((((((x11_3 ++ a0) ++ x11_3) ++ (⟨#[58]⟩ : ByteArray)) ++ x11_3) ++ a1) ++ x11_3).size : Int) t222 t223 t224 false _ A44.out).mono ?_); rintro e w88 ⟨rfl, hb⟩; refine ⟨_, rfl, ?_⟩; have n0_ := Aside0.mk (blk_below (g := gb214) (o := .cells #[.int .i64 t211, .int .i64 t212] 24 (0, 0)) (by (with_reducible repeat (first | refine blk_drewN ?_ _ | refine blk_drew ?_ | refine blk_alloc ?_ _)); exact BK214.out) hb); have n1_ := Aside0.mk (below_step (by repeat (first | (with_reducible first | exact HB.out | apply below_alloc | apply pw_below_drewN | apply below_drew1 | refine below_set ?_ GE214.out) | exact HB.out)) hb); clear BK214; clear HB; have BK214 := n0_; have HB := n1_; clear n0_ n1_; (try clear hb); (try clear hb2); (try clear hk); (try clear hi)) | ((with_reducible refine gate_dst (N := 15) rfl ?_); (try (refine gate_guard (by rfl) ?_; dsimp only)); refine box_event ?hg (N := 15) ?hd (cs := #[.int .i64 0, .int .i64 0]) (t := 24) ?hr ?_; (case hd => rfl); (case hg => rfl); (case hr => first | (go_simp; done) | (go_simp; rfl)); intro gb226 hg w89 hbox hb; have n0_ := Aside0.mk (blk_below (g := gb214) (o := .cells #[.int .i64 t211, .int .i64 t212] 24 (0, 0)) (by (with_reducible repeat (first | refine blk_drewN ?_ _ | refine blk_drew ?_ | refine blk_alloc ?_ _)); exact BK214.out) hb); have n1_ := Aside0.mk (below_step (by repeat (first | (with_reducible first | exact HB.out | apply below_alloc | apply pw_below_drewN | apply below_drew1 | refine below_set ?_ GE214.out) | exact HB.out)) hb); have n2_ := Aside0.mk (hbox); have n3_ := Aside0.mk ((by rw [hg]; exact (below_size (by repeat (first | (with_reducible first | exact HB.out | apply below_alloc | apply pw_below_drewN | apply below_drew1 | refine below_set ?_ GE214.out) | exact HB.out))) : w.heap.size ≤ gb226)); have n4_ := Aside0.mk ((by rw [hg]; exact (below_size (by repeat (first | (with_reducible first | exact HB.out | apply below_alloc | apply pw_below_drewN | apply below_drew1 | refine below_set ?_ GE214.out) | exact HB.out))) : w.heap.size ≤ gb226)); have n5_ := Aside0.mk ((by rw [hg]; exact Nat.ne_of_lt (blk_lt (g := gb214) (o := .cells #[.int .i64 t211, .int .i64 t212] 24 (0, 0)) (by (with_reducible repeat (first | refine blk_drewN ?_ _ | refine blk_drew ?_ | refine blk_alloc ?_ _)); exact BK214.out)) : gb214 ≠ gb226)); have n6_ := Aside0.mk ((by rw [hg]; exact Nat.ne_of_gt (blk_lt (g := gb214) (o := .cells #[.int .i64 t211, .int .i64 t212] 24 (0, 0)) (by (with_reducible repeat (first | refine blk_drewN ?_ _ | refine blk_drew ?_ | refine blk_alloc ?_ _)); exact BK214.out)) : gb226 ≠ gb214)); clear BK214; clear HB; have BK214 := n0_; have HB := n1_; have BK226 := n2_; have GW226 := n3_; have GE226 := n4_; have NB214_226 := n5_; have NB226_214 := n6_; clear n0_ n1_ n2_ n3_ n4_ n5_ n6_; clear hb hbox hg; have hnb90 := NB226_214.out; have hnc90 := NB214_226.out; have hcz91_0 : w89.cell? ⟨gb226, 0, none⟩ = some (.int .i64 0) := (blk_cell BK226.out 0).trans rfl; have hcz91_1 : w89.cell? ⟨gb226, 1, none⟩ = some (.int .i64 0) := (blk_cell BK226.out 1).trans rfl; have hfz91_0 := blk_frozen BK226.out 0; have hfz91_1 := blk_frozen BK226.out 1))
                                    go_ret
                                    exact ⟨by first | rfl | (simp [errW_none, errW_some] <;> rfl) | (simp [*, errW_none, errW_some] <;> rfl), by repeat (first | (with_reducible first | exact HB.out | apply below_alloc | apply pw_below_drewN | apply below_drew1 | refine below_set ?_ GE214.out | refine below_set ?_ GE226.out) | exact HB.out)⟩
                                · rw [if_neg c45] at H
                                  have c45b0 : (t222.toList == a0.toList) = false := beq_eq_false_iff_ne.mpr c45
                                  have c45b1 : (t222.toList != a0.toList) = true := bne_iff_ne.mpr c45
                                  obtain rfl := Option.some.inj H
                                  go_wp2_with (first | ((with_reducible refine gate_callee (f := 11) rfl ?_); refine goesL_ (some 105) rfl rfl Tryd.func11 (by kernel_rfl) rfl #[.string ((((((x11_3 ++ a0) ++ x11_3) ++ (⟨#[58]⟩ : ByteArray)) ++ x11_3) ++ a1) ++ x11_3), .int .i64 0, .int .i64 (((((((x11_3 ++ a0) ++ x11_3) ++ (⟨#[58]⟩ : ByteArray)) ++ x11_3) ++ a1) ++ x11_3).size : Int)] rfl (by (try simp only [List.map_toArray, List.map_cons, List.map_nil]); first | done | rfl | (simp only [List.length_drop, List.length_take]; rfl) | (simp only [ByteArray.size_append, Int.natCast_add]; rfl)) ?_; (with_reducible refine (words_Key.calls ((((((x11_3 ++ a0) ++ x11_3) ++ (⟨#[58]⟩ : ByteArray)) ++ x11_3) ++ a1) ++ x11_3) 0 (((((((x11_3 ++ a0) ++ x11_3) ++ (⟨#[58]⟩ : ByteArray)) ++ x11_3) ++ a1) ++ x11_3).size : Int) t222 t223 t224 t225 _ A44.out).mono ?_); rintro e w92 ⟨rfl, hb⟩; refine ⟨_, rfl, ?_⟩; have n0_ := Aside0.mk (blk_below (g := gb214) (o := .cells #[.int .i64 t211, .int .i64 t212] 24 (0, 0)) (by (with_reducible repeat (first | refine blk_drewN ?_ _ | refine blk_drew ?_ | refine blk_alloc ?_ _)); exact BK214.out) hb); have n1_ := Aside0.mk (below_step (by repeat (first | (with_reducible first | exact HB.out | apply below_alloc | apply pw_below_drewN | apply below_drew1 | refine below_set ?_ GE214.out) | exact HB.out)) hb); clear BK214; clear HB; have BK214 := n0_; have HB := n1_; clear n0_ n1_; (try clear hb); (try clear hb2); (try clear hk); (try clear hi)) | ((with_reducible refine gate_dst (N := 15) rfl ?_); (try (refine gate_guard (by rfl) ?_; dsimp only)); refine box_event ?hg (N := 15) ?hd (cs := #[.int .i64 0, .int .i64 0]) (t := 24) ?hr ?_; (case hd => rfl); (case hg => rfl); (case hr => first | (go_simp; done) | (go_simp; rfl)); intro gb226 hg w93 hbox hb; have n0_ := Aside0.mk (blk_below (g := gb214) (o := .cells #[.int .i64 t211, .int .i64 t212] 24 (0, 0)) (by (with_reducible repeat (first | refine blk_drewN ?_ _ | refine blk_drew ?_ | refine blk_alloc ?_ _)); exact BK214.out) hb); have n1_ := Aside0.mk (below_step (by repeat (first | (with_reducible first | exact HB.out | apply below_alloc | apply pw_below_drewN | apply below_drew1 | refine below_set ?_ GE214.out) | exact HB.out)) hb); have n2_ := Aside0.mk (hbox); have n3_ := Aside0.mk ((by rw [hg]; exact (below_size (by repeat (first | (with_reducible first | exact HB.out | apply below_alloc | apply pw_below_drewN | apply below_drew1 | refine below_set ?_ GE214.out) | exact HB.out))) : w.heap.size ≤ gb226)); have n4_ := Aside0.mk ((by rw [hg]; exact (below_size (by repeat (first | (with_reducible first | exact HB.out | apply below_alloc | apply pw_below_drewN | apply below_drew1 | refine below_set ?_ GE214.out) | exact HB.out))) : w.heap.size ≤ gb226)); have n5_ := Aside0.mk ((by rw [hg]; exact Nat.ne_of_lt (blk_lt (g := gb214) (o := .cells #[.int .i64 t211, .int .i64 t212] 24 (0, 0)) (by (with_reducible repeat (first | refine blk_drewN ?_ _ | refine blk_drew ?_ | refine blk_alloc ?_ _)); exact BK214.out)) : gb214 ≠ gb226)); have n6_ := Aside0.mk ((by rw [hg]; exact Nat.ne_of_gt (blk_lt (g := gb214) (o := .cells #[.int .i64 t211, .int .i64 t212] 24 (0, 0)) (by (with_reducible repeat (first | refine blk_drewN ?_ _ | refine blk_drew ?_ | refine blk_alloc ?_ _)); exact BK214.out)) : gb226 ≠ gb214)); clear BK214; clear HB; have BK214 := n0_; have HB := n1_; have BK226 := n2_; have GW226 := n3_; have GE226 := n4_; have NB214_226 := n5_; have NB226_214 := n6_; clear n0_ n1_ n2_ n3_ n4_ n5_ n6_; clear hb hbox hg; have hnb94 := NB226_214.out; have hnc94 := NB214_226.out; have hcz95_0 : w93.cell? ⟨gb226, 0, none⟩ = some (.int .i64 0) := (blk_cell BK226.out 0).trans rfl; have hcz95_1 : w93.cell? ⟨gb226, 1, none⟩ = some (.int .i64 0) := (blk_cell BK226.out 1).trans rfl; have hfz95_0 := blk_frozen BK226.out 0; have hfz95_1 := blk_frozen BK226.out 1))
                                  go_ret
                                  exact ⟨by first | rfl | (simp [errW_none, errW_some] <;> rfl) | (simp [*, errW_none, errW_some] <;> rfl), by repeat (first | (with_reducible first | exact HB.out | apply below_alloc | apply pw_below_drewN | apply below_drew1 | refine below_set ?_ GE214.out | refine below_set ?_ GE226.out) | exact HB.out)⟩
                              · rw [if_neg c43] at H
                                exact absurd H (by simp)
                            · rw [if_neg c42] at H
                              exact absurd H (by simp)
                          · rw [if_neg c41] at H
                            exact absurd H (by simp)
                        · rw [if_neg c40] at H
                          exact absurd H (by simp)
                      · rw [if_neg c39] at H
                        exact absurd H (by simp)
                    · rw [if_neg c38] at H
                      exact absurd H (by simp)

/-- THE ONE PURE STATEMENT of entrepotlaw03_WordsPaired: yours. -/
def entrepotlaw03_WordsPaired.Pure : Prop := ∀ (a0 : ByteArray) (a1 : ByteArray) (a2 : Int), a0.size ≤ 140737488351232 → a1.size ≤ 140737488351232 → (Lit.int .u8 a2).wf = true → ∃ k, entrepotlaw03_WordsPaired.f k a0 a1 a2 = some true
theorem entrepotlaw03_WordsPaired.walk (P : entrepotlaw03_WordsPaired.Pure) (a0 : ByteArray) (a1 : ByteArray) (a2 : Int) (w : World) (w0 : a0.size ≤ 140737488351232) (w1 : a1.size ≤ 140737488351232) (w2 : (Lit.int .u8 a2).wf = true) :
    Calls Tryd.prog 7 #[.string a0, .string a1, .int .u8 a2] w fun e w' => e = .returned (.bool true) ∧ Below w.heap.size w w' := by
  obtain ⟨k, h⟩ := P a0 a1 a2 w0 w1 w2
  refine (entrepotlaw03_WordsPaired.calls k a0 a1 a2 true w h).mono ?_
  rintro e w' ⟨rfl, hd⟩
  exact ⟨rfl, hd⟩

end Go.Proofs.YtbbkchifbinioaaDoor.PAll
