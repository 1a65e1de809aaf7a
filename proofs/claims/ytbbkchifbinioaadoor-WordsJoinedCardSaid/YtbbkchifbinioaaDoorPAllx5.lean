-- Written by a program out of the translation, for several roots at once (set All). Not trusted: Lean checks it.
import Derived.Test.YtbbkchifbinioaaDoorPAllx0
import Derived.Test.YtbbkchifbinioaaDoorPAllx3
import Derived.Test.YtbbkchifbinioaaDoorPAllx4
import Derived.Test.YtbbkchifbinioaaDoorGivenD
namespace Go.Proofs.YtbbkchifbinioaaDoor.PAll
open Go.RowKit Go.Proofs.YtbbkchifbinioaaDoorW.PrintWords Go.Proofs.YtbbkchifbinioaaDoorW.PrintLast Go.Proofs.YtbbkchifbinioaaDoorW.PrintMore
attribute [local go_sem] max2_int min2_int max_two min_two max_three min_three max_four min_four   -- for this text's walks alone
set_option linter.unusedVariables false
set_option linter.unusedSimpArgs false

/-! ### entrepotref03_Key: function 12 -/
mutual
def entrepotref03_Key.j1 : Nat → ByteArray → Int → Int → Int → Option (ByteArray × Int × Int × Bool)
  | 0, _, _, _, _ => none
  | k + 1, x0, x1, x2, x9 => (entrepotref03_trimmed.f k x0 x1 x9).bind fun bt131 => ((entrepotref03_Text.f x0 bt131.1 bt131.2).bind fun t133 => (if t133.toList = ([] : List UInt8) then (entrepotref03_Key.j2 k x0 x2 x9 t133 true) else (entrepotref03_Key.j2 k x0 x2 x9 t133 (decide ((t133.size : Int) > 40)))))
def entrepotref03_Key.j2 : Nat → ByteArray → Int → Int → ByteArray → Bool → Option (ByteArray × Int × Int × Bool)
  | 0, _, _, _, _, _ => none
  | k + 1, x0, x2, x9, x10, x45 => if x45 = true then (some ((⟨#[]⟩ : ByteArray), 0, 0, false)) else (entrepotref03_Key.l1 k x0 x2 x9 x10 0)
def entrepotref03_Key.l1 : Nat → ByteArray → Int → Int → ByteArray → Int → Option (ByteArray × Int × Int × Bool)
  | 0, _, _, _, _, _ => none
  | k + 1, x0, x2, x9, x10, x11 => if x11 < (x10.size : Int) then (if 0 ≤ x11 then (if (bt x10 x11) < 65 then (if (bt x10 x11) < 48 then (if (bt x10 x11) = 95 then (entrepotref03_Key.l1 k x0 x2 x9 x10 (wrap64 (x11 + 1))) else (some ((⟨#[]⟩ : ByteArray), 0, 0, false))) else (if (bt x10 x11) > 57 then (if (bt x10 x11) = 95 then (entrepotref03_Key.l1 k x0 x2 x9 x10 (wrap64 (x11 + 1))) else (some ((⟨#[]⟩ : ByteArray), 0, 0, false))) else (entrepotref03_Key.l1 k x0 x2 x9 x10 (wrap64 (x11 + 1))))) else (if (bt x10 x11) > 90 then (if (bt x10 x11) < 48 then (if (bt x10 x11) = 95 then (entrepotref03_Key.l1 k x0 x2 x9 x10 (wrap64 (x11 + 1))) else (some ((⟨#[]⟩ : ByteArray), 0, 0, false))) else (if (bt x10 x11) > 57 then (if (bt x10 x11) = 95 then (entrepotref03_Key.l1 k x0 x2 x9 x10 (wrap64 (x11 + 1))) else (some ((⟨#[]⟩ : ByteArray), 0, 0, false))) else (entrepotref03_Key.l1 k x0 x2 x9 x10 (wrap64 (x11 + 1))))) else (entrepotref03_Key.l1 k x0 x2 x9 x10 (wrap64 (x11 + 1))))) else (none)) else (if x9 < x2 then ((entrepotref03_trimmed.f k x0 (wrap64 (x9 + 1)) x2).bind fun bt135 => (if bt135.1 < bt135.2 then (some (x10, bt135.1, bt135.2, true)) else (some (x10, x2, x2, true)))) else (some (x10, x2, x2, true)))
def entrepotref03_Key.l0 : Nat → ByteArray → Int → Int → Int → Option (ByteArray × Int × Int × Bool)
  | 0, _, _, _, _ => none
  | k + 1, x0, x1, x2, x9 => if x9 < x2 then (if 0 ≤ x9 then (if x9 < (x0.size : Int) then (if (bt x0 x9) = 58 then (entrepotref03_Key.j1 k x0 x1 x2 x9) else (entrepotref03_Key.l0 k x0 x1 x2 (wrap64 (x9 + 1)))) else (none)) else (none)) else (entrepotref03_Key.j1 k x0 x1 x2 x9)
end
def entrepotref03_Key.f (k : Nat) (a0 : ByteArray) (a1 : Int) (a2 : Int) : Option (ByteArray × Int × Int × Bool) := (entrepotref03_places.f a0 a1 a2).bind fun t130 => (if t130 = true then (entrepotref03_Key.l0 k a0 a1 a2 a1) else (some ((⟨#[]⟩ : ByteArray), 0, 0, false)))
theorem entrepotref03_Key.mono_l : ∀ k, (∀ y0 y1 y2 y3, LeO (entrepotref03_Key.j1 k y0 y1 y2 y3) (entrepotref03_Key.j1 (k + 1) y0 y1 y2 y3)) ∧ (∀ y0 y1 y2 y3 y4, LeO (entrepotref03_Key.j2 k y0 y1 y2 y3 y4) (entrepotref03_Key.j2 (k + 1) y0 y1 y2 y3 y4)) ∧ (∀ y0 y1 y2 y3 y4, LeO (entrepotref03_Key.l1 k y0 y1 y2 y3 y4) (entrepotref03_Key.l1 (k + 1) y0 y1 y2 y3 y4)) ∧ (∀ y0 y1 y2 y3, LeO (entrepotref03_Key.l0 k y0 y1 y2 y3) (entrepotref03_Key.l0 (k + 1) y0 y1 y2 y3))
  | 0 => ⟨fun _ _ _ _ r h => by simp [entrepotref03_Key.j1] at h, fun _ _ _ _ _ r h => by simp [entrepotref03_Key.j2] at h, fun _ _ _ _ _ r h => by simp [entrepotref03_Key.l1] at h, fun _ _ _ _ r h => by simp [entrepotref03_Key.l0] at h⟩
  | k + 1 => by
    obtain ⟨ih0, ih1, ih2, ih3⟩ := entrepotref03_Key.mono_l k
    refine ⟨?_, ?_, ?_, ?_⟩
    · intro y0 y1 y2 y3
      unfold entrepotref03_Key.j1
      repeat' first
      | (with_reducible exact ih0 _ _ _ _)
      | (with_reducible exact ih1 _ _ _ _ _)
      | (with_reducible exact ih2 _ _ _ _ _)
      | (with_reducible exact ih3 _ _ _ _)
      | (with_reducible exact entrepotref03_trimmed.mono _ _ _ _)
      | (with_reducible exact LeO.refl _)
      | (with_reducible exact LeO.none _)
      | (with_reducible refine LeO.ite ?_ ?_)
      | (with_reducible refine LeO.bind ?_ (fun _ => ?_))
      | exact ih0 _ _ _ _
      | exact ih1 _ _ _ _ _
      | exact ih2 _ _ _ _ _
      | exact ih3 _ _ _ _
      | exact entrepotref03_trimmed.mono _ _ _ _
      | exact LeO.none _
      | refine LeO.ite ?_ ?_
      | refine LeO.bind ?_ (fun _ => ?_)
    · intro y0 y1 y2 y3 y4
      unfold entrepotref03_Key.j2
      repeat' first
      | (with_reducible exact ih0 _ _ _ _)
      | (with_reducible exact ih1 _ _ _ _ _)
      | (with_reducible exact ih2 _ _ _ _ _)
      | (with_reducible exact ih3 _ _ _ _)
      | (with_reducible exact entrepotref03_trimmed.mono _ _ _ _)
      | (with_reducible exact LeO.refl _)
      | (with_reducible exact LeO.none _)
      | (with_reducible refine LeO.ite ?_ ?_)
      | (with_reducible refine LeO.bind ?_ (fun _ => ?_))
      | exact ih0 _ _ _ _
      | exact ih1 _ _ _ _ _
      | exact ih2 _ _ _ _ _
      | exact ih3 _ _ _ _
      | exact entrepotref03_trimmed.mono _ _ _ _
      | exact LeO.none _
      | refine LeO.ite ?_ ?_
      | refine LeO.bind ?_ (fun _ => ?_)
    · intro y0 y1 y2 y3 y4
      unfold entrepotref03_Key.l1
      repeat' first
      | (with_reducible exact ih0 _ _ _ _)
      | (with_reducible exact ih1 _ _ _ _ _)
      | (with_reducible exact ih2 _ _ _ _ _)
      | (with_reducible exact ih3 _ _ _ _)
      | (with_reducible exact entrepotref03_trimmed.mono _ _ _ _)
      | (with_reducible exact LeO.refl _)
      | (with_reducible exact LeO.none _)
      | (with_reducible refine LeO.ite ?_ ?_)
      | (with_reducible refine LeO.bind ?_ (fun _ => ?_))
      | exact ih0 _ _ _ _
      | exact ih1 _ _ _ _ _
      | exact ih2 _ _ _ _ _
      | exact ih3 _ _ _ _
      | exact entrepotref03_trimmed.mono _ _ _ _
      | exact LeO.none _
      | refine LeO.ite ?_ ?_
      | refine LeO.bind ?_ (fun _ => ?_)
    · intro y0 y1 y2 y3
      unfold entrepotref03_Key.l0
      repeat' first
      | (with_reducible exact ih0 _ _ _ _)
      | (with_reducible exact ih1 _ _ _ _ _)
      | (with_reducible exact ih2 _ _ _ _ _)
      | (with_reducible exact ih3 _ _ _ _)
      | (with_reducible exact entrepotref03_trimmed.mono _ _ _ _)
      | (with_reducible exact LeO.refl _)
      | (with_reducible exact LeO.none _)
      | (with_reducible refine LeO.ite ?_ ?_)
      | (with_reducible refine LeO.bind ?_ (fun _ => ?_))
      | exact ih0 _ _ _ _
      | exact ih1 _ _ _ _ _
      | exact ih2 _ _ _ _ _
      | exact ih3 _ _ _ _
      | exact entrepotref03_trimmed.mono _ _ _ _
      | exact LeO.none _
      | refine LeO.ite ?_ ?_
      | refine LeO.bind ?_ (fun _ => ?_)
theorem entrepotref03_Key.mono : ∀ a0 a1 a2 k, LeO (entrepotref03_Key.f k a0 a1 a2) (entrepotref03_Key.f (k + 1) a0 a1 a2) := by
  intro a0 a1 a2 k
  obtain ⟨ih0, ih1, ih2, ih3⟩ := entrepotref03_Key.mono_l k
  unfold entrepotref03_Key.f
  repeat' first
      | (with_reducible exact ih0 _ _ _ _)
      | (with_reducible exact ih1 _ _ _ _ _)
      | (with_reducible exact ih2 _ _ _ _ _)
      | (with_reducible exact ih3 _ _ _ _)
      | (with_reducible exact entrepotref03_trimmed.mono _ _ _ _)
      | (with_reducible exact LeO.refl _)
      | (with_reducible exact LeO.none _)
      | (with_reducible refine LeO.ite ?_ ?_)
      | (with_reducible refine LeO.bind ?_ (fun _ => ?_))
      | exact ih0 _ _ _ _
      | exact ih1 _ _ _ _ _
      | exact ih2 _ _ _ _ _
      | exact ih3 _ _ _ _
      | exact entrepotref03_trimmed.mono _ _ _ _
      | exact LeO.none _
      | refine LeO.ite ?_ ?_
      | refine LeO.bind ?_ (fun _ => ?_)
set_option maxHeartbeats 8000000 in
set_option maxRecDepth 100000 in
theorem entrepotref03_Key.calls (k : Nat) (a0 : ByteArray) (a1 : Int) (a2 : Int) (r1 : ByteArray) (r2 : Int) (r3 : Int) (r4 : Bool) (w : World) (h : entrepotref03_Key.f k a0 a1 a2 = some (r1, r2, r3, r4)) :
    Calls Tryd.prog 12 #[.string a0, .int .i64 a1, .int .i64 a2] w fun e w' => e = .returned (.tuple #[.string r1, .agg #[.int .i64 r2, .int .i64 r3], .bool r4]) ∧ Below w.heap.size w w' := by
  have hu27 := Tryd.underlying27
  have HB := Aside0.mk (Below.refl w.heap.size w)
  have H : ((entrepotref03_places.f a0 a1 a2).bind fun t130 => (if t130 = true then (entrepotref03_Key.l0 k a0 a1 a2 a1) else (some ((⟨#[]⟩ : ByteArray), 0, 0, false)))) = some (r1, r2, r3, r4) := h
  clear h
  replace H := Option.bind_eq_some_iff.mp H
  obtain ⟨t130, A40, H⟩ := H
  replace H : (if t130 = true then (entrepotref03_Key.l0 k a0 a1 a2 a1) else (some ((⟨#[]⟩ : ByteArray), 0, 0, false))) = some (r1, r2, r3, r4) := H
  have A4 := Aside0.mk A40
  clear A40
  by_cases c5 : t130 = true
  · subst c5
    have H1 : (entrepotref03_Key.l0 k a0 a1 a2 a1) = some (r1, r2, r3, r4) := by rw [if_pos rfl] at H; exact H
    clear H
    have H := H1
    clear H1
    have HC6 := Aside0.mk H
    clear H
    go_enter Tryd.func12, Tryd.ntmps12
    go_upto_block 0 with (first | ((with_reducible refine gate_dst (N := 7) rfl ?_); (try (refine gate_guard (by rfl) ?_; dsimp only)); refine box_event ?hg (N := 7) ?hd (cs := #[.int .i64 0, .int .i64 0]) (t := 27) ?hr ?_; (case hd => rfl); (case hg => rfl); (case hr => first | (go_simp; done) | (go_simp; rfl)); intro gb129 hg w7 hbox hb; have n0_ := Aside0.mk (below_step (by repeat (first | (with_reducible first | exact HB.out | apply below_alloc | apply pw_below_drewN | apply below_drew1) | exact HB.out)) hb); have n1_ := Aside0.mk (hbox); have n2_ := Aside0.mk ((by rw [hg]; exact (below_size (by repeat (first | (with_reducible first | exact HB.out | apply below_alloc | apply pw_below_drewN | apply below_drew1) | exact HB.out))) : w.heap.size ≤ gb129)); have n3_ := Aside0.mk ((by rw [hg]; exact (below_size (by repeat (first | (with_reducible first | exact HB.out | apply below_alloc | apply pw_below_drewN | apply below_drew1) | exact HB.out))) : w.heap.size ≤ gb129)); clear HB; have HB := n0_; have BK129 := n1_; have GW129 := n2_; have GE129 := n3_; clear n0_ n1_ n2_ n3_; clear hb hbox hg) | ((with_reducible refine gate_callee (f := 32) rfl ?_); refine goesL_ (some 17) rfl rfl Tryd.func32 (by kernel_rfl) rfl #[.string a0, .int .i64 a1, .int .i64 a2] rfl (by (try simp only [List.map_toArray, List.map_cons, List.map_nil]); first | done | rfl | (simp only [List.length_drop, List.length_take]; rfl)) ?_; (with_reducible refine (entrepotref03_places.calls a0 a1 a2 true _ A4.out).mono ?_); rintro e w' ⟨rfl, ⟨nd, rfl⟩⟩; refine ⟨_, rfl, ?_⟩))
    (try simp only [Act.put, List.setIfInBounds_toArray, List.set_cons_zero, List.set_cons_succ])
    go_cut [9] (fun v9 wc => ∃ (kq : Nat) (x9_5 : Int), v9 = .int .i64 x9_5 ∧ Aside0 (entrepotref03_Key.j1 kq a0 a1 a2 x9_5 = some (r1, r2, r3, r4)) ∧ Aside0 (kq ≤ k) ∧ Aside0 (wc.heap[gb129]? = some (.cells #[.int .i64 0, .int .i64 0] 27 (0, 0))) ∧ Aside0 (Below w.heap.size w wc))
    case first =>
      have H := HC6.out
      clear HC6
      have H' := Aside0.mk H
      clear H
      go_wp2
      go_loopg [9] k (fun kq v9 w' => ∃ (x9_1 : Int), v9 = .int .i64 x9_1 ∧ Aside0 (entrepotref03_Key.l0 kq a0 a1 a2 x9_1 = some (r1, r2, r3, r4)) ∧ Aside0 (kq ≤ k) ∧ Aside0 (w'.heap[gb129]? = some (.cells #[.int .i64 0, .int .i64 0] 27 (0, 0))) ∧ Aside0 (Below w.heap.size w w'))
      case atStart => exact ⟨(a1), (by first | rfl | (simp; done) | (simp [*]; done)), H', ⟨Nat.le_refl _⟩, ⟨by (with_reducible repeat (first | refine blk_drewN ?_ _ | refine blk_drew ?_ | refine blk_alloc ?_ _)); exact BK129.out⟩, ⟨by repeat (first | (with_reducible first | exact HB.out | apply below_alloc | apply pw_below_drewN | apply below_drew1 | refine below_set ?_ GE129.out) | exact HB.out)⟩⟩
      case round =>
        clear H'
        try clear c1
        try clear p2
        try clear c3
        try clear c5
        obtain ⟨x9_1, rfl, HA, HK1, BK129, HB⟩ := hrel
        cases gk with
        | zero => exact absurd HA.out (by simp [entrepotref03_Key.l0])
        | succ k1 =>
          have H := HA.out
          clear HA
          simp only [entrepotref03_Key.l0] at H
          by_cases c8 : x9_1 < a2
          · rw [if_pos c8] at H
            have c8b0 : decide (x9_1 < a2) = true := decide_eq_true c8
            clear c8
            (first | rw [c8b0] | (simp only [i64_w, i32_w]; rw [c8b0]) | skip)
            by_cases c9 : 0 ≤ x9_1
            · rw [if_pos c9] at H
              have c9b0 : decide (0 ≤ x9_1) = true := decide_eq_true c9
              clear c9
              by_cases c10 : x9_1 < (a0.size : Int)
              · rw [if_pos c10] at H
                have c10b0 : decide (x9_1 < (a0.size : Int)) = true := decide_eq_true c10
                clear c10
                by_cases c12 : (bt a0 x9_1) = 58
                · rw [if_pos c12] at H
                  have c12b0 : ((bt a0 x9_1) == 58) = true := beq_iff_eq.mpr c12
                  have c12b1 : ((bt a0 x9_1) != 58) = false := bne_eq_false_iff_eq.mpr c12
                  clear c12
                  have H' := Aside0.mk H
                  clear H
                  have p11 : 0 ≤ (x9_1 : Int) := of_decide_eq_true (by first | (with_reducible assumption) | assumption)
                  have q11 : x9_1 < (a0.size : Int) := of_decide_eq_true (by first | (with_reducible assumption) | assumption)
                  have hx11 := bt_at a0 x9_1
                  replace p11 := eq_true p11
                  replace q11 := eq_true q11
                  go_wp2
                  go_meet
                  case rel => exact ⟨_, (x9_1), (by first | rfl | (simp; done) | (simp [*]; done)), H', ⟨by have := HK1.out; first | omega | exact Nat.le_refl _⟩, ⟨by (with_reducible repeat (first | refine blk_drewN ?_ _ | refine blk_drew ?_ | refine blk_alloc ?_ _)); exact BK129.out⟩, ⟨by repeat (first | (with_reducible first | exact HB.out | apply below_alloc | apply pw_below_drewN | apply below_drew1 | refine below_set ?_ GE129.out) | exact HB.out)⟩⟩
                · rw [if_neg c12] at H
                  have c12b0 : ((bt a0 x9_1) == 58) = false := beq_eq_false_iff_ne.mpr c12
                  have c12b1 : ((bt a0 x9_1) != 58) = true := bne_iff_ne.mpr c12
                  have H' := Aside0.mk H
                  clear H
                  have p11 : 0 ≤ (x9_1 : Int) := of_decide_eq_true (by first | (with_reducible assumption) | assumption)
                  have q11 : x9_1 < (a0.size : Int) := of_decide_eq_true (by first | (with_reducible assumption) | assumption)
                  have hx11 := bt_at a0 x9_1
                  replace p11 := eq_true p11
                  replace q11 := eq_true q11
                  go_wp2
                  go_roundg k1
                  case measure => have := HK1.out; omega
                  case rel => exact ⟨(wrap64 (x9_1 + 1)), (by first | rfl | (simp; done) | (simp [*]; done)), H', ⟨by have := HK1.out; omega⟩, ⟨by (with_reducible repeat (first | refine blk_drewN ?_ _ | refine blk_drew ?_ | refine blk_alloc ?_ _)); exact BK129.out⟩, ⟨by repeat (first | (with_reducible first | exact HB.out | apply below_alloc | apply pw_below_drewN | apply below_drew1 | refine below_set ?_ GE129.out) | exact HB.out)⟩⟩
              · rw [if_neg c10] at H
                exact absurd H (by simp)
            · rw [if_neg c9] at H
              exact absurd H (by simp)
          · rw [if_neg c8] at H
            have c8b0 : decide (x9_1 < a2) = false := decide_eq_false c8
            clear c8
            (first | rw [c8b0] | (simp only [i64_w, i32_w]; rw [c8b0]) | skip)
            have H' := Aside0.mk H
            clear H
            go_wp2
            go_meet
            case rel => exact ⟨_, (x9_1), (by first | rfl | (simp; done) | (simp [*]; done)), H', ⟨by have := HK1.out; first | omega | exact Nat.le_refl _⟩, ⟨by (with_reducible repeat (first | refine blk_drewN ?_ _ | refine blk_drew ?_ | refine blk_alloc ?_ _)); exact BK129.out⟩, ⟨by repeat (first | (with_reducible first | exact HB.out | apply below_alloc | apply pw_below_drewN | apply below_drew1 | refine below_set ?_ GE129.out) | exact HB.out)⟩⟩
    case rest =>
      clear HC6
      try clear c1
      try clear p1
      try clear q1
      try clear hx1
      try clear p2
      try clear c3
      try clear c5
      try clear p6
      try clear c8
      try clear c8b0
      try clear c9
      try clear c9b0
      try clear c10
      try clear c10b0
      try clear p11
      try clear q11
      try clear hx11
      try clear c12
      try clear c12b0
      try clear c12b1
      try clear p11
      try clear p2
      try clear q11
      obtain ⟨kq, x9_5, rfl, HA, HJ5, BK129, HB⟩ := hcut
      cases kq with
      | zero => exact absurd HA.out (by simp [entrepotref03_Key.j1])
      | succ kj5 =>
        have H := HA.out
        clear HA
        simp only [entrepotref03_Key.j1] at H
        replace H := Option.bind_eq_some_iff.mp H
        obtain ⟨⟨t131, t132⟩, A130, H⟩ := H
        replace H : ((entrepotref03_Text.f a0 t131 t132).bind fun t133 => (if t133.toList = ([] : List UInt8) then (entrepotref03_Key.j2 kj5 a0 a2 x9_5 t133 true) else (entrepotref03_Key.j2 kj5 a0 a2 x9_5 t133 (decide ((t133.size : Int) > 40))))) = some (r1, r2, r3, r4) := H
        have A13 := Aside0.mk A130
        clear A130
        replace H := Option.bind_eq_some_iff.mp H
        obtain ⟨t133, A140, H⟩ := H
        replace H : (if t133.toList = ([] : List UInt8) then (entrepotref03_Key.j2 kj5 a0 a2 x9_5 t133 true) else (entrepotref03_Key.j2 kj5 a0 a2 x9_5 t133 (decide ((t133.size : Int) > 40)))) = some (r1, r2, r3, r4) := H
        have A14 := Aside0.mk A140
        clear A140
        have HC15 := Aside0.mk H
        clear H
        go_upto_region 7 with (first | ((with_reducible refine gate_callee (f := 33) rfl ?_); refine goesL_ (some 37) rfl rfl Tryd.func33 (by kernel_rfl) rfl #[.string a0, .agg #[.int .i64 a1, .int .i64 x9_5]] rfl (by (try simp only [List.map_toArray, List.map_cons, List.map_nil]); first | done | rfl | (simp only [List.length_drop, List.length_take]; rfl)) ?_; (with_reducible refine (entrepotref03_trimmed.calls kj5 a0 a1 x9_5 t131 t132 _ A13.out).mono ?_); rintro e w16 ⟨rfl, hb⟩; refine ⟨_, rfl, ?_⟩; have n0_ := Aside0.mk (blk_below (g := gb129) (o := .cells #[.int .i64 0, .int .i64 0] 27 (0, 0)) (by (with_reducible repeat (first | refine blk_drewN ?_ _ | refine blk_drew ?_ | refine blk_alloc ?_ _)); exact BK129.out) hb); have n1_ := Aside0.mk (below_step (by repeat (first | (with_reducible first | exact HB.out | apply below_alloc | apply pw_below_drewN | apply below_drew1 | refine below_set ?_ GE129.out) | exact HB.out)) hb); clear BK129; clear HB; have BK129 := n0_; have HB := n1_; clear n0_ n1_; (try clear hb); (try clear hb2); (try clear hk); (try clear hi)) | ((with_reducible refine gate_callee (f := 18) rfl ?_); refine goesL_ (some 38) rfl rfl Tryd.func18 (by kernel_rfl) rfl #[.string a0, .agg #[.int .i64 t131, .int .i64 t132]] rfl (by (try simp only [List.map_toArray, List.map_cons, List.map_nil]); first | done | rfl | (simp only [List.length_drop, List.length_take]; rfl)) ?_; (with_reducible refine (entrepotref03_Text.calls a0 t131 t132 t133 _ A14.out).mono ?_); rintro e w17 ⟨rfl, hb⟩; refine ⟨_, rfl, ?_⟩; have n0_ := Aside0.mk (blk_below (g := gb129) (o := .cells #[.int .i64 0, .int .i64 0] 27 (0, 0)) (by (with_reducible repeat (first | refine blk_drewN ?_ _ | refine blk_drew ?_ | refine blk_alloc ?_ _)); exact BK129.out) hb); have n1_ := Aside0.mk (below_step (by repeat (first | (with_reducible first | exact HB.out | apply below_alloc | apply pw_below_drewN | apply below_drew1 | refine below_set ?_ GE129.out) | exact HB.out)) hb); clear BK129; clear HB; have BK129 := n0_; have HB := n1_; clear n0_ n1_; (try clear hb); (try clear hb2); (try clear hk); (try clear hi)))
        (try simp only [Act.put, List.setIfInBounds_toArray, List.set_cons_zero, List.set_cons_succ])
        go_cut [45] (fun v45 wc => ∃ (kq : Nat) (x45_14 : Bool), v45 = .bool x45_14 ∧ Aside0 (entrepotref03_Key.j2 kq a0 a2 x9_5 t133 x45_14 = some (r1, r2, r3, r4)) ∧ Aside0 (kq ≤ kj5) ∧ Aside0 (wc.heap[gb129]? = some (.cells #[.int .i64 0, .int .i64 0] 27 (0, 0))) ∧ Aside0 (Below w.heap.size w wc))
        case first =>
          have H := HC15.out
          clear HC15
          by_cases c18 : t133.toList = ([] : List UInt8)
          · rw [if_pos c18] at H
            have c18b0 : (t133.toList == ([] : List UInt8)) = true := beq_iff_eq.mpr c18
            have c18b1 : (t133.toList != ([] : List UInt8)) = false := bne_eq_false_iff_eq.mpr c18
            clear c18
            (first | rw [c18b0] | (simp only [i64_w, i32_w]; rw [c18b0]) | skip)
            have H' := Aside0.mk H
            clear H
            go_wp2
            go_meet
            case rel => exact ⟨_, (true), (by first | rfl | (simp; done) | (simp [*]; done)), H', ⟨by have := HJ5.out; first | omega | exact Nat.le_refl _⟩, ⟨by (with_reducible repeat (first | refine blk_drewN ?_ _ | refine blk_drew ?_ | refine blk_alloc ?_ _)); exact BK129.out⟩, ⟨by repeat (first | (with_reducible first | exact HB.out | apply below_alloc | apply pw_below_drewN | apply below_drew1 | refine below_set ?_ GE129.out) | exact HB.out)⟩⟩
          · rw [if_neg c18] at H
            have c18b0 : (t133.toList == ([] : List UInt8)) = false := beq_eq_false_iff_ne.mpr c18
            have c18b1 : (t133.toList != ([] : List UInt8)) = true := bne_iff_ne.mpr c18
            (first | rw [c18b0] | (simp only [i64_w, i32_w]; rw [c18b0]) | skip)
            have H' := Aside0.mk H
            clear H
            go_wp2
            go_meet
            case rel => exact ⟨_, (decide ((t133.size : Int) > 40)), (by first | rfl | (simp; done) | (simp [*]; done)), H', ⟨by have := HJ5.out; first | omega | exact Nat.le_refl _⟩, ⟨by (with_reducible repeat (first | refine blk_drewN ?_ _ | refine blk_drew ?_ | refine blk_alloc ?_ _)); exact BK129.out⟩, ⟨by repeat (first | (with_reducible first | exact HB.out | apply below_alloc | apply pw_below_drewN | apply below_drew1 | refine below_set ?_ GE129.out) | exact HB.out)⟩⟩
        case rest =>
          clear HC15
          try clear c1
          try clear p1
          try clear q1
          try clear hx1
          try clear p2
          try clear c3
          try clear c5
          try clear p6
          try clear c8
          try clear c8b0
          try clear c9
          try clear c9b0
          try clear c10
          try clear c10b0
          try clear p11
          try clear q11
          try clear hx11
          try clear c12
          try clear c12b0
          try clear c12b1
          try clear c18
          try clear c18b0
          try clear c18b1
          try clear p1
          try clear p11
          try clear p2
          try clear p6
          try clear q1
          try clear q11
          obtain ⟨kq, x45_14, rfl, HA, HJ14, BK129, HB⟩ := hcut
          cases kq with
          | zero => exact absurd HA.out (by simp [entrepotref03_Key.j2])
          | succ kj14 =>
            have H := HA.out
            clear HA
            simp only [entrepotref03_Key.j2] at H
            by_cases c19 : x45_14 = true
            · subst c19
              have H1 : (some ((⟨#[]⟩ : ByteArray), 0, 0, false)) = some (r1, r2, r3, r4) := by rw [if_pos rfl] at H; exact H
              clear H
              have H := H1
              clear H1
              simp only [Option.some.injEq, Prod.mk.injEq] at H
              obtain ⟨rfl, rfl, rfl, rfl⟩ := H
              have hcz20_0 : wc.cell? ⟨gb129, 0, none⟩ = some (.int .i64 0) := (blk_cell BK129.out 0).trans rfl
              have hcz20_1 : wc.cell? ⟨gb129, 1, none⟩ = some (.int .i64 0) := (blk_cell BK129.out 1).trans rfl
              have hfz20_0 := blk_frozen BK129.out 0
              have hfz20_1 := blk_frozen BK129.out 1
              go_wp2
              refine bodyPost_ret (results_list (rs := [.tmp 6, .cell 7 27, .tmp 8]) rfl (by simp) (.tmp (.cell gb129 27 #[.int .i64 0, .int .i64 0] (0, 0) _ rfl (by (with_reducible repeat (first | refine blk_drewN ?_ _ | refine blk_drew ?_ | refine blk_alloc ?_ _)); refine blk_put (cs := #[.int .i64 0, .int .i64 0]) ?_ 1 _ rfl; (with_reducible repeat (first | refine blk_drewN ?_ _ | refine blk_drew ?_ | refine blk_alloc ?_ _)); refine blk_put (cs := #[.int .i64 0, .int .i64 0]) ?_ 0 _ rfl; (with_reducible repeat (first | refine blk_drewN ?_ _ | refine blk_drew ?_ | refine blk_alloc ?_ _)); exact BK129.out) Tryd.underlying27 rfl (by kernel_rfl) (.tmp .nil)))) rfl ?_
              exact ⟨by first | rfl | (simp [errW_none, errW_some] <;> rfl) | (simp [*, errW_none, errW_some] <;> rfl), by repeat (first | (with_reducible first | exact HB.out | apply below_alloc | apply pw_below_drewN | apply below_drew1 | refine below_set ?_ GE129.out) | exact HB.out)⟩
            · replace c19 := Bool.eq_false_iff.mpr c19
              subst c19
              have H1 : (entrepotref03_Key.l1 kj14 a0 a2 x9_5 t133 0) = some (r1, r2, r3, r4) := by rw [if_neg (show ¬ (false = true) by decide)] at H; exact H
              clear H
              have H := H1
              clear H1
              have H' := Aside0.mk H
              clear H
              go_wp2
              go_loopg [11] kj14 (fun kq v11 w' => ∃ (x11_3 : Int) (x130000_3 : Int) (x130001_3 : Int), v11 = .int .i64 x11_3 ∧ Aside0 (entrepotref03_Key.l1 kq a0 a2 x9_5 t133 x11_3 = some (r1, r2, r3, r4)) ∧ Aside0 (kq ≤ kj14) ∧ Aside0 (w'.heap[gb129]? = some (.cells #[.int .i64 x130000_3, .int .i64 x130001_3] 27 (0, 0))) ∧ Aside0 (Below w.heap.size w w'))
              case atStart => exact ⟨(0), (0), (0), (by first | rfl | (simp; done) | (simp [*]; done)), H', ⟨Nat.le_refl _⟩, ⟨by (with_reducible repeat (first | refine blk_drewN ?_ _ | refine blk_drew ?_ | refine blk_alloc ?_ _)); exact BK129.out⟩, ⟨by repeat (first | (with_reducible first | exact HB.out | apply below_alloc | apply pw_below_drewN | apply below_drew1 | refine below_set ?_ GE129.out) | exact HB.out)⟩⟩
              case round =>
                clear H'
                try clear c1
                try clear p1
                try clear q1
                try clear hx1
                try clear p2
                try clear c3
                try clear c5
                try clear p6
                try clear c8
                try clear c8b0
                try clear c9
                try clear c9b0
                try clear c10
                try clear c10b0
                try clear p11
                try clear q11
                try clear hx11
                try clear c12
                try clear c12b0
                try clear c12b1
                try clear c18
                try clear c18b0
                try clear c18b1
                try clear c19
                try clear hcz20_0
                try clear hcz20_1
                try clear hfz20_0
                try clear hfz20_1
                try clear p1
                try clear p11
                try clear p2
                try clear p6
                try clear q1
                try clear q11
                obtain ⟨x11_3, x130000_3, x130001_3, rfl, HA, HK3, BK129, HB⟩ := hrel
                cases gk with
                | zero => exact absurd HA.out (by simp [entrepotref03_Key.l1])
                | succ k3 =>
                  have H := HA.out
                  clear HA
                  simp only [entrepotref03_Key.l1] at H
                  by_cases c21 : x11_3 < (t133.size : Int)
                  · rw [if_pos c21] at H
                    have c21b0 : decide (x11_3 < (t133.size : Int)) = true := decide_eq_true c21
                    clear c21
                    by_cases c22 : 0 ≤ x11_3
                    · rw [if_pos c22] at H
                      have c22b0 : decide (0 ≤ x11_3) = true := decide_eq_true c22
                      clear c22
                      by_cases c24 : (bt t133 x11_3) < 65
                      · rw [if_pos c24] at H
                        have c24b0 : decide ((bt t133 x11_3) < 65) = true := decide_eq_true c24
                        clear c24
                        by_cases c26 : (bt t133 x11_3) < 48
                        · rw [if_pos c26] at H
                          have c26b0 : decide ((bt t133 x11_3) < 48) = true := decide_eq_true c26
                          clear c26
                          by_cases c28 : (bt t133 x11_3) = 95
                          · rw [if_pos c28] at H
                            have c28b0 : ((bt t133 x11_3) == 95) = true := beq_iff_eq.mpr c28
                            have c28b1 : ((bt t133 x11_3) != 95) = false := bne_eq_false_iff_eq.mpr c28
                            clear c28
                            have H' := Aside0.mk H
                            clear H
                            have p23 : 0 ≤ (x11_3 : Int) := of_decide_eq_true (by first | (with_reducible assumption) | assumption)
                            have q23 : x11_3 < (t133.size : Int) := of_decide_eq_true (by first | (with_reducible assumption) | assumption)
                            have hx23 := bt_at t133 x11_3
                            replace p23 := eq_true p23
                            replace q23 := eq_true q23
                            have p25 : 0 ≤ (x11_3 : Int) := of_decide_eq_true (by first | (with_reducible assumption) | assumption)
                            have q25 : x11_3 < (t133.size : Int) := of_decide_eq_true (by first | (with_reducible assumption) | assumption)
                            have hx25 := bt_at t133 x11_3
                            replace p25 := eq_true p25
                            replace q25 := eq_true q25
                            have p27 : 0 ≤ (x11_3 : Int) := of_decide_eq_true (by first | (with_reducible assumption) | assumption)
                            have q27 : x11_3 < (t133.size : Int) := of_decide_eq_true (by first | (with_reducible assumption) | assumption)
                            have hx27 := bt_at t133 x11_3
                            replace p27 := eq_true p27
                            replace q27 := eq_true q27
                            go_wp2
                            go_roundg k3
                            case measure => have := HJ5.out; have := HJ14.out; have := HK3.out; omega
                            case rel => exact ⟨(wrap64 (x11_3 + 1)), (x130000_3), (x130001_3), (by first | rfl | (simp; done) | (simp [*]; done)), H', ⟨by have := HJ5.out; have := HJ14.out; have := HK3.out; omega⟩, ⟨by (with_reducible repeat (first | refine blk_drewN ?_ _ | refine blk_drew ?_ | refine blk_alloc ?_ _)); exact BK129.out⟩, ⟨by repeat (first | (with_reducible first | exact HB.out | apply below_alloc | apply pw_below_drewN | apply below_drew1 | refine below_set ?_ GE129.out) | exact HB.out)⟩⟩
                          · rw [if_neg c28] at H
                            have c28b0 : ((bt t133 x11_3) == 95) = false := beq_eq_false_iff_ne.mpr c28
                            have c28b1 : ((bt t133 x11_3) != 95) = true := bne_iff_ne.mpr c28
                            simp only [Option.some.injEq, Prod.mk.injEq] at H
                            obtain ⟨rfl, rfl, rfl, rfl⟩ := H
                            have p23 : 0 ≤ (x11_3 : Int) := of_decide_eq_true (by first | (with_reducible assumption) | assumption)
                            have q23 : x11_3 < (t133.size : Int) := of_decide_eq_true (by first | (with_reducible assumption) | assumption)
                            have hx23 := bt_at t133 x11_3
                            replace p23 := eq_true p23
                            replace q23 := eq_true q23
                            have p25 : 0 ≤ (x11_3 : Int) := of_decide_eq_true (by first | (with_reducible assumption) | assumption)
                            have q25 : x11_3 < (t133.size : Int) := of_decide_eq_true (by first | (with_reducible assumption) | assumption)
                            have hx25 := bt_at t133 x11_3
                            replace p25 := eq_true p25
                            replace q25 := eq_true q25
                            have p27 : 0 ≤ (x11_3 : Int) := of_decide_eq_true (by first | (with_reducible assumption) | assumption)
                            have q27 : x11_3 < (t133.size : Int) := of_decide_eq_true (by first | (with_reducible assumption) | assumption)
                            have hx27 := bt_at t133 x11_3
                            replace p27 := eq_true p27
                            replace q27 := eq_true q27
                            have hcz29_0 : wr.cell? ⟨gb129, 0, none⟩ = some (.int .i64 x130000_3) := (blk_cell BK129.out 0).trans rfl
                            have hcz29_1 : wr.cell? ⟨gb129, 1, none⟩ = some (.int .i64 x130001_3) := (blk_cell BK129.out 1).trans rfl
                            have hfz29_0 := blk_frozen BK129.out 0
                            have hfz29_1 := blk_frozen BK129.out 1
                            go_wp2
                            refine bodyPost_ret (results_list (rs := [.tmp 6, .cell 7 27, .tmp 8]) rfl (by simp) (.tmp (.cell gb129 27 #[.int .i64 0, .int .i64 0] (0, 0) _ rfl (by (with_reducible repeat (first | refine blk_drewN ?_ _ | refine blk_drew ?_ | refine blk_alloc ?_ _)); refine blk_put (cs := #[.int .i64 0, .int .i64 x130001_3]) ?_ 1 _ rfl; (with_reducible repeat (first | refine blk_drewN ?_ _ | refine blk_drew ?_ | refine blk_alloc ?_ _)); refine blk_put (cs := #[.int .i64 x130000_3, .int .i64 x130001_3]) ?_ 0 _ rfl; (with_reducible repeat (first | refine blk_drewN ?_ _ | refine blk_drew ?_ | refine blk_alloc ?_ _)); exact BK129.out) Tryd.underlying27 rfl (by kernel_rfl) (.tmp .nil)))) rfl ?_
                            exact ⟨by first | rfl | (simp [errW_none, errW_some] <;> rfl) | (simp [*, errW_none, errW_some] <;> rfl), by repeat (first | (with_reducible first | exact HB.out | apply below_alloc | apply pw_below_drewN | apply below_drew1 | refine below_set ?_ GE129.out) | exact HB.out)⟩
                        · rw [if_neg c26] at H
                          have c26b0 : decide ((bt t133 x11_3) < 48) = false := decide_eq_false c26
                          clear c26
                          by_cases c31 : (bt t133 x11_3) > 57
                          · rw [if_pos c31] at H
                            have c31b0 : decide (57 < (bt t133 x11_3)) = true := decide_eq_true c31
                            clear c31
                            by_cases c33 : (bt t133 x11_3) = 95
                            · rw [if_pos c33] at H
                              have c33b0 : ((bt t133 x11_3) == 95) = true := beq_iff_eq.mpr c33
                              have c33b1 : ((bt t133 x11_3) != 95) = false := bne_eq_false_iff_eq.mpr c33
                              clear c33
                              have H' := Aside0.mk H
                              clear H
                              have p23 : 0 ≤ (x11_3 : Int) := of_decide_eq_true (by first | (with_reducible assumption) | assumption)
                              have q23 : x11_3 < (t133.size : Int) := of_decide_eq_true (by first | (with_reducible assumption) | assumption)
                              have hx23 := bt_at t133 x11_3
                              replace p23 := eq_true p23
                              replace q23 := eq_true q23
                              have p25 : 0 ≤ (x11_3 : Int) := of_decide_eq_true (by first | (with_reducible assumption) | assumption)
                              have q25 : x11_3 < (t133.size : Int) := of_decide_eq_true (by first | (with_reducible assumption) | assumption)
                              have hx25 := bt_at t133 x11_3
                              replace p25 := eq_true p25
                              replace q25 := eq_true q25
                              have p30 : 0 ≤ (x11_3 : Int) := of_decide_eq_true (by first | (with_reducible assumption) | assumption)
                              have q30 : x11_3 < (t133.size : Int) := of_decide_eq_true (by first | (with_reducible assumption) | assumption)
                              have hx30 := bt_at t133 x11_3
                              replace p30 := eq_true p30
                              replace q30 := eq_true q30
                              have p32 : 0 ≤ (x11_3 : Int) := of_decide_eq_true (by first | (with_reducible assumption) | assumption)
                              have q32 : x11_3 < (t133.size : Int) := of_decide_eq_true (by first | (with_reducible assumption) | assumption)
                              have hx32 := bt_at t133 x11_3
                              replace p32 := eq_true p32
                              replace q32 := eq_true q32
                              go_wp2
                              go_roundg k3
                              case measure => have := HJ5.out; have := HJ14.out; have := HK3.out; omega
                              case rel => exact ⟨(wrap64 (x11_3 + 1)), (x130000_3), (x130001_3), (by first | rfl | (simp; done) | (simp [*]; done)), H', ⟨by have := HJ5.out; have := HJ14.out; have := HK3.out; omega⟩, ⟨by (with_reducible repeat (first | refine blk_drewN ?_ _ | refine blk_drew ?_ | refine blk_alloc ?_ _)); exact BK129.out⟩, ⟨by repeat (first | (with_reducible first | exact HB.out | apply below_alloc | apply pw_below_drewN | apply below_drew1 | refine below_set ?_ GE129.out) | exact HB.out)⟩⟩
                            · rw [if_neg c33] at H
                              have c33b0 : ((bt t133 x11_3) == 95) = false := beq_eq_false_iff_ne.mpr c33
                              have c33b1 : ((bt t133 x11_3) != 95) = true := bne_iff_ne.mpr c33
                              simp only [Option.some.injEq, Prod.mk.injEq] at H
                              obtain ⟨rfl, rfl, rfl, rfl⟩ := H
                              have p23 : 0 ≤ (x11_3 : Int) := of_decide_eq_true (by first | (with_reducible assumption) | assumption)
                              have q23 : x11_3 < (t133.size : Int) := of_decide_eq_true (by first | (with_reducible assumption) | assumption)
                              have hx23 := bt_at t133 x11_3
                              replace p23 := eq_true p23
                              replace q23 := eq_true q23
                              have p25 : 0 ≤ (x11_3 : Int) := of_decide_eq_true (by first | (with_reducible assumption) | assumption)
                              have q25 : x11_3 < (t133.size : Int) := of_decide_eq_true (by first | (with_reducible assumption) | assumption)
                              have hx25 := bt_at t133 x11_3
                              replace p25 := eq_true p25
                              replace q25 := eq_true q25
                              have p30 : 0 ≤ (x11_3 : Int) := of_decide_eq_true (by first | (with_reducible assumption) | assumption)
                              have q30 : x11_3 < (t133.size : Int) := of_decide_eq_true (by first | (with_reducible assumption) | assumption)
                              have hx30 := bt_at t133 x11_3
                              replace p30 := eq_true p30
                              replace q30 := eq_true q30
                              have p32 : 0 ≤ (x11_3 : Int) := of_decide_eq_true (by first | (with_reducible assumption) | assumption)
                              have q32 : x11_3 < (t133.size : Int) := of_decide_eq_true (by first | (with_reducible assumption) | assumption)
                              have hx32 := bt_at t133 x11_3
                              replace p32 := eq_true p32
                              replace q32 := eq_true q32
                              have hcz34_0 : wr.cell? ⟨gb129, 0, none⟩ = some (.int .i64 x130000_3) := (blk_cell BK129.out 0).trans rfl
                              have hcz34_1 : wr.cell? ⟨gb129, 1, none⟩ = some (.int .i64 x130001_3) := (blk_cell BK129.out 1).trans rfl
                              have hfz34_0 := blk_frozen BK129.out 0
                              have hfz34_1 := blk_frozen BK129.out 1
                              go_wp2
                              refine bodyPost_ret (results_list (rs := [.tmp 6, .cell 7 27, .tmp 8]) rfl (by simp) (.tmp (.cell gb129 27 #[.int .i64 0, .int .i64 0] (0, 0) _ rfl (by (with_reducible repeat (first | refine blk_drewN ?_ _ | refine blk_drew ?_ | refine blk_alloc ?_ _)); refine blk_put (cs := #[.int .i64 0, .int .i64 x130001_3]) ?_ 1 _ rfl; (with_reducible repeat (first | refine blk_drewN ?_ _ | refine blk_drew ?_ | refine blk_alloc ?_ _)); refine blk_put (cs := #[.int .i64 x130000_3, .int .i64 x130001_3]) ?_ 0 _ rfl; (with_reducible repeat (first | refine blk_drewN ?_ _ | refine blk_drew ?_ | refine blk_alloc ?_ _)); exact BK129.out) Tryd.underlying27 rfl (by kernel_rfl) (.tmp .nil)))) rfl ?_
                              exact ⟨by first | rfl | (simp [errW_none, errW_some] <;> rfl) | (simp [*, errW_none, errW_some] <;> rfl), by repeat (first | (with_reducible first | exact HB.out | apply below_alloc | apply pw_below_drewN | apply below_drew1 | refine below_set ?_ GE129.out) | exact HB.out)⟩
                          · rw [if_neg c31] at H
                            have c31b0 : decide (57 < (bt t133 x11_3)) = false := decide_eq_false c31
                            clear c31
                            have H' := Aside0.mk H
                            clear H
                            have p23 : 0 ≤ (x11_3 : Int) := of_decide_eq_true (by first | (with_reducible assumption) | assumption)
                            have q23 : x11_3 < (t133.size : Int) := of_decide_eq_true (by first | (with_reducible assumption) | assumption)
                            have hx23 := bt_at t133 x11_3
                            replace p23 := eq_true p23
                            replace q23 := eq_true q23
                            have p25 : 0 ≤ (x11_3 : Int) := of_decide_eq_true (by first | (with_reducible assumption) | assumption)
                            have q25 : x11_3 < (t133.size : Int) := of_decide_eq_true (by first | (with_reducible assumption) | assumption)
                            have hx25 := bt_at t133 x11_3
                            replace p25 := eq_true p25
                            replace q25 := eq_true q25
                            have p30 : 0 ≤ (x11_3 : Int) := of_decide_eq_true (by first | (with_reducible assumption) | assumption)
                            have q30 : x11_3 < (t133.size : Int) := of_decide_eq_true (by first | (with_reducible assumption) | assumption)
                            have hx30 := bt_at t133 x11_3
                            replace p30 := eq_true p30
                            replace q30 := eq_true q30
                            go_wp2
                            go_roundg k3
                            case measure => have := HJ5.out; have := HJ14.out; have := HK3.out; omega
                            case rel => exact ⟨(wrap64 (x11_3 + 1)), (x130000_3), (x130001_3), (by first | rfl | (simp; done) | (simp [*]; done)), H', ⟨by have := HJ5.out; have := HJ14.out; have := HK3.out; omega⟩, ⟨by (with_reducible repeat (first | refine blk_drewN ?_ _ | refine blk_drew ?_ | refine blk_alloc ?_ _)); exact BK129.out⟩, ⟨by repeat (first | (with_reducible first | exact HB.out | apply below_alloc | apply pw_below_drewN | apply below_drew1 | refine below_set ?_ GE129.out) | exact HB.out)⟩⟩
                      · rw [if_neg c24] at H
                        have c24b0 : decide ((bt t133 x11_3) < 65) = false := decide_eq_false c24
                        clear c24
                        by_cases c36 : (bt t133 x11_3) > 90
                        · rw [if_pos c36] at H
                          have c36b0 : decide (90 < (bt t133 x11_3)) = true := decide_eq_true c36
                          clear c36
                          by_cases c38 : (bt t133 x11_3) < 48
                          · rw [if_pos c38] at H
                            have c38b0 : decide ((bt t133 x11_3) < 48) = true := decide_eq_true c38
                            clear c38
                            by_cases c40 : (bt t133 x11_3) = 95
                            · rw [if_pos c40] at H
                              have c40b0 : ((bt t133 x11_3) == 95) = true := beq_iff_eq.mpr c40
                              have c40b1 : ((bt t133 x11_3) != 95) = false := bne_eq_false_iff_eq.mpr c40
                              clear c40
                              have H' := Aside0.mk H
                              clear H
                              have p23 : 0 ≤ (x11_3 : Int) := of_decide_eq_true (by first | (with_reducible assumption) | assumption)
                              have q23 : x11_3 < (t133.size : Int) := of_decide_eq_true (by first | (with_reducible assumption) | assumption)
                              have hx23 := bt_at t133 x11_3
                              replace p23 := eq_true p23
                              replace q23 := eq_true q23
                              have p35 : 0 ≤ (x11_3 : Int) := of_decide_eq_true (by first | (with_reducible assumption) | assumption)
                              have q35 : x11_3 < (t133.size : Int) := of_decide_eq_true (by first | (with_reducible assumption) | assumption)
                              have hx35 := bt_at t133 x11_3
                              replace p35 := eq_true p35
                              replace q35 := eq_true q35
                              have p37 : 0 ≤ (x11_3 : Int) := of_decide_eq_true (by first | (with_reducible assumption) | assumption)
                              have q37 : x11_3 < (t133.size : Int) := of_decide_eq_true (by first | (with_reducible assumption) | assumption)
                              have hx37 := bt_at t133 x11_3
                              replace p37 := eq_true p37
                              replace q37 := eq_true q37
                              have p39 : 0 ≤ (x11_3 : Int) := of_decide_eq_true (by first | (with_reducible assumption) | assumption)
                              have q39 : x11_3 < (t133.size : Int) := of_decide_eq_true (by first | (with_reducible assumption) | assumption)
                              have hx39 := bt_at t133 x11_3
                              replace p39 := eq_true p39
                              replace q39 := eq_true q39
                              go_wp2
                              go_roundg k3
                              case measure => have := HJ5.out; have := HJ14.out; have := HK3.out; omega
                              case rel => exact ⟨(wrap64 (x11_3 + 1)), (x130000_3), (x130001_3), (by first | rfl | (simp; done) | (simp [*]; done)), H', ⟨by have := HJ5.out; have := HJ14.out; have := HK3.out; omega⟩, ⟨by (with_reducible repeat (first | refine blk_drewN ?_ _ | refine blk_drew ?_ | refine blk_alloc ?_ _)); exact BK129.out⟩, ⟨by repeat (first | (with_reducible first | exact HB.out | apply below_alloc | apply pw_below_drewN | apply below_drew1 | refine below_set ?_ GE129.out) | exact HB.out)⟩⟩
                            · rw [if_neg c40] at H
                              have c40b0 : ((bt t133 x11_3) == 95) = false := beq_eq_false_iff_ne.mpr c40
                              have c40b1 : ((bt t133 x11_3) != 95) = true := bne_iff_ne.mpr c40
                              simp only [Option.some.injEq, Prod.mk.injEq] at H
                              obtain ⟨rfl, rfl, rfl, rfl⟩ := H
                              have p23 : 0 ≤ (x11_3 : Int) := of_decide_eq_true (by first | (with_reducible assumption) | assumption)
                              have q23 : x11_3 < (t133.size : Int) := of_decide_eq_true (by first | (with_reducible assumption) | assumption)
                              have hx23 := bt_at t133 x11_3
                              replace p23 := eq_true p23
                              replace q23 := eq_true q23
                              have p35 : 0 ≤ (x11_3 : Int) := of_decide_eq_true (by first | (with_reducible assumption) | assumption)
                              have q35 : x11_3 < (t133.size : Int) := of_decide_eq_true (by first | (with_reducible assumption) | assumption)
                              have hx35 := bt_at t133 x11_3
                              replace p35 := eq_true p35
                              replace q35 := eq_true q35
                              have p37 : 0 ≤ (x11_3 : Int) := of_decide_eq_true (by first | (with_reducible assumption) | assumption)
                              have q37 : x11_3 < (t133.size : Int) := of_decide_eq_true (by first | (with_reducible assumption) | assumption)
                              have hx37 := bt_at t133 x11_3
                              replace p37 := eq_true p37
                              replace q37 := eq_true q37
                              have p39 : 0 ≤ (x11_3 : Int) := of_decide_eq_true (by first | (with_reducible assumption) | assumption)
                              have q39 : x11_3 < (t133.size : Int) := of_decide_eq_true (by first | (with_reducible assumption) | assumption)
                              have hx39 := bt_at t133 x11_3
                              replace p39 := eq_true p39
                              replace q39 := eq_true q39
                              have hcz41_0 : wr.cell? ⟨gb129, 0, none⟩ = some (.int .i64 x130000_3) := (blk_cell BK129.out 0).trans rfl
                              have hcz41_1 : wr.cell? ⟨gb129, 1, none⟩ = some (.int .i64 x130001_3) := (blk_cell BK129.out 1).trans rfl
                              have hfz41_0 := blk_frozen BK129.out 0
                              have hfz41_1 := blk_frozen BK129.out 1
                              go_wp2
                              refine bodyPost_ret (results_list (rs := [.tmp 6, .cell 7 27, .tmp 8]) rfl (by simp) (.tmp (.cell gb129 27 #[.int .i64 0, .int .i64 0] (0, 0) _ rfl (by (with_reducible repeat (first | refine blk_drewN ?_ _ | refine blk_drew ?_ | refine blk_alloc ?_ _)); refine blk_put (cs := #[.int .i64 0, .int .i64 x130001_3]) ?_ 1 _ rfl; (with_reducible repeat (first | refine blk_drewN ?_ _ | refine blk_drew ?_ | refine blk_alloc ?_ _)); refine blk_put (cs := #[.int .i64 x130000_3, .int .i64 x130001_3]) ?_ 0 _ rfl; (with_reducible repeat (first | refine blk_drewN ?_ _ | refine blk_drew ?_ | refine blk_alloc ?_ _)); exact BK129.out) Tryd.underlying27 rfl (by kernel_rfl) (.tmp .nil)))) rfl ?_
                              exact ⟨by first | rfl | (simp [errW_none, errW_some] <;> rfl) | (simp [*, errW_none, errW_some] <;> rfl), by repeat (first | (with_reducible first | exact HB.out | apply below_alloc | apply pw_below_drewN | apply below_drew1 | refine below_set ?_ GE129.out) | exact HB.out)⟩
                          · rw [if_neg c38] at H
                            have c38b0 : decide ((bt t133 x11_3) < 48) = false := decide_eq_false c38
                            clear c38
                            by_cases c43 : (bt t133 x11_3) > 57
                            · rw [if_pos c43] at H
                              have c43b0 : decide (57 < (bt t133 x11_3)) = true := decide_eq_true c43
                              clear c43
                              by_cases c45 : (bt t133 x11_3) = 95
                              · rw [if_pos c45] at H
                                have c45b0 : ((bt t133 x11_3) == 95) = true := beq_iff_eq.mpr c45
                                have c45b1 : ((bt t133 x11_3) != 95) = false := bne_eq_false_iff_eq.mpr c45
                                clear c45
                                have H' := Aside0.mk H
                                clear H
                                have p23 : 0 ≤ (x11_3 : Int) := of_decide_eq_true (by first | (with_reducible assumption) | assumption)
                                have q23 : x11_3 < (t133.size : Int) := of_decide_eq_true (by first | (with_reducible assumption) | assumption)
                                have hx23 := bt_at t133 x11_3
                                replace p23 := eq_true p23
                                replace q23 := eq_true q23
                                have p35 : 0 ≤ (x11_3 : Int) := of_decide_eq_true (by first | (with_reducible assumption) | assumption)
                                have q35 : x11_3 < (t133.size : Int) := of_decide_eq_true (by first | (with_reducible assumption) | assumption)
                                have hx35 := bt_at t133 x11_3
                                replace p35 := eq_true p35
                                replace q35 := eq_true q35
                                have p37 : 0 ≤ (x11_3 : Int) := of_decide_eq_true (by first | (with_reducible assumption) | assumption)
                                have q37 : x11_3 < (t133.size : Int) := of_decide_eq_true (by first | (with_reducible assumption) | assumption)
                                have hx37 := bt_at t133 x11_3
                                replace p37 := eq_true p37
                                replace q37 := eq_true q37
                                have p42 : 0 ≤ (x11_3 : Int) := of_decide_eq_true (by first | (with_reducible assumption) | assumption)
                                have q42 : x11_3 < (t133.size : Int) := of_decide_eq_true (by first | (with_reducible assumption) | assumption)
                                have hx42 := bt_at t133 x11_3
                                replace p42 := eq_true p42
                                replace q42 := eq_true q42
                                have p44 : 0 ≤ (x11_3 : Int) := of_decide_eq_true (by first | (with_reducible assumption) | assumption)
                                have q44 : x11_3 < (t133.size : Int) := of_decide_eq_true (by first | (with_reducible assumption) | assumption)
                                have hx44 := bt_at t133 x11_3
                                replace p44 := eq_true p44
                                replace q44 := eq_true q44
                                go_wp2
                                go_roundg k3
                                case measure => have := HJ5.out; have := HJ14.out; have := HK3.out; omega
                                case rel => exact ⟨(wrap64 (x11_3 + 1)), (x130000_3), (x130001_3), (by first | rfl | (simp; done) | (simp [*]; done)), H', ⟨by have := HJ5.out; have := HJ14.out; have := HK3.out; omega⟩, ⟨by (with_reducible repeat (first | refine blk_drewN ?_ _ | refine blk_drew ?_ | refine blk_alloc ?_ _)); exact BK129.out⟩, ⟨by repeat (first | (with_reducible first | exact HB.out | apply below_alloc | apply pw_below_drewN | apply below_drew1 | refine below_set ?_ GE129.out) | exact HB.out)⟩⟩
                              · rw [if_neg c45] at H
                                have c45b0 : ((bt t133 x11_3) == 95) = false := beq_eq_false_iff_ne.mpr c45
                                have c45b1 : ((bt t133 x11_3) != 95) = true := bne_iff_ne.mpr c45
                                simp only [Option.some.injEq, Prod.mk.injEq] at H
                                obtain ⟨rfl, rfl, rfl, rfl⟩ := H
                                have p23 : 0 ≤ (x11_3 : Int) := of_decide_eq_true (by first | (with_reducible assumption) | assumption)
                                have q23 : x11_3 < (t133.size : Int) := of_decide_eq_true (by first | (with_reducible assumption) | assumption)
                                have hx23 := bt_at t133 x11_3
                                replace p23 := eq_true p23
                                replace q23 := eq_true q23
                                have p35 : 0 ≤ (x11_3 : Int) := of_decide_eq_true (by first | (with_reducible assumption) | assumption)
                                have q35 : x11_3 < (t133.size : Int) := of_decide_eq_true (by first | (with_reducible assumption) | assumption)
                                have hx35 := bt_at t133 x11_3
                                replace p35 := eq_true p35
                                replace q35 := eq_true q35
                                have p37 : 0 ≤ (x11_3 : Int) := of_decide_eq_true (by first | (with_reducible assumption) | assumption)
                                have q37 : x11_3 < (t133.size : Int) := of_decide_eq_true (by first | (with_reducible assumption) | assumption)
                                have hx37 := bt_at t133 x11_3
                                replace p37 := eq_true p37
                                replace q37 := eq_true q37
                                have p42 : 0 ≤ (x11_3 : Int) := of_decide_eq_true (by first | (with_reducible assumption) | assumption)
                                have q42 : x11_3 < (t133.size : Int) := of_decide_eq_true (by first | (with_reducible assumption) | assumption)
                                have hx42 := bt_at t133 x11_3
                                replace p42 := eq_true p42
                                replace q42 := eq_true q42
                                have p44 : 0 ≤ (x11_3 : Int) := of_decide_eq_true (by first | (with_reducible assumption) | assumption)
                                have q44 : x11_3 < (t133.size : Int) := of_decide_eq_true (by first | (with_reducible assumption) | assumption)
                                have hx44 := bt_at t133 x11_3
                                replace p44 := eq_true p44
                                replace q44 := eq_true q44
                                have hcz46_0 : wr.cell? ⟨gb129, 0, none⟩ = some (.int .i64 x130000_3) := (blk_cell BK129.out 0).trans rfl
                                have hcz46_1 : wr.cell? ⟨gb129, 1, none⟩ = some (.int .i64 x130001_3) := (blk_cell BK129.out 1).trans rfl
                                have hfz46_0 := blk_frozen BK129.out 0
                                have hfz46_1 := blk_frozen BK129.out 1
                                go_wp2
                                refine bodyPost_ret (results_list (rs := [.tmp 6, .cell 7 27, .tmp 8]) rfl (by simp) (.tmp (.cell gb129 27 #[.int .i64 0, .int .i64 0] (0, 0) _ rfl (by (with_reducible repeat (first | refine blk_drewN ?_ _ | refine blk_drew ?_ | refine blk_alloc ?_ _)); refine blk_put (cs := #[.int .i64 0, .int .i64 x130001_3]) ?_ 1 _ rfl; (with_reducible repeat (first | refine blk_drewN ?_ _ | refine blk_drew ?_ | refine blk_alloc ?_ _)); refine blk_put (cs := #[.int .i64 x130000_3, .int .i64 x130001_3]) ?_ 0 _ rfl; (with_reducible repeat (first | refine blk_drewN ?_ _ | refine blk_drew ?_ | refine blk_alloc ?_ _)); exact BK129.out) Tryd.underlying27 rfl (by kernel_rfl) (.tmp .nil)))) rfl ?_
                                exact ⟨by first | rfl | (simp [errW_none, errW_some] <;> rfl) | (simp [*, errW_none, errW_some] <;> rfl), by repeat (first | (with_reducible first | exact HB.out | apply below_alloc | apply pw_below_drewN | apply below_drew1 | refine below_set ?_ GE129.out) | exact HB.out)⟩
                            · rw [if_neg c43] at H
                              have c43b0 : decide (57 < (bt t133 x11_3)) = false := decide_eq_false c43
                              clear c43
                              have H' := Aside0.mk H
                              clear H
                              have p23 : 0 ≤ (x11_3 : Int) := of_decide_eq_true (by first | (with_reducible assumption) | assumption)
                              have q23 : x11_3 < (t133.size : Int) := of_decide_eq_true (by first | (with_reducible assumption) | assumption)
                              have hx23 := bt_at t133 x11_3
                              replace p23 := eq_true p23
                              replace q23 := eq_true q23
                              have p35 : 0 ≤ (x11_3 : Int) := of_decide_eq_true (by first | (with_reducible assumption) | assumption)
                              have q35 : x11_3 < (t133.size : Int) := of_decide_eq_true (by first | (with_reducible assumption) | assumption)
                              have hx35 := bt_at t133 x11_3
                              replace p35 := eq_true p35
                              replace q35 := eq_true q35
                              have p37 : 0 ≤ (x11_3 : Int) := of_decide_eq_true (by first | (with_reducible assumption) | assumption)
                              have q37 : x11_3 < (t133.size : Int) := of_decide_eq_true (by first | (with_reducible assumption) | assumption)
                              have hx37 := bt_at t133 x11_3
                              replace p37 := eq_true p37
                              replace q37 := eq_true q37
                              have p42 : 0 ≤ (x11_3 : Int) := of_decide_eq_true (by first | (with_reducible assumption) | assumption)
                              have q42 : x11_3 < (t133.size : Int) := of_decide_eq_true (by first | (with_reducible assumption) | assumption)
                              have hx42 := bt_at t133 x11_3
                              replace p42 := eq_true p42
                              replace q42 := eq_true q42
                              go_wp2
                              go_roundg k3
                              case measure => have := HJ5.out; have := HJ14.out; have := HK3.out; omega
                              case rel => exact ⟨(wrap64 (x11_3 + 1)), (x130000_3), (x130001_3), (by first | rfl | (simp; done) | (simp [*]; done)), H', ⟨by have := HJ5.out; have := HJ14.out; have := HK3.out; omega⟩, ⟨by (with_reducible repeat (first | refine blk_drewN ?_ _ | refine blk_drew ?_ | refine blk_alloc ?_ _)); exact BK129.out⟩, ⟨by repeat (first | (with_reducible first | exact HB.out | apply below_alloc | apply pw_below_drewN | apply below_drew1 | refine below_set ?_ GE129.out) | exact HB.out)⟩⟩
                        · rw [if_neg c36] at H
                          have c36b0 : decide (90 < (bt t133 x11_3)) = false := decide_eq_false c36
                          clear c36
                          have H' := Aside0.mk H
                          clear H
                          have p23 : 0 ≤ (x11_3 : Int) := of_decide_eq_true (by first | (with_reducible assumption) | assumption)
                          have q23 : x11_3 < (t133.size : Int) := of_decide_eq_true (by first | (with_reducible assumption) | assumption)
                          have hx23 := bt_at t133 x11_3
                          replace p23 := eq_true p23
                          replace q23 := eq_true q23
                          have p35 : 0 ≤ (x11_3 : Int) := of_decide_eq_true (by first | (with_reducible assumption) | assumption)
                          have q35 : x11_3 < (t133.size : Int) := of_decide_eq_true (by first | (with_reducible assumption) | assumption)
                          have hx35 := bt_at t133 x11_3
                          replace p35 := eq_true p35
                          replace q35 := eq_true q35
                          go_wp2
                          go_roundg k3
                          case measure => have := HJ5.out; have := HJ14.out; have := HK3.out; omega
                          case rel => exact ⟨(wrap64 (x11_3 + 1)), (x130000_3), (x130001_3), (by first | rfl | (simp; done) | (simp [*]; done)), H', ⟨by have := HJ5.out; have := HJ14.out; have := HK3.out; omega⟩, ⟨by (with_reducible repeat (first | refine blk_drewN ?_ _ | refine blk_drew ?_ | refine blk_alloc ?_ _)); exact BK129.out⟩, ⟨by repeat (first | (with_reducible first | exact HB.out | apply below_alloc | apply pw_below_drewN | apply below_drew1 | refine below_set ?_ GE129.out) | exact HB.out)⟩⟩
                    · rw [if_neg c22] at H
                      exact absurd H (by simp)
                  · rw [if_neg c21] at H
                    have c21b0 : decide (x11_3 < (t133.size : Int)) = false := decide_eq_false c21
                    clear c21
                    by_cases c47 : x9_5 < a2
                    · rw [if_pos c47] at H
                      have c47b0 : decide (x9_5 < a2) = true := decide_eq_true c47
                      clear c47
                      replace H := Option.bind_eq_some_iff.mp H
                      obtain ⟨⟨t135, t136⟩, A480, H⟩ := H
                      replace H : (if t135 < t136 then (some (t133, t135, t136, true)) else (some (t133, a2, a2, true))) = some (r1, r2, r3, r4) := H
                      have A48 := Aside0.mk A480
                      clear A480
                      by_cases c49 : t135 < t136
                      · rw [if_pos c49] at H
                        have c49b0 : decide (t135 < t136) = true := decide_eq_true c49
                        clear c49
                        simp only [Option.some.injEq, Prod.mk.injEq] at H
                        obtain ⟨rfl, rfl, rfl, rfl⟩ := H
                        try go_wp2_with (first | ((with_reducible refine gate_dst (N := 12) rfl ?_); (try (refine gate_guard (by rfl) ?_; dsimp only)); refine box_event ?hg (N := 12) ?hd (cs := #[.int .i64 0, .int .i64 0]) (t := 27) ?hr ?_; (case hd => rfl); (case hg => rfl); (case hr => first | (go_simp; done) | (go_simp; rfl)); intro gb134 hg w50 hbox hb; have n0_ := Aside0.mk (blk_below (g := gb129) (o := .cells #[.int .i64 x130000_3, .int .i64 x130001_3] 27 (0, 0)) (by (with_reducible repeat (first | refine blk_drewN ?_ _ | refine blk_drew ?_ | refine blk_alloc ?_ _)); exact BK129.out) hb); have n1_ := Aside0.mk (below_step (by repeat (first | (with_reducible first | exact HB.out | apply below_alloc | apply pw_below_drewN | apply below_drew1 | refine below_set ?_ GE129.out) | exact HB.out)) hb); have n2_ := Aside0.mk (hbox); have n3_ := Aside0.mk ((by rw [hg]; exact (below_size (by repeat (first | (with_reducible first | exact HB.out | apply below_alloc | apply pw_below_drewN | apply below_drew1 | refine below_set ?_ GE129.out) | exact HB.out))) : w.heap.size ≤ gb134)); have n4_ := Aside0.mk ((by rw [hg]; exact (below_size (by repeat (first | (with_reducible first | exact HB.out | apply below_alloc | apply pw_below_drewN | apply below_drew1 | refine below_set ?_ GE129.out) | exact HB.out))) : w.heap.size ≤ gb134)); have n5_ := Aside0.mk ((by rw [hg]; exact Nat.ne_of_lt (blk_lt (g := gb129) (o := .cells #[.int .i64 x130000_3, .int .i64 x130001_3] 27 (0, 0)) (by (with_reducible repeat (first | refine blk_drewN ?_ _ | refine blk_drew ?_ | refine blk_alloc ?_ _)); exact BK129.out)) : gb129 ≠ gb134)); have n6_ := Aside0.mk ((by rw [hg]; exact Nat.ne_of_gt (blk_lt (g := gb129) (o := .cells #[.int .i64 x130000_3, .int .i64 x130001_3] 27 (0, 0)) (by (with_reducible repeat (first | refine blk_drewN ?_ _ | refine blk_drew ?_ | refine blk_alloc ?_ _)); exact BK129.out)) : gb134 ≠ gb129)); clear BK129; clear HB; have BK129 := n0_; have HB := n1_; have BK134 := n2_; have GW134 := n3_; have GE134 := n4_; have NB129_134 := n5_; have NB134_129 := n6_; clear n0_ n1_ n2_ n3_ n4_ n5_ n6_; clear hb hbox hg; have hnb51 := NB134_129.out; have hnc51 := NB129_134.out; have hcz52_0 : w50.cell? ⟨gb134, 0, none⟩ = some (.int .i64 0) := (blk_cell BK134.out 0).trans rfl; have hcz52_1 : w50.cell? ⟨gb134, 1, none⟩ = some (.int .i64 0) := (blk_cell BK134.out 1).trans rfl; have hfz52_0 := blk_frozen BK134.out 0; have hfz52_1 := blk_frozen BK134.out 1) | ((with_reducible refine gate_callee (f := 33) rfl ?_); refine goesL_ (some 93) rfl rfl Tryd.func33 (by kernel_rfl) rfl #[.string a0, .agg #[.int .i64 (wrap64 (x9_5 + 1)), .int .i64 a2]] rfl (by (try simp only [List.map_toArray, List.map_cons, List.map_nil]); first | done | rfl | (simp only [List.length_drop, List.length_take]; rfl)) ?_; (with_reducible refine (entrepotref03_trimmed.calls k3 a0 (wrap64 (x9_5 + 1)) a2 t135 t136 _ A48.out).mono ?_); rintro e w53 ⟨rfl, hb⟩; refine ⟨_, rfl, ?_⟩; have n0_ := Aside0.mk (blk_below (g := gb129) (o := .cells #[.int .i64 x130000_3, .int .i64 x130001_3] 27 (0, 0)) (by (with_reducible repeat (first | refine blk_drewN ?_ _ | refine blk_drew ?_ | refine blk_alloc ?_ _)); refine blk_far ?_ NB129_134.out _; (with_reducible repeat (first | refine blk_drewN ?_ _ | refine blk_drew ?_ | refine blk_alloc ?_ _)); refine blk_far ?_ NB129_134.out _; (with_reducible repeat (first | refine blk_drewN ?_ _ | refine blk_drew ?_ | refine blk_alloc ?_ _)); exact BK129.out) hb); have n1_ := Aside0.mk (blk_below (g := gb134) (o := .cells #[.int .i64 a2, .int .i64 a2] 27 (0, 0)) (by (with_reducible repeat (first | refine blk_drewN ?_ _ | refine blk_drew ?_ | refine blk_alloc ?_ _)); refine blk_put (cs := #[.int .i64 a2, .int .i64 0]) ?_ 1 _ rfl; (with_reducible repeat (first | refine blk_drewN ?_ _ | refine blk_drew ?_ | refine blk_alloc ?_ _)); refine blk_put (cs := #[.int .i64 0, .int .i64 0]) ?_ 0 _ rfl; (with_reducible repeat (first | refine blk_drewN ?_ _ | refine blk_drew ?_ | refine blk_alloc ?_ _)); exact BK134.out) hb); have n2_ := Aside0.mk (below_step (by repeat (first | (with_reducible first | exact HB.out | apply below_alloc | apply pw_below_drewN | apply below_drew1 | refine below_set ?_ GE129.out | refine below_set ?_ GE134.out) | exact HB.out)) hb); clear BK129; clear BK134; clear HB; have BK129 := n0_; have BK134 := n1_; have HB := n2_; clear n0_ n1_ n2_; (try clear hb); (try clear hb2); (try clear hk); (try clear hi)) | ((with_reducible refine gate_dst (N := 13) rfl ?_); (try (refine gate_guard (by rfl) ?_; dsimp only)); refine box_event ?hg (N := 13) ?hd (cs := #[.int .i64 0, .int .i64 0]) (t := 27) ?hr ?_; (case hd => rfl); (case hg => rfl); (case hr => first | (go_simp; done) | (go_simp; rfl)); intro gb137 hg w54 hbox hb; have n0_ := Aside0.mk (blk_below (g := gb129) (o := .cells #[.int .i64 x130000_3, .int .i64 x130001_3] 27 (0, 0)) (by (with_reducible repeat (first | refine blk_drewN ?_ _ | refine blk_drew ?_ | refine blk_alloc ?_ _)); exact BK129.out) hb); have n1_ := Aside0.mk (blk_below (g := gb134) (o := .cells #[.int .i64 a2, .int .i64 a2] 27 (0, 0)) (by (with_reducible repeat (first | refine blk_drewN ?_ _ | refine blk_drew ?_ | refine blk_alloc ?_ _)); exact BK134.out) hb); have n2_ := Aside0.mk (below_step (by repeat (first | (with_reducible first | exact HB.out | apply below_alloc | apply pw_below_drewN | apply below_drew1 | refine below_set ?_ GE129.out | refine below_set ?_ GE134.out) | exact HB.out)) hb); have n3_ := Aside0.mk (hbox); have n4_ := Aside0.mk ((by rw [hg]; exact (below_size (by repeat (first | (with_reducible first | exact HB.out | apply below_alloc | apply pw_below_drewN | apply below_drew1 | refine below_set ?_ GE129.out | refine below_set ?_ GE134.out) | exact HB.out))) : w.heap.size ≤ gb137)); have n5_ := Aside0.mk ((by rw [hg]; exact (below_size (by repeat (first | (with_reducible first | exact HB.out | apply below_alloc | apply pw_below_drewN | apply below_drew1 | refine below_set ?_ GE129.out | refine below_set ?_ GE134.out) | exact HB.out))) : w.heap.size ≤ gb137)); have n6_ := Aside0.mk ((by rw [hg]; exact Nat.ne_of_lt (blk_lt (g := gb129) (o := .cells #[.int .i64 x130000_3, .int .i64 x130001_3] 27 (0, 0)) (by (with_reducible repeat (first | refine blk_drewN ?_ _ | refine blk_drew ?_ | refine blk_alloc ?_ _)); exact BK129.out)) : gb129 ≠ gb137)); have n7_ := Aside0.mk ((by rw [hg]; exact Nat.ne_of_gt (blk_lt (g := gb129) (o := .cells #[.int .i64 x130000_3, .int .i64 x130001_3] 27 (0, 0)) (by (with_reducible repeat (first | refine blk_drewN ?_ _ | refine blk_drew ?_ | refine blk_alloc ?_ _)); exact BK129.out)) : gb137 ≠ gb129)); have n8_ := Aside0.mk ((by rw [hg]; exact Nat.ne_of_lt (blk_lt (g := gb134) (o := .cells #[.int .i64 a2, .int .i64 a2] 27 (0, 0)) (by (with_reducible repeat (first | refine blk_drewN ?_ _ | refine blk_drew ?_ | refine blk_alloc ?_ _)); exact BK134.out)) : gb134 ≠ gb137)); have n9_ := Aside0.mk ((by rw [hg]; exact Nat.ne_of_gt (blk_lt (g := gb134) (o := .cells #[.int .i64 a2, .int .i64 a2] 27 (0, 0)) (by (with_reducible repeat (first | refine blk_drewN ?_ _ | refine blk_drew ?_ | refine blk_alloc ?_ _)); exact BK134.out)) : gb137 ≠ gb134)); clear BK129; clear BK134; clear HB; have BK129 := n0_; have BK134 := n1_; have HB := n2_; have BK137 := n3_; have GW137 := n4_; have GE137 := n5_; have NB129_137 := n6_; have NB137_129 := n7_; have NB134_137 := n8_; have NB137_134 := n9_; clear n0_ n1_ n2_ n3_ n4_ n5_ n6_ n7_ n8_ n9_; clear hb hbox hg; have hnb55 := NB137_129.out; have hnc55 := NB129_137.out; have hnb56 := NB137_134.out; have hnc56 := NB134_137.out; have hcz57_0 : w54.cell? ⟨gb137, 0, none⟩ = some (.int .i64 0) := (blk_cell BK137.out 0).trans rfl; have hcz57_1 : w54.cell? ⟨gb137, 1, none⟩ = some (.int .i64 0) := (blk_cell BK137.out 1).trans rfl; have hfz57_0 := blk_frozen BK137.out 0; have hfz57_1 := blk_frozen BK137.out 1; have hcz58_0 : w54.cell? ⟨gb134, 0, none⟩ = some (.int .i64 a2) := (blk_cell BK134.out 0).trans rfl; have hcz58_1 : w54.cell? ⟨gb134, 1, none⟩ = some (.int .i64 a2) := (blk_cell BK134.out 1).trans rfl; have hfz58_0 := blk_frozen BK134.out 0; have hfz58_1 := blk_frozen BK134.out 1))
                        have n0_ : Aside0 (((((w54.setCell ⟨gb137, 0, none⟩ (.int .i64 t135)).setCell ⟨gb137, 1, none⟩ (.int .i64 t136)).setCell ⟨gb134, 0, none⟩ (.int .i64 t135)).setCell ⟨gb134, 1, none⟩ (.int .i64 t136)).heap[gb129]? = some (.cells #[.int .i64 x130000_3, .int .i64 x130001_3] 27 (0, 0))) := ⟨by (with_reducible repeat (first | refine blk_drewN ?_ _ | refine blk_drew ?_ | refine blk_alloc ?_ _)); refine blk_far ?_ NB129_134.out _; (with_reducible repeat (first | refine blk_drewN ?_ _ | refine blk_drew ?_ | refine blk_alloc ?_ _)); refine blk_far ?_ NB129_134.out _; (with_reducible repeat (first | refine blk_drewN ?_ _ | refine blk_drew ?_ | refine blk_alloc ?_ _)); refine blk_far ?_ NB129_137.out _; (with_reducible repeat (first | refine blk_drewN ?_ _ | refine blk_drew ?_ | refine blk_alloc ?_ _)); refine blk_far ?_ NB129_137.out _; (with_reducible repeat (first | refine blk_drewN ?_ _ | refine blk_drew ?_ | refine blk_alloc ?_ _)); exact BK129.out⟩
                        have n1_ : Aside0 (((((w54.setCell ⟨gb137, 0, none⟩ (.int .i64 t135)).setCell ⟨gb137, 1, none⟩ (.int .i64 t136)).setCell ⟨gb134, 0, none⟩ (.int .i64 t135)).setCell ⟨gb134, 1, none⟩ (.int .i64 t136)).heap[gb134]? = some (.cells #[.int .i64 t135, .int .i64 t136] 27 (0, 0))) := ⟨by (with_reducible repeat (first | refine blk_drewN ?_ _ | refine blk_drew ?_ | refine blk_alloc ?_ _)); refine blk_put (cs := #[.int .i64 t135, .int .i64 a2]) ?_ 1 _ rfl; (with_reducible repeat (first | refine blk_drewN ?_ _ | refine blk_drew ?_ | refine blk_alloc ?_ _)); refine blk_put (cs := #[.int .i64 a2, .int .i64 a2]) ?_ 0 _ rfl; (with_reducible repeat (first | refine blk_drewN ?_ _ | refine blk_drew ?_ | refine blk_alloc ?_ _)); refine blk_far ?_ NB134_137.out _; (with_reducible repeat (first | refine blk_drewN ?_ _ | refine blk_drew ?_ | refine blk_alloc ?_ _)); refine blk_far ?_ NB134_137.out _; (with_reducible repeat (first | refine blk_drewN ?_ _ | refine blk_drew ?_ | refine blk_alloc ?_ _)); exact BK134.out⟩
                        have n2_ : Aside0 (((((w54.setCell ⟨gb137, 0, none⟩ (.int .i64 t135)).setCell ⟨gb137, 1, none⟩ (.int .i64 t136)).setCell ⟨gb134, 0, none⟩ (.int .i64 t135)).setCell ⟨gb134, 1, none⟩ (.int .i64 t136)).heap[gb137]? = some (.cells #[.int .i64 t135, .int .i64 t136] 27 (0, 0))) := ⟨by (with_reducible repeat (first | refine blk_drewN ?_ _ | refine blk_drew ?_ | refine blk_alloc ?_ _)); refine blk_far ?_ NB137_134.out _; (with_reducible repeat (first | refine blk_drewN ?_ _ | refine blk_drew ?_ | refine blk_alloc ?_ _)); refine blk_far ?_ NB137_134.out _; (with_reducible repeat (first | refine blk_drewN ?_ _ | refine blk_drew ?_ | refine blk_alloc ?_ _)); refine blk_put (cs := #[.int .i64 t135, .int .i64 0]) ?_ 1 _ rfl; (with_reducible repeat (first | refine blk_drewN ?_ _ | refine blk_drew ?_ | refine blk_alloc ?_ _)); refine blk_put (cs := #[.int .i64 0, .int .i64 0]) ?_ 0 _ rfl; (with_reducible repeat (first | refine blk_drewN ?_ _ | refine blk_drew ?_ | refine blk_alloc ?_ _)); exact BK137.out⟩
                        have n3_ : Aside0 (Below w.heap.size w ((((w54.setCell ⟨gb137, 0, none⟩ (.int .i64 t135)).setCell ⟨gb137, 1, none⟩ (.int .i64 t136)).setCell ⟨gb134, 0, none⟩ (.int .i64 t135)).setCell ⟨gb134, 1, none⟩ (.int .i64 t136))) := ⟨by repeat (first | (with_reducible first | exact HB.out | apply below_alloc | apply pw_below_drewN | apply below_drew1 | refine below_set ?_ GE129.out | refine below_set ?_ GE134.out | refine below_set ?_ GE137.out) | exact HB.out)⟩
                        (try clear BK129)
                        (try clear BK134)
                        (try clear BK137)
                        (try clear HB)
                        generalize ((((w54.setCell ⟨gb137, 0, none⟩ (.int .i64 t135)).setCell ⟨gb137, 1, none⟩ (.int .i64 t136)).setCell ⟨gb134, 0, none⟩ (.int .i64 t135)).setCell ⟨gb134, 1, none⟩ (.int .i64 t136)) = w59 at n0_ n1_ n2_ n3_ ⊢
                        have BK129 := n0_
                        have BK134 := n1_
                        have BK137 := n2_
                        have HB := n3_
                        clear n0_ n1_ n2_ n3_
                        have n0_ := Aside0.mk (blk_drew BK129.out)
                        have n1_ := Aside0.mk (blk_drew BK134.out)
                        have n2_ := Aside0.mk (blk_drew BK137.out)
                        have n3_ := Aside0.mk (below_drew1 HB.out)
                        clear BK129
                        clear BK134
                        clear BK137
                        clear HB
                        have BK129 := n0_
                        have BK134 := n1_
                        have BK137 := n2_
                        have HB := n3_
                        clear n0_ n1_ n2_ n3_
                        refine start_ (n := 5) (S := fun w' => w'.cell? ⟨gb134, 0, none⟩ = some (.int .i64 t135) ∧ w'.cell? ⟨gb134, 1, none⟩ = some (.int .i64 t136)) (ds := []) #[false, false, false, false, false] (by kernel_rfl) rfl rfl ⟨(blk_cell BK134.out 0).trans rfl, (blk_cell BK134.out 1).trans rfl⟩ (fun hHeld => ?_)
                        generalize w59.drew = w60 at BK129 BK134 BK137 HB hHeld ⊢
                        refine pure_ (i := 0) (N := some 100) (v := ?_) (a' := ?_) #[true, false, false, false, false] rfl rfl (by kernel_rfl) (fun _ _ _ h => h) (Or.inl ⟨by rfl, ?_⟩) ?_ ?_
                        rotate_left
                        · intro w'
                          go_simp
                          with_reducible rfl
                        rotate_left
                        · simp only [Act.put, List.setIfInBounds_toArray, List.set_cons_zero, List.set_cons_succ, i64_w, i32_w]
                          rfl
                        refine pure_ (i := 2) (N := some 6) (v := ?_) (a' := ?_) #[true, false, true, false, false] rfl rfl (by kernel_rfl) (fun _ _ _ h => h) (Or.inl ⟨by rfl, ?_⟩) ?_ ?_
                        rotate_left
                        · intro w'
                          go_simp
                          with_reducible rfl
                        rotate_left
                        · simp only [Act.put, List.setIfInBounds_toArray, List.set_cons_zero, List.set_cons_succ, i64_w, i32_w]
                          rfl
                        refine take_ (i := 1) (N := some 101) (v := ?_) (a' := ?_) #[true, true, true, false, false] rfl rfl (by kernel_rfl) (fun _ _ _ h => h) (Or.inl ⟨by rfl, ?_⟩) hHeld ?_ ?_
                        rotate_left
                        · rintro w' ⟨s0, s1⟩
                          go_simp
                          with_reducible rfl
                        rotate_left
                        · simp only [Act.put, List.setIfInBounds_toArray, List.set_cons_zero, List.set_cons_succ, i64_w, i32_w]
                          rfl
                        refine one_ (i := 3) (N := none) #[true, true, true, true, false] rfl rfl (by kernel_rfl) (by decide) (fun K hK => ?_)
                        have hs61 : w60.cell? ⟨gb129, 0, none⟩ = some (.int .i64 x130000_3) := (blk_cell BK129.out 0).trans rfl
                        have hfs61 := blk_frozen BK129.out 0
                        have hns61_1 := NB134_129.out
                        have hns61_2 := NB137_129.out
                        have hms61_1 := NB129_134.out
                        have hms61_2 := NB129_137.out
                        have hs62 : w60.cell? ⟨gb129, 1, none⟩ = some (.int .i64 x130001_3) := (blk_cell BK129.out 1).trans rfl
                        have hfs62 := blk_frozen BK129.out 1
                        have hns62_1 := NB134_129.out
                        have hns62_2 := NB137_129.out
                        have hms62_1 := NB129_134.out
                        have hms62_2 := NB129_137.out
                        refine skip_ (w1 := ?_) (by rfl) rfl ?_ ?_
                        rotate_left
                        · go_simp
                          rfl
                        refine hK.out _ _ ⟨((cell_far (p := ⟨gb129, _, none⟩) NB134_129.out _).trans (((cell_far (p := ⟨gb129, _, none⟩) NB134_129.out _).trans (hHeld.1)))), ((cell_far (p := ⟨gb129, _, none⟩) NB134_129.out _).trans (((cell_far (p := ⟨gb129, _, none⟩) NB134_129.out _).trans (hHeld.2))))⟩ (fun hHeld => ?_)
                        clear hK K
                        refine pure_ (i := 4) (N := some 8) (v := ?_) (a' := ?_) #[true, true, true, true, true] rfl rfl (by kernel_rfl) (fun _ _ _ h => h) (Or.inl ⟨by rfl, ?_⟩) ?_ ?_
                        rotate_left
                        · intro w'
                          go_simp
                          with_reducible rfl
                        rotate_left
                        · simp only [Act.put, List.setIfInBounds_toArray, List.set_cons_zero, List.set_cons_succ, i64_w, i32_w]
                          rfl
                        refine done_ (by kernel_rfl) ?_
                        try go_wp2
                        refine bodyPost_ret (results_list (rs := [.tmp 6, .cell 7 27, .tmp 8]) rfl (by simp) (.tmp (.cell gb129 27 #[.int .i64 t135, .int .i64 t136] (0, 0) _ rfl (by (with_reducible repeat (first | refine blk_drewN ?_ _ | refine blk_drew ?_ | refine blk_alloc ?_ _)); refine blk_put (cs := #[.int .i64 t135, .int .i64 x130001_3]) ?_ 1 _ rfl; (with_reducible repeat (first | refine blk_drewN ?_ _ | refine blk_drew ?_ | refine blk_alloc ?_ _)); refine blk_put (cs := #[.int .i64 x130000_3, .int .i64 x130001_3]) ?_ 0 _ rfl; (with_reducible repeat (first | refine blk_drewN ?_ _ | refine blk_drew ?_ | refine blk_alloc ?_ _)); exact BK129.out) Tryd.underlying27 rfl (by kernel_rfl) (.tmp .nil)))) rfl ?_
                        exact ⟨by first | rfl | (simp [errW_none, errW_some] <;> rfl) | (simp [*, errW_none, errW_some] <;> rfl), by repeat (first | (with_reducible first | exact HB.out | apply below_alloc | apply pw_below_drewN | apply below_drew1 | refine below_set ?_ GE129.out | refine below_set ?_ GE134.out | refine below_set ?_ GE137.out) | exact HB.out)⟩
                      · rw [if_neg c49] at H
                        have c49b0 : decide (t135 < t136) = false := decide_eq_false c49
                        clear c49
                        simp only [Option.some.injEq, Prod.mk.injEq] at H
                        obtain ⟨rfl, rfl, rfl, rfl⟩ := H
                        try go_wp2_with (first | ((with_reducible refine gate_dst (N := 12) rfl ?_); (try (refine gate_guard (by rfl) ?_; dsimp only)); refine box_event ?hg (N := 12) ?hd (cs := #[.int .i64 0, .int .i64 0]) (t := 27) ?hr ?_; (case hd => rfl); (case hg => rfl); (case hr => first | (go_simp; done) | (go_simp; rfl)); intro gb134 hg w63 hbox hb; have n0_ := Aside0.mk (blk_below (g := gb129) (o := .cells #[.int .i64 x130000_3, .int .i64 x130001_3] 27 (0, 0)) (by (with_reducible repeat (first | refine blk_drewN ?_ _ | refine blk_drew ?_ | refine blk_alloc ?_ _)); exact BK129.out) hb); have n1_ := Aside0.mk (below_step (by repeat (first | (with_reducible first | exact HB.out | apply below_alloc | apply pw_below_drewN | apply below_drew1 | refine below_set ?_ GE129.out) | exact HB.out)) hb); have n2_ := Aside0.mk (hbox); have n3_ := Aside0.mk ((by rw [hg]; exact (below_size (by repeat (first | (with_reducible first | exact HB.out | apply below_alloc | apply pw_below_drewN | apply below_drew1 | refine below_set ?_ GE129.out) | exact HB.out))) : w.heap.size ≤ gb134)); have n4_ := Aside0.mk ((by rw [hg]; exact (below_size (by repeat (first | (with_reducible first | exact HB.out | apply below_alloc | apply pw_below_drewN | apply below_drew1 | refine below_set ?_ GE129.out) | exact HB.out))) : w.heap.size ≤ gb134)); have n5_ := Aside0.mk ((by rw [hg]; exact Nat.ne_of_lt (blk_lt (g := gb129) (o := .cells #[.int .i64 x130000_3, .int .i64 x130001_3] 27 (0, 0)) (by (with_reducible repeat (first | refine blk_drewN ?_ _ | refine blk_drew ?_ | refine blk_alloc ?_ _)); exact BK129.out)) : gb129 ≠ gb134)); have n6_ := Aside0.mk ((by rw [hg]; exact Nat.ne_of_gt (blk_lt (g := gb129) (o := .cells #[.int .i64 x130000_3, .int .i64 x130001_3] 27 (0, 0)) (by (with_reducible repeat (first | refine blk_drewN ?_ _ | refine blk_drew ?_ | refine blk_alloc ?_ _)); exact BK129.out)) : gb134 ≠ gb129)); clear BK129; clear HB; have BK129 := n0_; have HB := n1_; have BK134 := n2_; have GW134 := n3_; have GE134 := n4_; have NB129_134 := n5_; have NB134_129 := n6_; clear n0_ n1_ n2_ n3_ n4_ n5_ n6_; clear hb hbox hg; have hnb64 := NB134_129.out; have hnc64 := NB129_134.out; have hcz65_0 : w63.cell? ⟨gb134, 0, none⟩ = some (.int .i64 0) := (blk_cell BK134.out 0).trans rfl; have hcz65_1 : w63.cell? ⟨gb134, 1, none⟩ = some (.int .i64 0) := (blk_cell BK134.out 1).trans rfl; have hfz65_0 := blk_frozen BK134.out 0; have hfz65_1 := blk_frozen BK134.out 1) | ((with_reducible refine gate_callee (f := 33) rfl ?_); refine goesL_ (some 93) rfl rfl Tryd.func33 (by kernel_rfl) rfl #[.string a0, .agg #[.int .i64 (wrap64 (x9_5 + 1)), .int .i64 a2]] rfl (by (try simp only [List.map_toArray, List.map_cons, List.map_nil]); first | done | rfl | (simp only [List.length_drop, List.length_take]; rfl)) ?_; (with_reducible refine (entrepotref03_trimmed.calls k3 a0 (wrap64 (x9_5 + 1)) a2 t135 t136 _ A48.out).mono ?_); rintro e w66 ⟨rfl, hb⟩; refine ⟨_, rfl, ?_⟩; have n0_ := Aside0.mk (blk_below (g := gb129) (o := .cells #[.int .i64 x130000_3, .int .i64 x130001_3] 27 (0, 0)) (by (with_reducible repeat (first | refine blk_drewN ?_ _ | refine blk_drew ?_ | refine blk_alloc ?_ _)); refine blk_far ?_ NB129_134.out _; (with_reducible repeat (first | refine blk_drewN ?_ _ | refine blk_drew ?_ | refine blk_alloc ?_ _)); refine blk_far ?_ NB129_134.out _; (with_reducible repeat (first | refine blk_drewN ?_ _ | refine blk_drew ?_ | refine blk_alloc ?_ _)); exact BK129.out) hb); have n1_ := Aside0.mk (blk_below (g := gb134) (o := .cells #[.int .i64 a2, .int .i64 a2] 27 (0, 0)) (by (with_reducible repeat (first | refine blk_drewN ?_ _ | refine blk_drew ?_ | refine blk_alloc ?_ _)); refine blk_put (cs := #[.int .i64 a2, .int .i64 0]) ?_ 1 _ rfl; (with_reducible repeat (first | refine blk_drewN ?_ _ | refine blk_drew ?_ | refine blk_alloc ?_ _)); refine blk_put (cs := #[.int .i64 0, .int .i64 0]) ?_ 0 _ rfl; (with_reducible repeat (first | refine blk_drewN ?_ _ | refine blk_drew ?_ | refine blk_alloc ?_ _)); exact BK134.out) hb); have n2_ := Aside0.mk (below_step (by repeat (first | (with_reducible first | exact HB.out | apply below_alloc | apply pw_below_drewN | apply below_drew1 | refine below_set ?_ GE129.out | refine below_set ?_ GE134.out) | exact HB.out)) hb); clear BK129; clear BK134; clear HB; have BK129 := n0_; have BK134 := n1_; have HB := n2_; clear n0_ n1_ n2_; (try clear hb); (try clear hb2); (try clear hk); (try clear hi)) | ((with_reducible refine gate_dst (N := 13) rfl ?_); (try (refine gate_guard (by rfl) ?_; dsimp only)); refine box_event ?hg (N := 13) ?hd (cs := #[.int .i64 0, .int .i64 0]) (t := 27) ?hr ?_; (case hd => rfl); (case hg => rfl); (case hr => first | (go_simp; done) | (go_simp; rfl)); intro gb137 hg w67 hbox hb; have n0_ := Aside0.mk (blk_below (g := gb129) (o := .cells #[.int .i64 x130000_3, .int .i64 x130001_3] 27 (0, 0)) (by (with_reducible repeat (first | refine blk_drewN ?_ _ | refine blk_drew ?_ | refine blk_alloc ?_ _)); exact BK129.out) hb); have n1_ := Aside0.mk (blk_below (g := gb134) (o := .cells #[.int .i64 a2, .int .i64 a2] 27 (0, 0)) (by (with_reducible repeat (first | refine blk_drewN ?_ _ | refine blk_drew ?_ | refine blk_alloc ?_ _)); exact BK134.out) hb); have n2_ := Aside0.mk (below_step (by repeat (first | (with_reducible first | exact HB.out | apply below_alloc | apply pw_below_drewN | apply below_drew1 | refine below_set ?_ GE129.out | refine below_set ?_ GE134.out) | exact HB.out)) hb); have n3_ := Aside0.mk (hbox); have n4_ := Aside0.mk ((by rw [hg]; exact (below_size (by repeat (first | (with_reducible first | exact HB.out | apply below_alloc | apply pw_below_drewN | apply below_drew1 | refine below_set ?_ GE129.out | refine below_set ?_ GE134.out) | exact HB.out))) : w.heap.size ≤ gb137)); have n5_ := Aside0.mk ((by rw [hg]; exact (below_size (by repeat (first | (with_reducible first | exact HB.out | apply below_alloc | apply pw_below_drewN | apply below_drew1 | refine below_set ?_ GE129.out | refine below_set ?_ GE134.out) | exact HB.out))) : w.heap.size ≤ gb137)); have n6_ := Aside0.mk ((by rw [hg]; exact Nat.ne_of_lt (blk_lt (g := gb129) (o := .cells #[.int .i64 x130000_3, .int .i64 x130001_3] 27 (0, 0)) (by (with_reducible repeat (first | refine blk_drewN ?_ _ | refine blk_drew ?_ | refine blk_alloc ?_ _)); exact BK129.out)) : gb129 ≠ gb137)); have n7_ := Aside0.mk ((by rw [hg]; exact Nat.ne_of_gt (blk_lt (g := gb129) (o := .cells #[.int .i64 x130000_3, .int .i64 x130001_3] 27 (0, 0)) (by (with_reducible repeat (first | refine blk_drewN ?_ _ | refine blk_drew ?_ | refine blk_alloc ?_ _)); exact BK129.out)) : gb137 ≠ gb129)); have n8_ := Aside0.mk ((by rw [hg]; exact Nat.ne_of_lt (blk_lt (g := gb134) (o := .cells #[.int .i64 a2, .int .i64 a2] 27 (0, 0)) (by (with_reducible repeat (first | refine blk_drewN ?_ _ | refine blk_drew ?_ | refine blk_alloc ?_ _)); exact BK134.out)) : gb134 ≠ gb137)); have n9_ := Aside0.mk ((by rw [hg]; exact Nat.ne_of_gt (blk_lt (g := gb134) (o := .cells #[.int .i64 a2, .int .i64 a2] 27 (0, 0)) (by (with_reducible repeat (first | refine blk_drewN ?_ _ | refine blk_drew ?_ | refine blk_alloc ?_ _)); exact BK134.out)) : gb137 ≠ gb134)); clear BK129; clear BK134; clear HB; have BK129 := n0_; have BK134 := n1_; have HB := n2_; have BK137 := n3_; have GW137 := n4_; have GE137 := n5_; have NB129_137 := n6_; have NB137_129 := n7_; have NB134_137 := n8_; have NB137_134 := n9_; clear n0_ n1_ n2_ n3_ n4_ n5_ n6_ n7_ n8_ n9_; clear hb hbox hg; have hnb68 := NB137_129.out; have hnc68 := NB129_137.out; have hnb69 := NB137_134.out; have hnc69 := NB134_137.out; have hcz70_0 : w67.cell? ⟨gb137, 0, none⟩ = some (.int .i64 0) := (blk_cell BK137.out 0).trans rfl; have hcz70_1 : w67.cell? ⟨gb137, 1, none⟩ = some (.int .i64 0) := (blk_cell BK137.out 1).trans rfl; have hfz70_0 := blk_frozen BK137.out 0; have hfz70_1 := blk_frozen BK137.out 1))
                        have n0_ : Aside0 (((w67.setCell ⟨gb137, 0, none⟩ (.int .i64 t135)).setCell ⟨gb137, 1, none⟩ (.int .i64 t136)).heap[gb129]? = some (.cells #[.int .i64 x130000_3, .int .i64 x130001_3] 27 (0, 0))) := ⟨by (with_reducible repeat (first | refine blk_drewN ?_ _ | refine blk_drew ?_ | refine blk_alloc ?_ _)); refine blk_far ?_ NB129_137.out _; (with_reducible repeat (first | refine blk_drewN ?_ _ | refine blk_drew ?_ | refine blk_alloc ?_ _)); refine blk_far ?_ NB129_137.out _; (with_reducible repeat (first | refine blk_drewN ?_ _ | refine blk_drew ?_ | refine blk_alloc ?_ _)); exact BK129.out⟩
                        have n1_ : Aside0 (((w67.setCell ⟨gb137, 0, none⟩ (.int .i64 t135)).setCell ⟨gb137, 1, none⟩ (.int .i64 t136)).heap[gb134]? = some (.cells #[.int .i64 a2, .int .i64 a2] 27 (0, 0))) := ⟨by (with_reducible repeat (first | refine blk_drewN ?_ _ | refine blk_drew ?_ | refine blk_alloc ?_ _)); refine blk_far ?_ NB134_137.out _; (with_reducible repeat (first | refine blk_drewN ?_ _ | refine blk_drew ?_ | refine blk_alloc ?_ _)); refine blk_far ?_ NB134_137.out _; (with_reducible repeat (first | refine blk_drewN ?_ _ | refine blk_drew ?_ | refine blk_alloc ?_ _)); exact BK134.out⟩
                        have n2_ : Aside0 (((w67.setCell ⟨gb137, 0, none⟩ (.int .i64 t135)).setCell ⟨gb137, 1, none⟩ (.int .i64 t136)).heap[gb137]? = some (.cells #[.int .i64 t135, .int .i64 t136] 27 (0, 0))) := ⟨by (with_reducible repeat (first | refine blk_drewN ?_ _ | refine blk_drew ?_ | refine blk_alloc ?_ _)); refine blk_put (cs := #[.int .i64 t135, .int .i64 0]) ?_ 1 _ rfl; (with_reducible repeat (first | refine blk_drewN ?_ _ | refine blk_drew ?_ | refine blk_alloc ?_ _)); refine blk_put (cs := #[.int .i64 0, .int .i64 0]) ?_ 0 _ rfl; (with_reducible repeat (first | refine blk_drewN ?_ _ | refine blk_drew ?_ | refine blk_alloc ?_ _)); exact BK137.out⟩
                        have n3_ : Aside0 (Below w.heap.size w ((w67.setCell ⟨gb137, 0, none⟩ (.int .i64 t135)).setCell ⟨gb137, 1, none⟩ (.int .i64 t136))) := ⟨by repeat (first | (with_reducible first | exact HB.out | apply below_alloc | apply pw_below_drewN | apply below_drew1 | refine below_set ?_ GE129.out | refine below_set ?_ GE134.out | refine below_set ?_ GE137.out) | exact HB.out)⟩
                        (try clear BK129)
                        (try clear BK134)
                        (try clear BK137)
                        (try clear HB)
                        generalize ((w67.setCell ⟨gb137, 0, none⟩ (.int .i64 t135)).setCell ⟨gb137, 1, none⟩ (.int .i64 t136)) = w71 at n0_ n1_ n2_ n3_ ⊢
                        have BK129 := n0_
                        have BK134 := n1_
                        have BK137 := n2_
                        have HB := n3_
                        clear n0_ n1_ n2_ n3_
                        have n0_ := Aside0.mk (blk_drew BK129.out)
                        have n1_ := Aside0.mk (blk_drew BK134.out)
                        have n2_ := Aside0.mk (blk_drew BK137.out)
                        have n3_ := Aside0.mk (below_drew1 HB.out)
                        clear BK129
                        clear BK134
                        clear BK137
                        clear HB
                        have BK129 := n0_
                        have BK134 := n1_
                        have BK137 := n2_
                        have HB := n3_
                        clear n0_ n1_ n2_ n3_
                        refine start_ (n := 5) (S := fun w' => w'.cell? ⟨gb134, 0, none⟩ = some (.int .i64 a2) ∧ w'.cell? ⟨gb134, 1, none⟩ = some (.int .i64 a2)) (ds := []) #[false, false, false, false, false] (by kernel_rfl) rfl rfl ⟨(blk_cell BK134.out 0).trans rfl, (blk_cell BK134.out 1).trans rfl⟩ (fun hHeld => ?_)
                        generalize w71.drew = w72 at BK129 BK134 BK137 HB hHeld ⊢
                        refine pure_ (i := 0) (N := some 100) (v := ?_) (a' := ?_) #[true, false, false, false, false] rfl rfl (by kernel_rfl) (fun _ _ _ h => h) (Or.inl ⟨by rfl, ?_⟩) ?_ ?_
                        rotate_left
                        · intro w'
                          go_simp
                          with_reducible rfl
                        rotate_left
                        · simp only [Act.put, List.setIfInBounds_toArray, List.set_cons_zero, List.set_cons_succ, i64_w, i32_w]
                          rfl
                        refine pure_ (i := 2) (N := some 6) (v := ?_) (a' := ?_) #[true, false, true, false, false] rfl rfl (by kernel_rfl) (fun _ _ _ h => h) (Or.inl ⟨by rfl, ?_⟩) ?_ ?_
                        rotate_left
                        · intro w'
                          go_simp
                          with_reducible rfl
                        rotate_left
                        · simp only [Act.put, List.setIfInBounds_toArray, List.set_cons_zero, List.set_cons_succ, i64_w, i32_w]
                          rfl
                        refine take_ (i := 1) (N := some 101) (v := ?_) (a' := ?_) #[true, true, true, false, false] rfl rfl (by kernel_rfl) (fun _ _ _ h => h) (Or.inl ⟨by rfl, ?_⟩) hHeld ?_ ?_
                        rotate_left
                        · rintro w' ⟨s0, s1⟩
                          go_simp
                          with_reducible rfl
                        rotate_left
                        · simp only [Act.put, List.setIfInBounds_toArray, List.set_cons_zero, List.set_cons_succ, i64_w, i32_w]
                          rfl
                        refine one_ (i := 3) (N := none) #[true, true, true, true, false] rfl rfl (by kernel_rfl) (by decide) (fun K hK => ?_)
                        have hs73 : w72.cell? ⟨gb129, 0, none⟩ = some (.int .i64 x130000_3) := (blk_cell BK129.out 0).trans rfl
                        have hfs73 := blk_frozen BK129.out 0
                        have hns73_1 := NB134_129.out
                        have hns73_2 := NB137_129.out
                        have hms73_1 := NB129_134.out
                        have hms73_2 := NB129_137.out
                        have hs74 : w72.cell? ⟨gb129, 1, none⟩ = some (.int .i64 x130001_3) := (blk_cell BK129.out 1).trans rfl
                        have hfs74 := blk_frozen BK129.out 1
                        have hns74_1 := NB134_129.out
                        have hns74_2 := NB137_129.out
                        have hms74_1 := NB129_134.out
                        have hms74_2 := NB129_137.out
                        refine skip_ (w1 := ?_) (by rfl) rfl ?_ ?_
                        rotate_left
                        · go_simp
                          rfl
                        refine hK.out _ _ ⟨((cell_far (p := ⟨gb129, _, none⟩) NB134_129.out _).trans (((cell_far (p := ⟨gb129, _, none⟩) NB134_129.out _).trans (hHeld.1)))), ((cell_far (p := ⟨gb129, _, none⟩) NB134_129.out _).trans (((cell_far (p := ⟨gb129, _, none⟩) NB134_129.out _).trans (hHeld.2))))⟩ (fun hHeld => ?_)
                        clear hK K
                        refine pure_ (i := 4) (N := some 8) (v := ?_) (a' := ?_) #[true, true, true, true, true] rfl rfl (by kernel_rfl) (fun _ _ _ h => h) (Or.inl ⟨by rfl, ?_⟩) ?_ ?_
                        rotate_left
                        · intro w'
                          go_simp
                          with_reducible rfl
                        rotate_left
                        · simp only [Act.put, List.setIfInBounds_toArray, List.set_cons_zero, List.set_cons_succ, i64_w, i32_w]
                          rfl
                        refine done_ (by kernel_rfl) ?_
                        try go_wp2
                        refine bodyPost_ret (results_list (rs := [.tmp 6, .cell 7 27, .tmp 8]) rfl (by simp) (.tmp (.cell gb129 27 #[.int .i64 a2, .int .i64 a2] (0, 0) _ rfl (by (with_reducible repeat (first | refine blk_drewN ?_ _ | refine blk_drew ?_ | refine blk_alloc ?_ _)); refine blk_put (cs := #[.int .i64 a2, .int .i64 x130001_3]) ?_ 1 _ rfl; (with_reducible repeat (first | refine blk_drewN ?_ _ | refine blk_drew ?_ | refine blk_alloc ?_ _)); refine blk_put (cs := #[.int .i64 x130000_3, .int .i64 x130001_3]) ?_ 0 _ rfl; (with_reducible repeat (first | refine blk_drewN ?_ _ | refine blk_drew ?_ | refine blk_alloc ?_ _)); exact BK129.out) Tryd.underlying27 rfl (by kernel_rfl) (.tmp .nil)))) rfl ?_
                        exact ⟨by first | rfl | (simp [errW_none, errW_some] <;> rfl) | (simp [*, errW_none, errW_some] <;> rfl), by repeat (first | (with_reducible first | exact HB.out | apply below_alloc | apply pw_below_drewN | apply below_drew1 | refine below_set ?_ GE129.out | refine below_set ?_ GE134.out | refine below_set ?_ GE137.out) | exact HB.out)⟩
                    · rw [if_neg c47] at H
                      have c47b0 : decide (x9_5 < a2) = false := decide_eq_false c47
                      clear c47
                      simp only [Option.some.injEq, Prod.mk.injEq] at H
                      obtain ⟨rfl, rfl, rfl, rfl⟩ := H
                      try go_wp2_with (first | ((with_reducible refine gate_dst (N := 12) rfl ?_); (try (refine gate_guard (by rfl) ?_; dsimp only)); refine box_event ?hg (N := 12) ?hd (cs := #[.int .i64 0, .int .i64 0]) (t := 27) ?hr ?_; (case hd => rfl); (case hg => rfl); (case hr => first | (go_simp; done) | (go_simp; rfl)); intro gb134 hg w75 hbox hb; have n0_ := Aside0.mk (blk_below (g := gb129) (o := .cells #[.int .i64 x130000_3, .int .i64 x130001_3] 27 (0, 0)) (by (with_reducible repeat (first | refine blk_drewN ?_ _ | refine blk_drew ?_ | refine blk_alloc ?_ _)); exact BK129.out) hb); have n1_ := Aside0.mk (below_step (by repeat (first | (with_reducible first | exact HB.out | apply below_alloc | apply pw_below_drewN | apply below_drew1 | refine below_set ?_ GE129.out) | exact HB.out)) hb); have n2_ := Aside0.mk (hbox); have n3_ := Aside0.mk ((by rw [hg]; exact (below_size (by repeat (first | (with_reducible first | exact HB.out | apply below_alloc | apply pw_below_drewN | apply below_drew1 | refine below_set ?_ GE129.out) | exact HB.out))) : w.heap.size ≤ gb134)); have n4_ := Aside0.mk ((by rw [hg]; exact (below_size (by repeat (first | (with_reducible first | exact HB.out | apply below_alloc | apply pw_below_drewN | apply below_drew1 | refine below_set ?_ GE129.out) | exact HB.out))) : w.heap.size ≤ gb134)); have n5_ := Aside0.mk ((by rw [hg]; exact Nat.ne_of_lt (blk_lt (g := gb129) (o := .cells #[.int .i64 x130000_3, .int .i64 x130001_3] 27 (0, 0)) (by (with_reducible repeat (first | refine blk_drewN ?_ _ | refine blk_drew ?_ | refine blk_alloc ?_ _)); exact BK129.out)) : gb129 ≠ gb134)); have n6_ := Aside0.mk ((by rw [hg]; exact Nat.ne_of_gt (blk_lt (g := gb129) (o := .cells #[.int .i64 x130000_3, .int .i64 x130001_3] 27 (0, 0)) (by (with_reducible repeat (first | refine blk_drewN ?_ _ | refine blk_drew ?_ | refine blk_alloc ?_ _)); exact BK129.out)) : gb134 ≠ gb129)); clear BK129; clear HB; have BK129 := n0_; have HB := n1_; have BK134 := n2_; have GW134 := n3_; have GE134 := n4_; have NB129_134 := n5_; have NB134_129 := n6_; clear n0_ n1_ n2_ n3_ n4_ n5_ n6_; clear hb hbox hg; have hnb76 := NB134_129.out; have hnc76 := NB129_134.out; have hcz77_0 : w75.cell? ⟨gb134, 0, none⟩ = some (.int .i64 0) := (blk_cell BK134.out 0).trans rfl; have hcz77_1 : w75.cell? ⟨gb134, 1, none⟩ = some (.int .i64 0) := (blk_cell BK134.out 1).trans rfl; have hfz77_0 := blk_frozen BK134.out 0; have hfz77_1 := blk_frozen BK134.out 1))
                      have n0_ : Aside0 (((w75.setCell ⟨gb134, 0, none⟩ (.int .i64 a2)).setCell ⟨gb134, 1, none⟩ (.int .i64 a2)).heap[gb129]? = some (.cells #[.int .i64 x130000_3, .int .i64 x130001_3] 27 (0, 0))) := ⟨by (with_reducible repeat (first | refine blk_drewN ?_ _ | refine blk_drew ?_ | refine blk_alloc ?_ _)); refine blk_far ?_ NB129_134.out _; (with_reducible repeat (first | refine blk_drewN ?_ _ | refine blk_drew ?_ | refine blk_alloc ?_ _)); refine blk_far ?_ NB129_134.out _; (with_reducible repeat (first | refine blk_drewN ?_ _ | refine blk_drew ?_ | refine blk_alloc ?_ _)); exact BK129.out⟩
                      have n1_ : Aside0 (((w75.setCell ⟨gb134, 0, none⟩ (.int .i64 a2)).setCell ⟨gb134, 1, none⟩ (.int .i64 a2)).heap[gb134]? = some (.cells #[.int .i64 a2, .int .i64 a2] 27 (0, 0))) := ⟨by (with_reducible repeat (first | refine blk_drewN ?_ _ | refine blk_drew ?_ | refine blk_alloc ?_ _)); refine blk_put (cs := #[.int .i64 a2, .int .i64 0]) ?_ 1 _ rfl; (with_reducible repeat (first | refine blk_drewN ?_ _ | refine blk_drew ?_ | refine blk_alloc ?_ _)); refine blk_put (cs := #[.int .i64 0, .int .i64 0]) ?_ 0 _ rfl; (with_reducible repeat (first | refine blk_drewN ?_ _ | refine blk_drew ?_ | refine blk_alloc ?_ _)); exact BK134.out⟩
                      have n2_ : Aside0 (Below w.heap.size w ((w75.setCell ⟨gb134, 0, none⟩ (.int .i64 a2)).setCell ⟨gb134, 1, none⟩ (.int .i64 a2))) := ⟨by repeat (first | (with_reducible first | exact HB.out | apply below_alloc | apply pw_below_drewN | apply below_drew1 | refine below_set ?_ GE129.out | refine below_set ?_ GE134.out) | exact HB.out)⟩
                      (try clear BK129)
                      (try clear BK134)
                      (try clear HB)
                      generalize ((w75.setCell ⟨gb134, 0, none⟩ (.int .i64 a2)).setCell ⟨gb134, 1, none⟩ (.int .i64 a2)) = w78 at n0_ n1_ n2_ ⊢
                      have BK129 := n0_
                      have BK134 := n1_
                      have HB := n2_
                      clear n0_ n1_ n2_
                      have n0_ := Aside0.mk (blk_drew BK129.out)
                      have n1_ := Aside0.mk (blk_drew BK134.out)
                      have n2_ := Aside0.mk (below_drew1 HB.out)
                      clear BK129
                      clear BK134
                      clear HB
                      have BK129 := n0_
                      have BK134 := n1_
                      have HB := n2_
                      clear n0_ n1_ n2_
                      refine start_ (n := 5) (S := fun w' => w'.cell? ⟨gb134, 0, none⟩ = some (.int .i64 a2) ∧ w'.cell? ⟨gb134, 1, none⟩ = some (.int .i64 a2)) (ds := []) #[false, false, false, false, false] (by kernel_rfl) rfl rfl ⟨(blk_cell BK134.out 0).trans rfl, (blk_cell BK134.out 1).trans rfl⟩ (fun hHeld => ?_)
                      generalize w78.drew = w79 at BK129 BK134 HB hHeld ⊢
                      refine pure_ (i := 0) (N := some 100) (v := ?_) (a' := ?_) #[true, false, false, false, false] rfl rfl (by kernel_rfl) (fun _ _ _ h => h) (Or.inl ⟨by rfl, ?_⟩) ?_ ?_
                      rotate_left
                      · intro w'
                        go_simp
                        with_reducible rfl
                      rotate_left
                      · simp only [Act.put, List.setIfInBounds_toArray, List.set_cons_zero, List.set_cons_succ, i64_w, i32_w]
                        rfl
                      refine pure_ (i := 2) (N := some 6) (v := ?_) (a' := ?_) #[true, false, true, false, false] rfl rfl (by kernel_rfl) (fun _ _ _ h => h) (Or.inl ⟨by rfl, ?_⟩) ?_ ?_
                      rotate_left
                      · intro w'
                        go_simp
                        with_reducible rfl
                      rotate_left
                      · simp only [Act.put, List.setIfInBounds_toArray, List.set_cons_zero, List.set_cons_succ, i64_w, i32_w]
                        rfl
                      refine take_ (i := 1) (N := some 101) (v := ?_) (a' := ?_) #[true, true, true, false, false] rfl rfl (by kernel_rfl) (fun _ _ _ h => h) (Or.inl ⟨by rfl, ?_⟩) hHeld ?_ ?_
                      rotate_left
                      · rintro w' ⟨s0, s1⟩
                        go_simp
                        with_reducible rfl
                      rotate_left
                      · simp only [Act.put, List.setIfInBounds_toArray, List.set_cons_zero, List.set_cons_succ, i64_w, i32_w]
                        rfl
                      refine one_ (i := 3) (N := none) #[true, true, true, true, false] rfl rfl (by kernel_rfl) (by decide) (fun K hK => ?_)
                      have hs80 : w79.cell? ⟨gb129, 0, none⟩ = some (.int .i64 x130000_3) := (blk_cell BK129.out 0).trans rfl
                      have hfs80 := blk_frozen BK129.out 0
                      have hns80_1 := NB134_129.out
                      have hms80_1 := NB129_134.out
                      have hs81 : w79.cell? ⟨gb129, 1, none⟩ = some (.int .i64 x130001_3) := (blk_cell BK129.out 1).trans rfl
                      have hfs81 := blk_frozen BK129.out 1
                      have hns81_1 := NB134_129.out
                      have hms81_1 := NB129_134.out
                      refine skip_ (w1 := ?_) (by rfl) rfl ?_ ?_
                      rotate_left
                      · go_simp
                        rfl
                      refine hK.out _ _ ⟨((cell_far (p := ⟨gb129, _, none⟩) NB134_129.out _).trans (((cell_far (p := ⟨gb129, _, none⟩) NB134_129.out _).trans (hHeld.1)))), ((cell_far (p := ⟨gb129, _, none⟩) NB134_129.out _).trans (((cell_far (p := ⟨gb129, _, none⟩) NB134_129.out _).trans (hHeld.2))))⟩ (fun hHeld => ?_)
                      clear hK K
                      refine pure_ (i := 4) (N := some 8) (v := ?_) (a' := ?_) #[true, true, true, true, true] rfl rfl (by kernel_rfl) (fun _ _ _ h => h) (Or.inl ⟨by rfl, ?_⟩) ?_ ?_
                      rotate_left
                      · intro w'
                        go_simp
                        with_reducible rfl
                      rotate_left
                      · simp only [Act.put, List.setIfInBounds_toArray, List.set_cons_zero, List.set_cons_succ, i64_w, i32_w]
                        rfl
                      refine done_ (by kernel_rfl) ?_
                      try go_wp2
                      refine bodyPost_ret (results_list (rs := [.tmp 6, .cell 7 27, .tmp 8]) rfl (by simp) (.tmp (.cell gb129 27 #[.int .i64 a2, .int .i64 a2] (0, 0) _ rfl (by (with_reducible repeat (first | refine blk_drewN ?_ _ | refine blk_drew ?_ | refine blk_alloc ?_ _)); refine blk_put (cs := #[.int .i64 a2, .int .i64 x130001_3]) ?_ 1 _ rfl; (with_reducible repeat (first | refine blk_drewN ?_ _ | refine blk_drew ?_ | refine blk_alloc ?_ _)); refine blk_put (cs := #[.int .i64 x130000_3, .int .i64 x130001_3]) ?_ 0 _ rfl; (with_reducible repeat (first | refine blk_drewN ?_ _ | refine blk_drew ?_ | refine blk_alloc ?_ _)); exact BK129.out) Tryd.underlying27 rfl (by kernel_rfl) (.tmp .nil)))) rfl ?_
                      exact ⟨by first | rfl | (simp [errW_none, errW_some] <;> rfl) | (simp [*, errW_none, errW_some] <;> rfl), by repeat (first | (with_reducible first | exact HB.out | apply below_alloc | apply pw_below_drewN | apply below_drew1 | refine below_set ?_ GE129.out | refine below_set ?_ GE134.out) | exact HB.out)⟩
  · replace c5 := Bool.eq_false_iff.mpr c5
    subst c5
    have H1 : (some ((⟨#[]⟩ : ByteArray), 0, 0, false)) = some (r1, r2, r3, r4) := by rw [if_neg (show ¬ (false = true) by decide)] at H; exact H
    clear H
    have H := H1
    clear H1
    simp only [Option.some.injEq, Prod.mk.injEq] at H
    obtain ⟨rfl, rfl, rfl, rfl⟩ := H
    go_enter Tryd.func12, Tryd.ntmps12
    go_wp2_with (first | ((with_reducible refine gate_dst (N := 7) rfl ?_); (try (refine gate_guard (by rfl) ?_; dsimp only)); refine box_event ?hg (N := 7) ?hd (cs := #[.int .i64 0, .int .i64 0]) (t := 27) ?hr ?_; (case hd => rfl); (case hg => rfl); (case hr => first | (go_simp; done) | (go_simp; rfl)); intro gb129 hg w82 hbox hb; have n0_ := Aside0.mk (below_step (by repeat (first | (with_reducible first | exact HB.out | apply below_alloc | apply pw_below_drewN | apply below_drew1) | exact HB.out)) hb); have n1_ := Aside0.mk (hbox); have n2_ := Aside0.mk ((by rw [hg]; exact (below_size (by repeat (first | (with_reducible first | exact HB.out | apply below_alloc | apply pw_below_drewN | apply below_drew1) | exact HB.out))) : w.heap.size ≤ gb129)); have n3_ := Aside0.mk ((by rw [hg]; exact (below_size (by repeat (first | (with_reducible first | exact HB.out | apply below_alloc | apply pw_below_drewN | apply below_drew1) | exact HB.out))) : w.heap.size ≤ gb129)); clear HB; have HB := n0_; have BK129 := n1_; have GW129 := n2_; have GE129 := n3_; clear n0_ n1_ n2_ n3_; clear hb hbox hg) | ((with_reducible refine gate_callee (f := 32) rfl ?_); refine goesL_ (some 17) rfl rfl Tryd.func32 (by kernel_rfl) rfl #[.string a0, .int .i64 a1, .int .i64 a2] rfl (by (try simp only [List.map_toArray, List.map_cons, List.map_nil]); first | done | rfl | (simp only [List.length_drop, List.length_take]; rfl)) ?_; (with_reducible refine (entrepotref03_places.calls a0 a1 a2 false _ A4.out).mono ?_); rintro e w' ⟨rfl, ⟨nd, rfl⟩⟩; refine ⟨_, rfl, ?_⟩; (try (rw [drewN_self w82]; generalize hq_ : World.drewN w82 _ = w82; have n0_ : Aside0 (w82.heap[gb129]? = some (.cells #[.int .i64 0, .int .i64 0] 27 (0, 0))) := ⟨by rw [← hq_]; exact (by (with_reducible repeat (first | refine blk_drewN ?_ _ | refine blk_drew ?_ | refine blk_alloc ?_ _)); exact BK129.out)⟩; have n1_ : Aside0 (Below w.heap.size w w82) := ⟨by rw [← hq_]; exact (by repeat (first | (with_reducible first | exact HB.out | apply below_alloc | apply pw_below_drewN | apply below_drew1 | refine below_set ?_ GE129.out) | exact HB.out))⟩; clear BK129 HB hq_; have BK129 := n0_; have HB := n1_; clear n0_ n1_)); have hcz83_0 : w82.cell? ⟨gb129, 0, none⟩ = some (.int .i64 0) := (blk_cell BK129.out 0).trans rfl; have hcz83_1 : w82.cell? ⟨gb129, 1, none⟩ = some (.int .i64 0) := (blk_cell BK129.out 1).trans rfl; have hfz83_0 := blk_frozen BK129.out 0; have hfz83_1 := blk_frozen BK129.out 1))
    refine bodyPost_ret (results_list (rs := [.tmp 6, .cell 7 27, .tmp 8]) rfl (by simp) (.tmp (.cell gb129 27 #[.int .i64 0, .int .i64 0] (0, 0) _ rfl (by (with_reducible repeat (first | refine blk_drewN ?_ _ | refine blk_drew ?_ | refine blk_alloc ?_ _)); refine blk_put (cs := #[.int .i64 0, .int .i64 0]) ?_ 1 _ rfl; (with_reducible repeat (first | refine blk_drewN ?_ _ | refine blk_drew ?_ | refine blk_alloc ?_ _)); refine blk_put (cs := #[.int .i64 0, .int .i64 0]) ?_ 0 _ rfl; (with_reducible repeat (first | refine blk_drewN ?_ _ | refine blk_drew ?_ | refine blk_alloc ?_ _)); exact BK129.out) Tryd.underlying27 rfl (by kernel_rfl) (.tmp .nil)))) rfl ?_
    exact ⟨by first | rfl | (simp [errW_none, errW_some] <;> rfl) | (simp [*, errW_none, errW_some] <;> rfl), by repeat (first | (with_reducible first | exact HB.out | apply below_alloc | apply pw_below_drewN | apply below_drew1 | refine below_set ?_ GE129.out) | exact HB.out)⟩

end Go.Proofs.YtbbkchifbinioaaDoor.PAll
