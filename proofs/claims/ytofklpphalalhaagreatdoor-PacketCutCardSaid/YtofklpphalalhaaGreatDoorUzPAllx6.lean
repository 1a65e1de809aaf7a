/- A text of this claim, cut to what the claim uses. Conditions: each theorem's own. -/
import Derived.Test.YtofklpphalalhaaGreatDoorUzJ1
import Derived.Test.YtofklpphalalhaaGreatDoorUzPAllx4
import Derived.Test.YtofklpphalalhaaGreatDoorUzJ3
-- Written by a program out of the translation, for several roots at once (set All). Not trusted: Lean checks it.
namespace Go.Proofs.YtofklpphalalhaaGreatDoor.PAll
open Go.RowKit Go.Proofs.YtofklpphalalhaaGreatDoorW.PrintWords Go.Proofs.YtofklpphalalhaaGreatDoorW.PrintLast Go.Proofs.YtofklpphalalhaaGreatDoorW.PrintMore
attribute [local go_sem] min2_int min_two
set_option linter.unusedVariables false
set_option linter.unusedSimpArgs false
/-! ### entrepotref08_window: function 148 -/
def entrepotref08_window.j0 : Nat → Bool → Int → Int → Int → Int → Int → Int → Int → Option (Bool)
  | 0, _, _, _, _, _, _, _, _ => none
  | k + 1, x18, x117000, x117001, x117002, x117003, x117004, x117005, x117006 => if x18 = true then (if x117003 = 0 then (some (x117004 == 0)) else (some false)) else ((entrepotref08_number.f x117003).bind fun t117 => (if t117 = true then ((entrepotref08_number.f x117004).bind fun t118 => (if t118 = true then (some (decide (x117003 ≤ x117004))) else (some false))) else (some false)))
def entrepotref08_window.f (k : Nat) (a0_0 : ByteArray) (a0_1 : Int) (a0_2 : Int) (a0_3 : Int) (a0_4 : Int) (a0_5 : Int) (l0_6 : List (S128)) (l0_7 : List Int) (a1 : Int) : Option (Bool) := if 0 ≤ a1 then (if a1 < (l0_6.length : Int) then (if a0_1 = 1 then (entrepotref08_window.j0 k true ((rd_T128 l0_6 a1).f0) ((rd_T128 l0_6 a1).f1) ((rd_T128 l0_6 a1).f2) ((rd_T128 l0_6 a1).f3) ((rd_T128 l0_6 a1).f4) ((rd_T128 l0_6 a1).f5) ((rd_T128 l0_6 a1).f6)) else (entrepotref08_window.j0 k (a0_1 == 2) ((rd_T128 l0_6 a1).f0) ((rd_T128 l0_6 a1).f1) ((rd_T128 l0_6 a1).f2) ((rd_T128 l0_6 a1).f3) ((rd_T128 l0_6 a1).f4) ((rd_T128 l0_6 a1).f5) ((rd_T128 l0_6 a1).f6))) else (none)) else (none)
set_option maxHeartbeats 8000000 in
set_option maxRecDepth 100000 in
theorem entrepotref08_window.calls (k : Nat) (a0_0 : ByteArray) (a0_1 : Int) (a0_2 : Int) (a0_3 : Int) (a0_4 : Int) (a0_5 : Int) (A0_6 : Option Addr) (c0_6 : Nat) (l0_6 : List (S128)) (A0_7 : Option Addr) (c0_7 : Nat) (l0_7 : List Int) (a1 : Int) (r : Bool) (w : World) (hr0_6 : Kd.C k128 w A0_6 l0_6.length l0_6) (hc0_6 : l0_6.length ≤ c0_6) (hr0_7 : Kd.C (Kd.int .i64) w A0_7 l0_7.length l0_7) (hc0_7 : l0_7.length ≤ c0_7) (h : entrepotref08_window.f k a0_0 a0_1 a0_2 a0_3 a0_4 a0_5 l0_6 l0_7 a1 = some r) :
    Calls Tryz.prog 148 #[.agg #[.string a0_0, .int .i64 a0_1, .int .i64 a0_2, .int .i64 a0_3, .int .i64 a0_4, .int .i64 a0_5, .slice A0_6 l0_6.length c0_6, .slice A0_7 l0_7.length c0_7], .int .i64 a1] w fun e w' => e = .returned (.bool r) ∧ Below w.heap.size w w' := by
  have hu51 := Tryz.underlying51
  have hu128 := Tryz.underlying128
  have HR0_6 := Aside0.mk hr0_6
  have HC0_6 := Aside0.mk hc0_6
  clear hr0_6 hc0_6
  have HR0_7 := Aside0.mk hr0_7
  have HC0_7 := Aside0.mk hc0_7
  clear hr0_7 hc0_7
  have HB := Aside0.mk (Below.refl w.heap.size w)
  have H : (if 0 ≤ a1 then (if a1 < (l0_6.length : Int) then (if a0_1 = 1 then (entrepotref08_window.j0 k true ((rd_T128 l0_6 a1).f0) ((rd_T128 l0_6 a1).f1) ((rd_T128 l0_6 a1).f2) ((rd_T128 l0_6 a1).f3) ((rd_T128 l0_6 a1).f4) ((rd_T128 l0_6 a1).f5) ((rd_T128 l0_6 a1).f6)) else (entrepotref08_window.j0 k (a0_1 == 2) ((rd_T128 l0_6 a1).f0) ((rd_T128 l0_6 a1).f1) ((rd_T128 l0_6 a1).f2) ((rd_T128 l0_6 a1).f3) ((rd_T128 l0_6 a1).f4) ((rd_T128 l0_6 a1).f5) ((rd_T128 l0_6 a1).f6))) else (none)) else (none)) = some r := h
  clear h
  by_cases c3 : 0 ≤ a1
  · rw [if_pos c3] at H
    have c3b0 : decide (0 ≤ a1) = true := decide_eq_true c3
    clear c3
    by_cases c4 : a1 < (l0_6.length : Int)
    · rw [if_pos c4] at H
      have c4b0 : decide (a1 < (l0_6.length : Int)) = true := decide_eq_true c4
      clear c4
      have HC5 := Aside0.mk H
      clear H
      go_enter Tryz.func148, Tryz.ntmps148
      go_upto_region 2 with (first | ((with_reducible refine gate_dst (N := 2) rfl ?_); refine box_event ?hg (N := 2) ?hd (cs := #[.string a0_0, .int .i64 a0_1, .int .i64 a0_2, .int .i64 a0_3, .int .i64 a0_4, .int .i64 a0_5, .slice A0_6 l0_6.length c0_6, .slice A0_7 l0_7.length c0_7]) (t := 51) ?hr ?_; (case hd => rfl); (case hg => rfl); (case hr => first | (go_simp; done) | (go_simp; rfl)); intro gb114 hg w6 hbox hb; have n0_ := Aside0.mk (below_step (by repeat (first | (with_reducible first | exact HB.out | apply below_alloc | apply pw_below_drewN | apply below_drew1) | exact HB.out)) hb); have n1_ := Aside0.mk (hbox); have n2_ := Aside0.mk ((by rw [hg]; exact (below_size (by repeat (first | (with_reducible first | exact HB.out | apply below_alloc | apply pw_below_drewN | apply below_drew1) | exact HB.out))) : w.heap.size ≤ gb114)); have n3_ := Aside0.mk ((by rw [hg]; exact (below_size (by repeat (first | (with_reducible first | exact HB.out | apply below_alloc | apply pw_below_drewN | apply below_drew1) | exact HB.out))) : w.heap.size ≤ gb114)); clear HB; have HB := n0_; have BK114 := n1_; have GW114 := n2_; have GE114 := n3_; clear n0_ n1_ n2_ n3_; clear hb hbox hg; have hcz7_0 : w6.cell? ⟨gb114, 0, none⟩ = some (.string a0_0) := (blk_cell BK114.out 0).trans rfl; have hcz7_1 : w6.cell? ⟨gb114, 1, none⟩ = some (.int .i64 a0_1) := (blk_cell BK114.out 1).trans rfl; have hcz7_2 : w6.cell? ⟨gb114, 2, none⟩ = some (.int .i64 a0_2) := (blk_cell BK114.out 2).trans rfl; have hcz7_3 : w6.cell? ⟨gb114, 3, none⟩ = some (.int .i64 a0_3) := (blk_cell BK114.out 3).trans rfl; have hcz7_4 : w6.cell? ⟨gb114, 4, none⟩ = some (.int .i64 a0_4) := (blk_cell BK114.out 4).trans rfl; have hcz7_5 : w6.cell? ⟨gb114, 5, none⟩ = some (.int .i64 a0_5) := (blk_cell BK114.out 5).trans rfl; have hcz7_6 : w6.cell? ⟨gb114, 6, none⟩ = some (.slice A0_6 l0_6.length c0_6) := (blk_cell BK114.out 6).trans rfl; have hcz7_7 : w6.cell? ⟨gb114, 7, none⟩ = some (.slice A0_7 l0_7.length c0_7) := (blk_cell BK114.out 7).trans rfl; have hfz7_0 := blk_frozen BK114.out 0; have hfz7_1 := blk_frozen BK114.out 1; have hfz7_2 := blk_frozen BK114.out 2; have hfz7_3 := blk_frozen BK114.out 3; have hfz7_4 := blk_frozen BK114.out 4; have hfz7_5 := blk_frozen BK114.out 5; have hfz7_6 := blk_frozen BK114.out 6; have hfz7_7 := blk_frozen BK114.out 7; have p115 : 0 ≤ (a1 : Int) := of_decide_eq_true (by first | (with_reducible assumption) | assumption); have q115 : a1 < (l0_6.length : Int) := of_decide_eq_true (by first | (with_reducible assumption) | assumption); obtain ⟨ad115, e115, hx115_0, hx115_1, hx115_2, hx115_3, hx115_4, hx115_5, hx115_6⟩ := at_T128 HR0_6.out a1 p115 q115; cases e115; replace hx115_0 := (HB.out.cell (World.block_lt_of_cell? w _ hx115_0)).trans hx115_0; replace hx115_1 := (HB.out.cell (World.block_lt_of_cell? w _ hx115_1)).trans hx115_1; replace hx115_2 := (HB.out.cell (World.block_lt_of_cell? w _ hx115_2)).trans hx115_2; replace hx115_3 := (HB.out.cell (World.block_lt_of_cell? w _ hx115_3)).trans hx115_3; replace hx115_4 := (HB.out.cell (World.block_lt_of_cell? w _ hx115_4)).trans hx115_4; replace hx115_5 := (HB.out.cell (World.block_lt_of_cell? w _ hx115_5)).trans hx115_5; replace hx115_6 := (HB.out.cell (World.block_lt_of_cell? w _ hx115_6)).trans hx115_6; replace p115 := eq_true p115; replace q115 := eq_true q115) | ((with_reducible refine gate_dst (N := 5) rfl ?_); refine box_event ?hg (N := 5) ?hd (cs := #[.int .i64 0, .int .i64 0, .int .i64 0, .int .i64 0, .int .i64 0, .int .i64 0, .int .i64 0]) (t := 128) ?hr ?_; (case hd => rfl); (case hg => rfl); (case hr => first | (go_simp; done) | (go_simp; rfl)); intro gb116 hg w8 hbox hb; have n0_ := Aside0.mk (blk_below (g := gb114) (o := .cells #[.string a0_0, .int .i64 a0_1, .int .i64 a0_2, .int .i64 a0_3, .int .i64 a0_4, .int .i64 a0_5, .slice (some ad115) l0_6.length c0_6, .slice A0_7 l0_7.length c0_7] 51 (0, 0)) (by (with_reducible repeat (first | refine blk_drewN ?_ _ | refine blk_drew ?_ | refine blk_alloc ?_ _)); exact BK114.out) hb); have n1_ := Aside0.mk (below_step (by repeat (first | (with_reducible first | exact HB.out | apply below_alloc | apply pw_below_drewN | apply below_drew1 | refine below_set ?_ GE114.out) | exact HB.out)) hb); have n2_ := Aside0.mk (hbox); have n3_ := Aside0.mk ((by rw [hg]; exact (below_size (by repeat (first | (with_reducible first | exact HB.out | apply below_alloc | apply pw_below_drewN | apply below_drew1 | refine below_set ?_ GE114.out) | exact HB.out))) : w.heap.size ≤ gb116)); have n4_ := Aside0.mk ((by rw [hg]; exact (below_size (by repeat (first | (with_reducible first | exact HB.out | apply below_alloc | apply pw_below_drewN | apply below_drew1 | refine below_set ?_ GE114.out) | exact HB.out))) : w.heap.size ≤ gb116)); have n5_ := Aside0.mk ((by rw [hg]; exact Nat.ne_of_lt (blk_lt (g := gb114) (o := .cells #[.string a0_0, .int .i64 a0_1, .int .i64 a0_2, .int .i64 a0_3, .int .i64 a0_4, .int .i64 a0_5, .slice (some ad115) l0_6.length c0_6, .slice A0_7 l0_7.length c0_7] 51 (0, 0)) (by (with_reducible repeat (first | refine blk_drewN ?_ _ | refine blk_drew ?_ | refine blk_alloc ?_ _)); exact BK114.out)) : gb114 ≠ gb116)); have n6_ := Aside0.mk ((by rw [hg]; exact Nat.ne_of_gt (blk_lt (g := gb114) (o := .cells #[.string a0_0, .int .i64 a0_1, .int .i64 a0_2, .int .i64 a0_3, .int .i64 a0_4, .int .i64 a0_5, .slice (some ad115) l0_6.length c0_6, .slice A0_7 l0_7.length c0_7] 51 (0, 0)) (by (with_reducible repeat (first | refine blk_drewN ?_ _ | refine blk_drew ?_ | refine blk_alloc ?_ _)); exact BK114.out)) : gb116 ≠ gb114)); clear BK114; clear HB; have BK114 := n0_; have HB := n1_; have BK116 := n2_; have GW116 := n3_; have GE116 := n4_; have NB114_116 := n5_; have NB116_114 := n6_; clear n0_ n1_ n2_ n3_ n4_ n5_ n6_; clear hb hbox hg; have hnb9 := NB116_114.out; have hnc9 := NB114_116.out; have hcz10_0 : w8.cell? ⟨gb116, 0, none⟩ = some (.int .i64 0) := (blk_cell BK116.out 0).trans rfl; have hcz10_1 : w8.cell? ⟨gb116, 1, none⟩ = some (.int .i64 0) := (blk_cell BK116.out 1).trans rfl; have hcz10_2 : w8.cell? ⟨gb116, 2, none⟩ = some (.int .i64 0) := (blk_cell BK116.out 2).trans rfl; have hcz10_3 : w8.cell? ⟨gb116, 3, none⟩ = some (.int .i64 0) := (blk_cell BK116.out 3).trans rfl; have hcz10_4 : w8.cell? ⟨gb116, 4, none⟩ = some (.int .i64 0) := (blk_cell BK116.out 4).trans rfl; have hcz10_5 : w8.cell? ⟨gb116, 5, none⟩ = some (.int .i64 0) := (blk_cell BK116.out 5).trans rfl; have hcz10_6 : w8.cell? ⟨gb116, 6, none⟩ = some (.int .i64 0) := (blk_cell BK116.out 6).trans rfl; have hfz10_0 := blk_frozen BK116.out 0; have hfz10_1 := blk_frozen BK116.out 1; have hfz10_2 := blk_frozen BK116.out 2; have hfz10_3 := blk_frozen BK116.out 3; have hfz10_4 := blk_frozen BK116.out 4; have hfz10_5 := blk_frozen BK116.out 5; have hfz10_6 := blk_frozen BK116.out 6))
      (try simp only [Act.put, List.setIfInBounds_toArray, List.set_cons_zero, List.set_cons_succ])
      go_cut [18] (fun v18 wc => ∃ (kq : Nat) (x18_4 : Bool), v18 = .bool x18_4 ∧ Aside0 (entrepotref08_window.j0 kq x18_4 ((rd_T128 l0_6 a1).f0) ((rd_T128 l0_6 a1).f1) ((rd_T128 l0_6 a1).f2) ((rd_T128 l0_6 a1).f3) ((rd_T128 l0_6 a1).f4) ((rd_T128 l0_6 a1).f5) ((rd_T128 l0_6 a1).f6) = some r) ∧ Aside0 (kq ≤ k) ∧ Aside0 (wc.heap[gb114]? = some (.cells #[.string a0_0, .int .i64 a0_1, .int .i64 a0_2, .int .i64 a0_3, .int .i64 a0_4, .int .i64 a0_5, (.slice (some ad115) l0_6.length c0_6), (.slice A0_7 l0_7.length c0_7)] 51 (0, 0))) ∧ Aside0 (wc.heap[gb116]? = some (.cells #[.int .i64 ((rd_T128 l0_6 a1).f0), .int .i64 ((rd_T128 l0_6 a1).f1), .int .i64 ((rd_T128 l0_6 a1).f2), .int .i64 ((rd_T128 l0_6 a1).f3), .int .i64 ((rd_T128 l0_6 a1).f4), .int .i64 ((rd_T128 l0_6 a1).f5), .int .i64 ((rd_T128 l0_6 a1).f6)] 128 (0, 0))) ∧ Aside0 (Below w.heap.size w wc))
      case first =>
        have H := HC5.out
        clear HC5
        by_cases c11 : a0_1 = 1
        · rw [if_pos c11] at H
          have c11b0 : (a0_1 == 1) = true := beq_iff_eq.mpr c11
          have c11b1 : (a0_1 != 1) = false := bne_eq_false_iff_eq.mpr c11
          clear c11
          (first | rw [c11b0] | (simp only [i64_w, i32_w]; rw [c11b0]) | skip)
          have H' := Aside0.mk H
          clear H
          have hnb12 := NB114_116.out
          have hnc12 := NB116_114.out
          have hcz13_0 : w8.cell? ⟨gb114, 0, none⟩ = some (.string a0_0) := (blk_cell BK114.out 0).trans rfl
          have hcz13_1 : w8.cell? ⟨gb114, 1, none⟩ = some (.int .i64 a0_1) := (blk_cell BK114.out 1).trans rfl
          have hcz13_2 : w8.cell? ⟨gb114, 2, none⟩ = some (.int .i64 a0_2) := (blk_cell BK114.out 2).trans rfl
          have hcz13_3 : w8.cell? ⟨gb114, 3, none⟩ = some (.int .i64 a0_3) := (blk_cell BK114.out 3).trans rfl
          have hcz13_4 : w8.cell? ⟨gb114, 4, none⟩ = some (.int .i64 a0_4) := (blk_cell BK114.out 4).trans rfl
          have hcz13_5 : w8.cell? ⟨gb114, 5, none⟩ = some (.int .i64 a0_5) := (blk_cell BK114.out 5).trans rfl
          have hcz13_6 : w8.cell? ⟨gb114, 6, none⟩ = some (.slice (some ad115) l0_6.length c0_6) := (blk_cell BK114.out 6).trans rfl
          have hcz13_7 : w8.cell? ⟨gb114, 7, none⟩ = some (.slice A0_7 l0_7.length c0_7) := (blk_cell BK114.out 7).trans rfl
          have hfz13_0 := blk_frozen BK114.out 0
          have hfz13_1 := blk_frozen BK114.out 1
          have hfz13_2 := blk_frozen BK114.out 2
          have hfz13_3 := blk_frozen BK114.out 3
          have hfz13_4 := blk_frozen BK114.out 4
          have hfz13_5 := blk_frozen BK114.out 5
          have hfz13_6 := blk_frozen BK114.out 6
          have hfz13_7 := blk_frozen BK114.out 7
          go_wp2
          go_meet
          case rel => exact ⟨_, (true), (by first | rfl | (simp; done) | (simp [*]; done)), H', ⟨by first | omega | exact Nat.le_refl _⟩, ⟨by (with_reducible repeat (first | refine blk_drewN ?_ _ | refine blk_drew ?_ | refine blk_alloc ?_ _)); refine blk_far ?_ NB114_116.out _; (with_reducible repeat (first | refine blk_drewN ?_ _ | refine blk_drew ?_ | refine blk_alloc ?_ _)); refine blk_far ?_ NB114_116.out _; (with_reducible repeat (first | refine blk_drewN ?_ _ | refine blk_drew ?_ | refine blk_alloc ?_ _)); refine blk_far ?_ NB114_116.out _; (with_reducible repeat (first | refine blk_drewN ?_ _ | refine blk_drew ?_ | refine blk_alloc ?_ _)); refine blk_far ?_ NB114_116.out _; (with_reducible repeat (first | refine blk_drewN ?_ _ | refine blk_drew ?_ | refine blk_alloc ?_ _)); refine blk_far ?_ NB114_116.out _; (with_reducible repeat (first | refine blk_drewN ?_ _ | refine blk_drew ?_ | refine blk_alloc ?_ _)); refine blk_far ?_ NB114_116.out _; (with_reducible repeat (first | refine blk_drewN ?_ _ | refine blk_drew ?_ | refine blk_alloc ?_ _)); refine blk_far ?_ NB114_116.out _; (with_reducible repeat (first | refine blk_drewN ?_ _ | refine blk_drew ?_ | refine blk_alloc ?_ _)); exact BK114.out⟩, ⟨by (with_reducible repeat (first | refine blk_drewN ?_ _ | refine blk_drew ?_ | refine blk_alloc ?_ _)); refine blk_put (cs := #[.int .i64 ((rd_T128 l0_6 a1).f0), .int .i64 ((rd_T128 l0_6 a1).f1), .int .i64 ((rd_T128 l0_6 a1).f2), .int .i64 ((rd_T128 l0_6 a1).f3), .int .i64 ((rd_T128 l0_6 a1).f4), .int .i64 ((rd_T128 l0_6 a1).f5), .int .i64 0]) ?_ 6 _ rfl; (with_reducible repeat (first | refine blk_drewN ?_ _ | refine blk_drew ?_ | refine blk_alloc ?_ _)); refine blk_put (cs := #[.int .i64 ((rd_T128 l0_6 a1).f0), .int .i64 ((rd_T128 l0_6 a1).f1), .int .i64 ((rd_T128 l0_6 a1).f2), .int .i64 ((rd_T128 l0_6 a1).f3), .int .i64 ((rd_T128 l0_6 a1).f4), .int .i64 0, .int .i64 0]) ?_ 5 _ rfl; (with_reducible repeat (first | refine blk_drewN ?_ _ | refine blk_drew ?_ | refine blk_alloc ?_ _)); refine blk_put (cs := #[.int .i64 ((rd_T128 l0_6 a1).f0), .int .i64 ((rd_T128 l0_6 a1).f1), .int .i64 ((rd_T128 l0_6 a1).f2), .int .i64 ((rd_T128 l0_6 a1).f3), .int .i64 0, .int .i64 0, .int .i64 0]) ?_ 4 _ rfl; (with_reducible repeat (first | refine blk_drewN ?_ _ | refine blk_drew ?_ | refine blk_alloc ?_ _)); refine blk_put (cs := #[.int .i64 ((rd_T128 l0_6 a1).f0), .int .i64 ((rd_T128 l0_6 a1).f1), .int .i64 ((rd_T128 l0_6 a1).f2), .int .i64 0, .int .i64 0, .int .i64 0, .int .i64 0]) ?_ 3 _ rfl; (with_reducible repeat (first | refine blk_drewN ?_ _ | refine blk_drew ?_ | refine blk_alloc ?_ _)); refine blk_put (cs := #[.int .i64 ((rd_T128 l0_6 a1).f0), .int .i64 ((rd_T128 l0_6 a1).f1), .int .i64 0, .int .i64 0, .int .i64 0, .int .i64 0, .int .i64 0]) ?_ 2 _ rfl; (with_reducible repeat (first | refine blk_drewN ?_ _ | refine blk_drew ?_ | refine blk_alloc ?_ _)); refine blk_put (cs := #[.int .i64 ((rd_T128 l0_6 a1).f0), .int .i64 0, .int .i64 0, .int .i64 0, .int .i64 0, .int .i64 0, .int .i64 0]) ?_ 1 _ rfl; (with_reducible repeat (first | refine blk_drewN ?_ _ | refine blk_drew ?_ | refine blk_alloc ?_ _)); refine blk_put (cs := #[.int .i64 0, .int .i64 0, .int .i64 0, .int .i64 0, .int .i64 0, .int .i64 0, .int .i64 0]) ?_ 0 _ rfl; (with_reducible repeat (first | refine blk_drewN ?_ _ | refine blk_drew ?_ | refine blk_alloc ?_ _)); exact BK116.out⟩, ⟨by repeat (first | (with_reducible first | exact HB.out | apply below_alloc | apply pw_below_drewN | apply below_drew1 | refine below_set ?_ GE114.out | refine below_set ?_ GE116.out) | exact HB.out)⟩⟩
        · rw [if_neg c11] at H
          have c11b0 : (a0_1 == 1) = false := beq_eq_false_iff_ne.mpr c11
          have c11b1 : (a0_1 != 1) = true := bne_iff_ne.mpr c11
          (first | rw [c11b0] | (simp only [i64_w, i32_w]; rw [c11b0]) | skip)
          have H' := Aside0.mk H
          clear H
          have hnb14 := NB114_116.out
          have hnc14 := NB116_114.out
          have hcz15_0 : w8.cell? ⟨gb114, 0, none⟩ = some (.string a0_0) := (blk_cell BK114.out 0).trans rfl
          have hcz15_1 : w8.cell? ⟨gb114, 1, none⟩ = some (.int .i64 a0_1) := (blk_cell BK114.out 1).trans rfl
          have hcz15_2 : w8.cell? ⟨gb114, 2, none⟩ = some (.int .i64 a0_2) := (blk_cell BK114.out 2).trans rfl
          have hcz15_3 : w8.cell? ⟨gb114, 3, none⟩ = some (.int .i64 a0_3) := (blk_cell BK114.out 3).trans rfl
          have hcz15_4 : w8.cell? ⟨gb114, 4, none⟩ = some (.int .i64 a0_4) := (blk_cell BK114.out 4).trans rfl
          have hcz15_5 : w8.cell? ⟨gb114, 5, none⟩ = some (.int .i64 a0_5) := (blk_cell BK114.out 5).trans rfl
          have hcz15_6 : w8.cell? ⟨gb114, 6, none⟩ = some (.slice (some ad115) l0_6.length c0_6) := (blk_cell BK114.out 6).trans rfl
          have hcz15_7 : w8.cell? ⟨gb114, 7, none⟩ = some (.slice A0_7 l0_7.length c0_7) := (blk_cell BK114.out 7).trans rfl
          have hfz15_0 := blk_frozen BK114.out 0
          have hfz15_1 := blk_frozen BK114.out 1
          have hfz15_2 := blk_frozen BK114.out 2
          have hfz15_3 := blk_frozen BK114.out 3
          have hfz15_4 := blk_frozen BK114.out 4
          have hfz15_5 := blk_frozen BK114.out 5
          have hfz15_6 := blk_frozen BK114.out 6
          have hfz15_7 := blk_frozen BK114.out 7
          go_wp2
          go_meet
          case rel => exact ⟨_, ((a0_1 == 2)), (by first | rfl | (simp; done) | (simp [*]; done)), H', ⟨by first | omega | exact Nat.le_refl _⟩, ⟨by (with_reducible repeat (first | refine blk_drewN ?_ _ | refine blk_drew ?_ | refine blk_alloc ?_ _)); refine blk_far ?_ NB114_116.out _; (with_reducible repeat (first | refine blk_drewN ?_ _ | refine blk_drew ?_ | refine blk_alloc ?_ _)); refine blk_far ?_ NB114_116.out _; (with_reducible repeat (first | refine blk_drewN ?_ _ | refine blk_drew ?_ | refine blk_alloc ?_ _)); refine blk_far ?_ NB114_116.out _; (with_reducible repeat (first | refine blk_drewN ?_ _ | refine blk_drew ?_ | refine blk_alloc ?_ _)); refine blk_far ?_ NB114_116.out _; (with_reducible repeat (first | refine blk_drewN ?_ _ | refine blk_drew ?_ | refine blk_alloc ?_ _)); refine blk_far ?_ NB114_116.out _; (with_reducible repeat (first | refine blk_drewN ?_ _ | refine blk_drew ?_ | refine blk_alloc ?_ _)); refine blk_far ?_ NB114_116.out _; (with_reducible repeat (first | refine blk_drewN ?_ _ | refine blk_drew ?_ | refine blk_alloc ?_ _)); refine blk_far ?_ NB114_116.out _; (with_reducible repeat (first | refine blk_drewN ?_ _ | refine blk_drew ?_ | refine blk_alloc ?_ _)); exact BK114.out⟩, ⟨by (with_reducible repeat (first | refine blk_drewN ?_ _ | refine blk_drew ?_ | refine blk_alloc ?_ _)); refine blk_put (cs := #[.int .i64 ((rd_T128 l0_6 a1).f0), .int .i64 ((rd_T128 l0_6 a1).f1), .int .i64 ((rd_T128 l0_6 a1).f2), .int .i64 ((rd_T128 l0_6 a1).f3), .int .i64 ((rd_T128 l0_6 a1).f4), .int .i64 ((rd_T128 l0_6 a1).f5), .int .i64 0]) ?_ 6 _ rfl; (with_reducible repeat (first | refine blk_drewN ?_ _ | refine blk_drew ?_ | refine blk_alloc ?_ _)); refine blk_put (cs := #[.int .i64 ((rd_T128 l0_6 a1).f0), .int .i64 ((rd_T128 l0_6 a1).f1), .int .i64 ((rd_T128 l0_6 a1).f2), .int .i64 ((rd_T128 l0_6 a1).f3), .int .i64 ((rd_T128 l0_6 a1).f4), .int .i64 0, .int .i64 0]) ?_ 5 _ rfl; (with_reducible repeat (first | refine blk_drewN ?_ _ | refine blk_drew ?_ | refine blk_alloc ?_ _)); refine blk_put (cs := #[.int .i64 ((rd_T128 l0_6 a1).f0), .int .i64 ((rd_T128 l0_6 a1).f1), .int .i64 ((rd_T128 l0_6 a1).f2), .int .i64 ((rd_T128 l0_6 a1).f3), .int .i64 0, .int .i64 0, .int .i64 0]) ?_ 4 _ rfl; (with_reducible repeat (first | refine blk_drewN ?_ _ | refine blk_drew ?_ | refine blk_alloc ?_ _)); refine blk_put (cs := #[.int .i64 ((rd_T128 l0_6 a1).f0), .int .i64 ((rd_T128 l0_6 a1).f1), .int .i64 ((rd_T128 l0_6 a1).f2), .int .i64 0, .int .i64 0, .int .i64 0, .int .i64 0]) ?_ 3 _ rfl; (with_reducible repeat (first | refine blk_drewN ?_ _ | refine blk_drew ?_ | refine blk_alloc ?_ _)); refine blk_put (cs := #[.int .i64 ((rd_T128 l0_6 a1).f0), .int .i64 ((rd_T128 l0_6 a1).f1), .int .i64 0, .int .i64 0, .int .i64 0, .int .i64 0, .int .i64 0]) ?_ 2 _ rfl; (with_reducible repeat (first | refine blk_drewN ?_ _ | refine blk_drew ?_ | refine blk_alloc ?_ _)); refine blk_put (cs := #[.int .i64 ((rd_T128 l0_6 a1).f0), .int .i64 0, .int .i64 0, .int .i64 0, .int .i64 0, .int .i64 0, .int .i64 0]) ?_ 1 _ rfl; (with_reducible repeat (first | refine blk_drewN ?_ _ | refine blk_drew ?_ | refine blk_alloc ?_ _)); refine blk_put (cs := #[.int .i64 0, .int .i64 0, .int .i64 0, .int .i64 0, .int .i64 0, .int .i64 0, .int .i64 0]) ?_ 0 _ rfl; (with_reducible repeat (first | refine blk_drewN ?_ _ | refine blk_drew ?_ | refine blk_alloc ?_ _)); exact BK116.out⟩, ⟨by repeat (first | (with_reducible first | exact HB.out | apply below_alloc | apply pw_below_drewN | apply below_drew1 | refine below_set ?_ GE114.out | refine below_set ?_ GE116.out) | exact HB.out)⟩⟩
      case rest =>
        clear HC5
        try clear c1
        try clear p1
        try clear q1
        try clear hx1
        try clear p2
        try clear c3
        try clear c3b0
        try clear c4
        try clear c4b0
        try clear c9
        try clear c11
        try clear c11b0
        try clear c11b1
        try clear p11
        try clear q11
        try clear hx11
        try clear c12
        try clear c14
        try clear hcz10_0
        try clear hcz10_1
        try clear hcz10_2
        try clear hcz10_3
        try clear hcz10_4
        try clear hcz10_5
        try clear hcz10_6
        try clear hcz13_0
        try clear hcz13_1
        try clear hcz13_2
        try clear hcz13_3
        try clear hcz13_4
        try clear hcz13_5
        try clear hcz13_6
        try clear hcz13_7
        try clear hcz15_0
        try clear hcz15_1
        try clear hcz15_2
        try clear hcz15_3
        try clear hcz15_4
        try clear hcz15_5
        try clear hcz15_6
        try clear hcz15_7
        try clear hcz7_0
        try clear hcz7_1
        try clear hcz7_2
        try clear hcz7_3
        try clear hcz7_4
        try clear hcz7_5
        try clear hcz7_6
        try clear hcz7_7
        try clear hfz10_0
        try clear hfz10_1
        try clear hfz10_2
        try clear hfz10_3
        try clear hfz10_4
        try clear hfz10_5
        try clear hfz10_6
        try clear hfz13_0
        try clear hfz13_1
        try clear hfz13_2
        try clear hfz13_3
        try clear hfz13_4
        try clear hfz13_5
        try clear hfz13_6
        try clear hfz13_7
        try clear hfz15_0
        try clear hfz15_1
        try clear hfz15_2
        try clear hfz15_3
        try clear hfz15_4
        try clear hfz15_5
        try clear hfz15_6
        try clear hfz15_7
        try clear hfz7_0
        try clear hfz7_1
        try clear hfz7_2
        try clear hfz7_3
        try clear hfz7_4
        try clear hfz7_5
        try clear hfz7_6
        try clear hfz7_7
        try clear hx115_0
        try clear hx115_1
        try clear hx115_2
        try clear hx115_3
        try clear hx115_4
        try clear hx115_5
        try clear hx115_6
        try clear p115
        try clear q115
        obtain ⟨kq, x18_4, rfl, HA, HJ4, BK114, BK116, HB⟩ := hcut
        cases kq with
        | zero => exact absurd HA.out (by simp [entrepotref08_window.j0])
        | succ kj4 =>
          have H := HA.out
          clear HA
          simp only [entrepotref08_window.j0] at H
          by_cases c16 : x18_4 = true
          · subst c16
            have H1 : (if ((rd_T128 l0_6 a1).f3) = 0 then (some (((rd_T128 l0_6 a1).f4) == 0)) else (some false)) = some r := by rw [if_pos rfl] at H; exact H
            clear H
            have H := H1
            clear H1
            by_cases c17 : ((rd_T128 l0_6 a1).f3) = 0
            · rw [if_pos c17] at H
              have c17b0 : (((rd_T128 l0_6 a1).f3) == 0) = true := beq_iff_eq.mpr c17
              have c17b1 : (((rd_T128 l0_6 a1).f3) != 0) = false := bne_eq_false_iff_eq.mpr c17
              clear c17
              obtain rfl := Option.some.inj H
              have hnb18 := NB116_114.out
              have hnc18 := NB114_116.out
              have hcz19_0 : wc.cell? ⟨gb116, 0, none⟩ = some (.int .i64 ((rd_T128 l0_6 a1).f0)) := (blk_cell BK116.out 0).trans rfl
              have hcz19_1 : wc.cell? ⟨gb116, 1, none⟩ = some (.int .i64 ((rd_T128 l0_6 a1).f1)) := (blk_cell BK116.out 1).trans rfl
              have hcz19_2 : wc.cell? ⟨gb116, 2, none⟩ = some (.int .i64 ((rd_T128 l0_6 a1).f2)) := (blk_cell BK116.out 2).trans rfl
              have hcz19_3 : wc.cell? ⟨gb116, 3, none⟩ = some (.int .i64 ((rd_T128 l0_6 a1).f3)) := (blk_cell BK116.out 3).trans rfl
              have hcz19_4 : wc.cell? ⟨gb116, 4, none⟩ = some (.int .i64 ((rd_T128 l0_6 a1).f4)) := (blk_cell BK116.out 4).trans rfl
              have hcz19_5 : wc.cell? ⟨gb116, 5, none⟩ = some (.int .i64 ((rd_T128 l0_6 a1).f5)) := (blk_cell BK116.out 5).trans rfl
              have hcz19_6 : wc.cell? ⟨gb116, 6, none⟩ = some (.int .i64 ((rd_T128 l0_6 a1).f6)) := (blk_cell BK116.out 6).trans rfl
              have hfz19_0 := blk_frozen BK116.out 0
              have hfz19_1 := blk_frozen BK116.out 1
              have hfz19_2 := blk_frozen BK116.out 2
              have hfz19_3 := blk_frozen BK116.out 3
              have hfz19_4 := blk_frozen BK116.out 4
              have hfz19_5 := blk_frozen BK116.out 5
              have hfz19_6 := blk_frozen BK116.out 6
              go_wp2
              go_ret
              exact ⟨by first | rfl | (simp [errW_none, errW_some] <;> rfl) | (simp [*, errW_none, errW_some] <;> rfl), by repeat (first | (with_reducible first | exact HB.out | apply below_alloc | apply pw_below_drewN | apply below_drew1 | refine below_set ?_ GE114.out | refine below_set ?_ GE116.out) | exact HB.out)⟩
            · rw [if_neg c17] at H
              have c17b0 : (((rd_T128 l0_6 a1).f3) == 0) = false := beq_eq_false_iff_ne.mpr c17
              have c17b1 : (((rd_T128 l0_6 a1).f3) != 0) = true := bne_iff_ne.mpr c17
              obtain rfl := Option.some.inj H
              have hnb20 := NB116_114.out
              have hnc20 := NB114_116.out
              have hcz21_0 : wc.cell? ⟨gb116, 0, none⟩ = some (.int .i64 ((rd_T128 l0_6 a1).f0)) := (blk_cell BK116.out 0).trans rfl
              have hcz21_1 : wc.cell? ⟨gb116, 1, none⟩ = some (.int .i64 ((rd_T128 l0_6 a1).f1)) := (blk_cell BK116.out 1).trans rfl
              have hcz21_2 : wc.cell? ⟨gb116, 2, none⟩ = some (.int .i64 ((rd_T128 l0_6 a1).f2)) := (blk_cell BK116.out 2).trans rfl
              have hcz21_3 : wc.cell? ⟨gb116, 3, none⟩ = some (.int .i64 ((rd_T128 l0_6 a1).f3)) := (blk_cell BK116.out 3).trans rfl
              have hcz21_4 : wc.cell? ⟨gb116, 4, none⟩ = some (.int .i64 ((rd_T128 l0_6 a1).f4)) := (blk_cell BK116.out 4).trans rfl
              have hcz21_5 : wc.cell? ⟨gb116, 5, none⟩ = some (.int .i64 ((rd_T128 l0_6 a1).f5)) := (blk_cell BK116.out 5).trans rfl
              have hcz21_6 : wc.cell? ⟨gb116, 6, none⟩ = some (.int .i64 ((rd_T128 l0_6 a1).f6)) := (blk_cell BK116.out 6).trans rfl
              have hfz21_0 := blk_frozen BK116.out 0
              have hfz21_1 := blk_frozen BK116.out 1
              have hfz21_2 := blk_frozen BK116.out 2
              have hfz21_3 := blk_frozen BK116.out 3
              have hfz21_4 := blk_frozen BK116.out 4
              have hfz21_5 := blk_frozen BK116.out 5
              have hfz21_6 := blk_frozen BK116.out 6
              go_wp2
              go_ret
              exact ⟨by first | rfl | (simp [errW_none, errW_some] <;> rfl) | (simp [*, errW_none, errW_some] <;> rfl), by repeat (first | (with_reducible first | exact HB.out | apply below_alloc | apply pw_below_drewN | apply below_drew1 | refine below_set ?_ GE114.out | refine below_set ?_ GE116.out) | exact HB.out)⟩
          · replace c16 := Bool.eq_false_iff.mpr c16
            subst c16
            have H1 : ((entrepotref08_number.f ((rd_T128 l0_6 a1).f3)).bind fun t117 => (if t117 = true then ((entrepotref08_number.f ((rd_T128 l0_6 a1).f4)).bind fun t118 => (if t118 = true then (some (decide (((rd_T128 l0_6 a1).f3) ≤ ((rd_T128 l0_6 a1).f4)))) else (some false))) else (some false))) = some r := by rw [if_neg (show ¬ (false = true) by decide)] at H; exact H
            clear H
            have H := H1
            clear H1
            replace H := Option.bind_eq_some_iff.mp H
            obtain ⟨t117, A220, H⟩ := H
            replace H : (if t117 = true then ((entrepotref08_number.f ((rd_T128 l0_6 a1).f4)).bind fun t118 => (if t118 = true then (some (decide (((rd_T128 l0_6 a1).f3) ≤ ((rd_T128 l0_6 a1).f4)))) else (some false))) else (some false)) = some r := H
            have A22 := Aside0.mk A220
            clear A220
            by_cases c23 : t117 = true
            · subst c23
              have H1 : ((entrepotref08_number.f ((rd_T128 l0_6 a1).f4)).bind fun t118 => (if t118 = true then (some (decide (((rd_T128 l0_6 a1).f3) ≤ ((rd_T128 l0_6 a1).f4)))) else (some false))) = some r := by rw [if_pos rfl] at H; exact H
              clear H
              have H := H1
              clear H1
              replace H := Option.bind_eq_some_iff.mp H
              obtain ⟨t118, A240, H⟩ := H
              replace H : (if t118 = true then (some (decide (((rd_T128 l0_6 a1).f3) ≤ ((rd_T128 l0_6 a1).f4)))) else (some false)) = some r := H
              have A24 := Aside0.mk A240
              clear A240
              by_cases c25 : t118 = true
              · subst c25
                have H1 : (some (decide (((rd_T128 l0_6 a1).f3) ≤ ((rd_T128 l0_6 a1).f4)))) = some r := by rw [if_pos rfl] at H; exact H
                clear H
                have H := H1
                clear H1
                obtain rfl := Option.some.inj H
                have hnb26 := NB116_114.out
                have hnc26 := NB114_116.out
                have hcz27_0 : wc.cell? ⟨gb116, 0, none⟩ = some (.int .i64 ((rd_T128 l0_6 a1).f0)) := (blk_cell BK116.out 0).trans rfl
                have hcz27_1 : wc.cell? ⟨gb116, 1, none⟩ = some (.int .i64 ((rd_T128 l0_6 a1).f1)) := (blk_cell BK116.out 1).trans rfl
                have hcz27_2 : wc.cell? ⟨gb116, 2, none⟩ = some (.int .i64 ((rd_T128 l0_6 a1).f2)) := (blk_cell BK116.out 2).trans rfl
                have hcz27_3 : wc.cell? ⟨gb116, 3, none⟩ = some (.int .i64 ((rd_T128 l0_6 a1).f3)) := (blk_cell BK116.out 3).trans rfl
                have hcz27_4 : wc.cell? ⟨gb116, 4, none⟩ = some (.int .i64 ((rd_T128 l0_6 a1).f4)) := (blk_cell BK116.out 4).trans rfl
                have hcz27_5 : wc.cell? ⟨gb116, 5, none⟩ = some (.int .i64 ((rd_T128 l0_6 a1).f5)) := (blk_cell BK116.out 5).trans rfl
                have hcz27_6 : wc.cell? ⟨gb116, 6, none⟩ = some (.int .i64 ((rd_T128 l0_6 a1).f6)) := (blk_cell BK116.out 6).trans rfl
                have hfz27_0 := blk_frozen BK116.out 0
                have hfz27_1 := blk_frozen BK116.out 1
                have hfz27_2 := blk_frozen BK116.out 2
                have hfz27_3 := blk_frozen BK116.out 3
                have hfz27_4 := blk_frozen BK116.out 4
                have hfz27_5 := blk_frozen BK116.out 5
                have hfz27_6 := blk_frozen BK116.out 6
                go_wp2_with (first | ((with_reducible refine gate_callee (f := 186) rfl ?_); refine goesL_ (some 29) rfl rfl Tryz.func186 (by kernel_rfl) rfl #[.int .i64 ((rd_T128 l0_6 a1).f3)] rfl (by (try simp only [List.map_toArray, List.map_cons, List.map_nil]); first | done | rfl | (simp only [List.length_drop, List.length_take]; rfl)) ?_; (with_reducible refine (entrepotref08_number.calls ((rd_T128 l0_6 a1).f3) true _ A22.out).mono ?_); rintro e w' ⟨rfl, ⟨nd, rfl⟩⟩; refine ⟨_, rfl, ?_⟩) | (go_at_call 186; (with_reducible refine (entrepotref08_number.calls ((rd_T128 l0_6 a1).f4) true _ A24.out).mono ?_); rintro e w' ⟨rfl, ⟨nd, rfl⟩⟩))
                go_ret
                exact ⟨by first | rfl | (simp [errW_none, errW_some] <;> rfl) | (simp [*, errW_none, errW_some] <;> rfl), by repeat (first | (with_reducible first | exact HB.out | apply below_alloc | apply pw_below_drewN | apply below_drew1 | refine below_set ?_ GE114.out | refine below_set ?_ GE116.out) | exact HB.out)⟩
              · replace c25 := Bool.eq_false_iff.mpr c25
                subst c25
                have H1 : (some false) = some r := by rw [if_neg (show ¬ (false = true) by decide)] at H; exact H
                clear H
                have H := H1
                clear H1
                obtain rfl := Option.some.inj H
                have hnb28 := NB116_114.out
                have hnc28 := NB114_116.out
                have hcz29_0 : wc.cell? ⟨gb116, 0, none⟩ = some (.int .i64 ((rd_T128 l0_6 a1).f0)) := (blk_cell BK116.out 0).trans rfl
                have hcz29_1 : wc.cell? ⟨gb116, 1, none⟩ = some (.int .i64 ((rd_T128 l0_6 a1).f1)) := (blk_cell BK116.out 1).trans rfl
                have hcz29_2 : wc.cell? ⟨gb116, 2, none⟩ = some (.int .i64 ((rd_T128 l0_6 a1).f2)) := (blk_cell BK116.out 2).trans rfl
                have hcz29_3 : wc.cell? ⟨gb116, 3, none⟩ = some (.int .i64 ((rd_T128 l0_6 a1).f3)) := (blk_cell BK116.out 3).trans rfl
                have hcz29_4 : wc.cell? ⟨gb116, 4, none⟩ = some (.int .i64 ((rd_T128 l0_6 a1).f4)) := (blk_cell BK116.out 4).trans rfl
                have hcz29_5 : wc.cell? ⟨gb116, 5, none⟩ = some (.int .i64 ((rd_T128 l0_6 a1).f5)) := (blk_cell BK116.out 5).trans rfl
                have hcz29_6 : wc.cell? ⟨gb116, 6, none⟩ = some (.int .i64 ((rd_T128 l0_6 a1).f6)) := (blk_cell BK116.out 6).trans rfl
                have hfz29_0 := blk_frozen BK116.out 0
                have hfz29_1 := blk_frozen BK116.out 1
                have hfz29_2 := blk_frozen BK116.out 2
                have hfz29_3 := blk_frozen BK116.out 3
                have hfz29_4 := blk_frozen BK116.out 4
                have hfz29_5 := blk_frozen BK116.out 5
                have hfz29_6 := blk_frozen BK116.out 6
                go_wp2_with (first | ((with_reducible refine gate_callee (f := 186) rfl ?_); refine goesL_ (some 29) rfl rfl Tryz.func186 (by kernel_rfl) rfl #[.int .i64 ((rd_T128 l0_6 a1).f3)] rfl (by (try simp only [List.map_toArray, List.map_cons, List.map_nil]); first | done | rfl | (simp only [List.length_drop, List.length_take]; rfl)) ?_; (with_reducible refine (entrepotref08_number.calls ((rd_T128 l0_6 a1).f3) true _ A22.out).mono ?_); rintro e w' ⟨rfl, ⟨nd, rfl⟩⟩; refine ⟨_, rfl, ?_⟩) | (go_at_call 186; (with_reducible refine (entrepotref08_number.calls ((rd_T128 l0_6 a1).f4) false _ A24.out).mono ?_); rintro e w' ⟨rfl, ⟨nd, rfl⟩⟩))
                go_ret
                exact ⟨by first | rfl | (simp [errW_none, errW_some] <;> rfl) | (simp [*, errW_none, errW_some] <;> rfl), by repeat (first | (with_reducible first | exact HB.out | apply below_alloc | apply pw_below_drewN | apply below_drew1 | refine below_set ?_ GE114.out | refine below_set ?_ GE116.out) | exact HB.out)⟩
            · replace c23 := Bool.eq_false_iff.mpr c23
              subst c23
              have H1 : (some false) = some r := by rw [if_neg (show ¬ (false = true) by decide)] at H; exact H
              clear H
              have H := H1
              clear H1
              obtain rfl := Option.some.inj H
              have hnb30 := NB116_114.out
              have hnc30 := NB114_116.out
              have hcz31_0 : wc.cell? ⟨gb116, 0, none⟩ = some (.int .i64 ((rd_T128 l0_6 a1).f0)) := (blk_cell BK116.out 0).trans rfl
              have hcz31_1 : wc.cell? ⟨gb116, 1, none⟩ = some (.int .i64 ((rd_T128 l0_6 a1).f1)) := (blk_cell BK116.out 1).trans rfl
              have hcz31_2 : wc.cell? ⟨gb116, 2, none⟩ = some (.int .i64 ((rd_T128 l0_6 a1).f2)) := (blk_cell BK116.out 2).trans rfl
              have hcz31_3 : wc.cell? ⟨gb116, 3, none⟩ = some (.int .i64 ((rd_T128 l0_6 a1).f3)) := (blk_cell BK116.out 3).trans rfl
              have hcz31_4 : wc.cell? ⟨gb116, 4, none⟩ = some (.int .i64 ((rd_T128 l0_6 a1).f4)) := (blk_cell BK116.out 4).trans rfl
              have hcz31_5 : wc.cell? ⟨gb116, 5, none⟩ = some (.int .i64 ((rd_T128 l0_6 a1).f5)) := (blk_cell BK116.out 5).trans rfl
              have hcz31_6 : wc.cell? ⟨gb116, 6, none⟩ = some (.int .i64 ((rd_T128 l0_6 a1).f6)) := (blk_cell BK116.out 6).trans rfl
              have hfz31_0 := blk_frozen BK116.out 0
              have hfz31_1 := blk_frozen BK116.out 1
              have hfz31_2 := blk_frozen BK116.out 2
              have hfz31_3 := blk_frozen BK116.out 3
              have hfz31_4 := blk_frozen BK116.out 4
              have hfz31_5 := blk_frozen BK116.out 5
              have hfz31_6 := blk_frozen BK116.out 6
              go_wp2_with (first | ((with_reducible refine gate_callee (f := 186) rfl ?_); refine goesL_ (some 29) rfl rfl Tryz.func186 (by kernel_rfl) rfl #[.int .i64 ((rd_T128 l0_6 a1).f3)] rfl (by (try simp only [List.map_toArray, List.map_cons, List.map_nil]); first | done | rfl | (simp only [List.length_drop, List.length_take]; rfl)) ?_; (with_reducible refine (entrepotref08_number.calls ((rd_T128 l0_6 a1).f3) false _ A22.out).mono ?_); rintro e w' ⟨rfl, ⟨nd, rfl⟩⟩; refine ⟨_, rfl, ?_⟩))
              go_ret
              exact ⟨by first | rfl | (simp [errW_none, errW_some] <;> rfl) | (simp [*, errW_none, errW_some] <;> rfl), by repeat (first | (with_reducible first | exact HB.out | apply below_alloc | apply pw_below_drewN | apply below_drew1 | refine below_set ?_ GE114.out | refine below_set ?_ GE116.out) | exact HB.out)⟩
    · rw [if_neg c4] at H
      exact absurd H (by simp)
  · rw [if_neg c3] at H
    exact absurd H (by simp)
/-! ### entrepotref08_service: function 149 -/
def entrepotref08_service.f (a0_0 : ByteArray) (a0_1 : Int) (a0_2 : Int) (a0_3 : Int) (a0_4 : Int) (a0_5 : Int) (l0_6 : List (S128)) (l0_7 : List Int) (a1 : Int) : Option (Bool) := if 0 ≤ a1 then (if a1 < (l0_6.length : Int) then (if a0_1 = 1 then (some (((rd_T128 l0_6 a1).f5) == 0)) else (if a0_1 = 2 then (some (((rd_T128 l0_6 a1).f5) == 0)) else ((entrepotref08_number.f ((rd_T128 l0_6 a1).f5)).bind fun t121 => (some t121)))) else (none)) else (none)
set_option maxHeartbeats 8000000 in
set_option maxRecDepth 100000 in
theorem entrepotref08_service.calls (a0_0 : ByteArray) (a0_1 : Int) (a0_2 : Int) (a0_3 : Int) (a0_4 : Int) (a0_5 : Int) (A0_6 : Option Addr) (c0_6 : Nat) (l0_6 : List (S128)) (A0_7 : Option Addr) (c0_7 : Nat) (l0_7 : List Int) (a1 : Int) (r : Bool) (w : World) (hr0_6 : Kd.C k128 w A0_6 l0_6.length l0_6) (hc0_6 : l0_6.length ≤ c0_6) (hr0_7 : Kd.C (Kd.int .i64) w A0_7 l0_7.length l0_7) (hc0_7 : l0_7.length ≤ c0_7) (h : entrepotref08_service.f a0_0 a0_1 a0_2 a0_3 a0_4 a0_5 l0_6 l0_7 a1 = some r) :
    Calls Tryz.prog 149 #[.agg #[.string a0_0, .int .i64 a0_1, .int .i64 a0_2, .int .i64 a0_3, .int .i64 a0_4, .int .i64 a0_5, .slice A0_6 l0_6.length c0_6, .slice A0_7 l0_7.length c0_7], .int .i64 a1] w fun e w' => e = .returned (.bool r) ∧ Below w.heap.size w w' := by
  have hu51 := Tryz.underlying51
  have HR0_6 := Aside0.mk hr0_6
  have HC0_6 := Aside0.mk hc0_6
  clear hr0_6 hc0_6
  have HR0_7 := Aside0.mk hr0_7
  have HC0_7 := Aside0.mk hc0_7
  clear hr0_7 hc0_7
  have HB := Aside0.mk (Below.refl w.heap.size w)
  have H : (if 0 ≤ a1 then (if a1 < (l0_6.length : Int) then (if a0_1 = 1 then (some (((rd_T128 l0_6 a1).f5) == 0)) else (if a0_1 = 2 then (some (((rd_T128 l0_6 a1).f5) == 0)) else ((entrepotref08_number.f ((rd_T128 l0_6 a1).f5)).bind fun t121 => (some t121)))) else (none)) else (none)) = some r := h
  clear h
  by_cases c3 : 0 ≤ a1
  · rw [if_pos c3] at H
    have c3b0 : decide (0 ≤ a1) = true := decide_eq_true c3
    clear c3
    by_cases c4 : a1 < (l0_6.length : Int)
    · rw [if_pos c4] at H
      have c4b0 : decide (a1 < (l0_6.length : Int)) = true := decide_eq_true c4
      clear c4
      by_cases c5 : a0_1 = 1
      · rw [if_pos c5] at H
        have c5b0 : (a0_1 == 1) = true := beq_iff_eq.mpr c5
        have c5b1 : (a0_1 != 1) = false := bne_eq_false_iff_eq.mpr c5
        clear c5
        obtain rfl := Option.some.inj H
        go_enter Tryz.func149, Tryz.ntmps149
        go_wp2_with (first | ((with_reducible refine gate_dst (N := 2) rfl ?_); refine box_event ?hg (N := 2) ?hd (cs := #[.string a0_0, .int .i64 a0_1, .int .i64 a0_2, .int .i64 a0_3, .int .i64 a0_4, .int .i64 a0_5, .slice A0_6 l0_6.length c0_6, .slice A0_7 l0_7.length c0_7]) (t := 51) ?hr ?_; (case hd => rfl); (case hg => rfl); (case hr => first | (go_simp; done) | (go_simp; rfl)); intro gb119 hg w6 hbox hb; have n0_ := Aside0.mk (below_step (by repeat (first | (with_reducible first | exact HB.out | apply below_alloc | apply pw_below_drewN | apply below_drew1) | exact HB.out)) hb); have n1_ := Aside0.mk (hbox); have n2_ := Aside0.mk ((by rw [hg]; exact (below_size (by repeat (first | (with_reducible first | exact HB.out | apply below_alloc | apply pw_below_drewN | apply below_drew1) | exact HB.out))) : w.heap.size ≤ gb119)); have n3_ := Aside0.mk ((by rw [hg]; exact (below_size (by repeat (first | (with_reducible first | exact HB.out | apply below_alloc | apply pw_below_drewN | apply below_drew1) | exact HB.out))) : w.heap.size ≤ gb119)); clear HB; have HB := n0_; have BK119 := n1_; have GW119 := n2_; have GE119 := n3_; clear n0_ n1_ n2_ n3_; clear hb hbox hg; have hcz7_0 : w6.cell? ⟨gb119, 0, none⟩ = some (.string a0_0) := (blk_cell BK119.out 0).trans rfl; have hcz7_1 : w6.cell? ⟨gb119, 1, none⟩ = some (.int .i64 a0_1) := (blk_cell BK119.out 1).trans rfl; have hcz7_2 : w6.cell? ⟨gb119, 2, none⟩ = some (.int .i64 a0_2) := (blk_cell BK119.out 2).trans rfl; have hcz7_3 : w6.cell? ⟨gb119, 3, none⟩ = some (.int .i64 a0_3) := (blk_cell BK119.out 3).trans rfl; have hcz7_4 : w6.cell? ⟨gb119, 4, none⟩ = some (.int .i64 a0_4) := (blk_cell BK119.out 4).trans rfl; have hcz7_5 : w6.cell? ⟨gb119, 5, none⟩ = some (.int .i64 a0_5) := (blk_cell BK119.out 5).trans rfl; have hcz7_6 : w6.cell? ⟨gb119, 6, none⟩ = some (.slice A0_6 l0_6.length c0_6) := (blk_cell BK119.out 6).trans rfl; have hcz7_7 : w6.cell? ⟨gb119, 7, none⟩ = some (.slice A0_7 l0_7.length c0_7) := (blk_cell BK119.out 7).trans rfl; have hfz7_0 := blk_frozen BK119.out 0; have hfz7_1 := blk_frozen BK119.out 1; have hfz7_2 := blk_frozen BK119.out 2; have hfz7_3 := blk_frozen BK119.out 3; have hfz7_4 := blk_frozen BK119.out 4; have hfz7_5 := blk_frozen BK119.out 5; have hfz7_6 := blk_frozen BK119.out 6; have hfz7_7 := blk_frozen BK119.out 7; have p120 : 0 ≤ (a1 : Int) := of_decide_eq_true (by first | (with_reducible assumption) | assumption); have q120 : a1 < (l0_6.length : Int) := of_decide_eq_true (by first | (with_reducible assumption) | assumption); obtain ⟨ad120, e120, hx120_0, hx120_1, hx120_2, hx120_3, hx120_4, hx120_5, hx120_6⟩ := at_T128 HR0_6.out a1 p120 q120; cases e120; replace hx120_0 := (HB.out.cell (World.block_lt_of_cell? w _ hx120_0)).trans hx120_0; replace hx120_1 := (HB.out.cell (World.block_lt_of_cell? w _ hx120_1)).trans hx120_1; replace hx120_2 := (HB.out.cell (World.block_lt_of_cell? w _ hx120_2)).trans hx120_2; replace hx120_3 := (HB.out.cell (World.block_lt_of_cell? w _ hx120_3)).trans hx120_3; replace hx120_4 := (HB.out.cell (World.block_lt_of_cell? w _ hx120_4)).trans hx120_4; replace hx120_5 := (HB.out.cell (World.block_lt_of_cell? w _ hx120_5)).trans hx120_5; replace hx120_6 := (HB.out.cell (World.block_lt_of_cell? w _ hx120_6)).trans hx120_6; replace p120 := eq_true p120; replace q120 := eq_true q120))
        go_ret
        exact ⟨by first | rfl | (simp [errW_none, errW_some] <;> rfl) | (simp [*, errW_none, errW_some] <;> rfl), by repeat (first | (with_reducible first | exact HB.out | apply below_alloc | apply pw_below_drewN | apply below_drew1 | refine below_set ?_ GE119.out) | exact HB.out)⟩
      · rw [if_neg c5] at H
        have c5b0 : (a0_1 == 1) = false := beq_eq_false_iff_ne.mpr c5
        have c5b1 : (a0_1 != 1) = true := bne_iff_ne.mpr c5
        by_cases c8 : a0_1 = 2
        · rw [if_pos c8] at H
          have c8b0 : (a0_1 == 2) = true := beq_iff_eq.mpr c8
          have c8b1 : (a0_1 != 2) = false := bne_eq_false_iff_eq.mpr c8
          clear c8
          obtain rfl := Option.some.inj H
          go_enter Tryz.func149, Tryz.ntmps149
          go_wp2_with (first | ((with_reducible refine gate_dst (N := 2) rfl ?_); refine box_event ?hg (N := 2) ?hd (cs := #[.string a0_0, .int .i64 a0_1, .int .i64 a0_2, .int .i64 a0_3, .int .i64 a0_4, .int .i64 a0_5, .slice A0_6 l0_6.length c0_6, .slice A0_7 l0_7.length c0_7]) (t := 51) ?hr ?_; (case hd => rfl); (case hg => rfl); (case hr => first | (go_simp; done) | (go_simp; rfl)); intro gb119 hg w9 hbox hb; have n0_ := Aside0.mk (below_step (by repeat (first | (with_reducible first | exact HB.out | apply below_alloc | apply pw_below_drewN | apply below_drew1) | exact HB.out)) hb); have n1_ := Aside0.mk (hbox); have n2_ := Aside0.mk ((by rw [hg]; exact (below_size (by repeat (first | (with_reducible first | exact HB.out | apply below_alloc | apply pw_below_drewN | apply below_drew1) | exact HB.out))) : w.heap.size ≤ gb119)); have n3_ := Aside0.mk ((by rw [hg]; exact (below_size (by repeat (first | (with_reducible first | exact HB.out | apply below_alloc | apply pw_below_drewN | apply below_drew1) | exact HB.out))) : w.heap.size ≤ gb119)); clear HB; have HB := n0_; have BK119 := n1_; have GW119 := n2_; have GE119 := n3_; clear n0_ n1_ n2_ n3_; clear hb hbox hg; have hcz10_0 : w9.cell? ⟨gb119, 0, none⟩ = some (.string a0_0) := (blk_cell BK119.out 0).trans rfl; have hcz10_1 : w9.cell? ⟨gb119, 1, none⟩ = some (.int .i64 a0_1) := (blk_cell BK119.out 1).trans rfl; have hcz10_2 : w9.cell? ⟨gb119, 2, none⟩ = some (.int .i64 a0_2) := (blk_cell BK119.out 2).trans rfl; have hcz10_3 : w9.cell? ⟨gb119, 3, none⟩ = some (.int .i64 a0_3) := (blk_cell BK119.out 3).trans rfl; have hcz10_4 : w9.cell? ⟨gb119, 4, none⟩ = some (.int .i64 a0_4) := (blk_cell BK119.out 4).trans rfl; have hcz10_5 : w9.cell? ⟨gb119, 5, none⟩ = some (.int .i64 a0_5) := (blk_cell BK119.out 5).trans rfl; have hcz10_6 : w9.cell? ⟨gb119, 6, none⟩ = some (.slice A0_6 l0_6.length c0_6) := (blk_cell BK119.out 6).trans rfl; have hcz10_7 : w9.cell? ⟨gb119, 7, none⟩ = some (.slice A0_7 l0_7.length c0_7) := (blk_cell BK119.out 7).trans rfl; have hfz10_0 := blk_frozen BK119.out 0; have hfz10_1 := blk_frozen BK119.out 1; have hfz10_2 := blk_frozen BK119.out 2; have hfz10_3 := blk_frozen BK119.out 3; have hfz10_4 := blk_frozen BK119.out 4; have hfz10_5 := blk_frozen BK119.out 5; have hfz10_6 := blk_frozen BK119.out 6; have hfz10_7 := blk_frozen BK119.out 7; have p120 : 0 ≤ (a1 : Int) := of_decide_eq_true (by first | (with_reducible assumption) | assumption); have q120 : a1 < (l0_6.length : Int) := of_decide_eq_true (by first | (with_reducible assumption) | assumption); obtain ⟨ad120, e120, hx120_0, hx120_1, hx120_2, hx120_3, hx120_4, hx120_5, hx120_6⟩ := at_T128 HR0_6.out a1 p120 q120; cases e120; replace hx120_0 := (HB.out.cell (World.block_lt_of_cell? w _ hx120_0)).trans hx120_0; replace hx120_1 := (HB.out.cell (World.block_lt_of_cell? w _ hx120_1)).trans hx120_1; replace hx120_2 := (HB.out.cell (World.block_lt_of_cell? w _ hx120_2)).trans hx120_2; replace hx120_3 := (HB.out.cell (World.block_lt_of_cell? w _ hx120_3)).trans hx120_3; replace hx120_4 := (HB.out.cell (World.block_lt_of_cell? w _ hx120_4)).trans hx120_4; replace hx120_5 := (HB.out.cell (World.block_lt_of_cell? w _ hx120_5)).trans hx120_5; replace hx120_6 := (HB.out.cell (World.block_lt_of_cell? w _ hx120_6)).trans hx120_6; replace p120 := eq_true p120; replace q120 := eq_true q120))
          go_ret
          exact ⟨by first | rfl | (simp [errW_none, errW_some] <;> rfl) | (simp [*, errW_none, errW_some] <;> rfl), by repeat (first | (with_reducible first | exact HB.out | apply below_alloc | apply pw_below_drewN | apply below_drew1 | refine below_set ?_ GE119.out) | exact HB.out)⟩
        · rw [if_neg c8] at H
          have c8b0 : (a0_1 == 2) = false := beq_eq_false_iff_ne.mpr c8
          have c8b1 : (a0_1 != 2) = true := bne_iff_ne.mpr c8
          replace H := Option.bind_eq_some_iff.mp H
          obtain ⟨t121, A110, H⟩ := H
          replace H : (some t121) = some r := H
          have A11 := Aside0.mk A110
          clear A110
          obtain rfl := Option.some.inj H
          go_enter Tryz.func149, Tryz.ntmps149
          go_wp2_with (first | ((with_reducible refine gate_dst (N := 2) rfl ?_); refine box_event ?hg (N := 2) ?hd (cs := #[.string a0_0, .int .i64 a0_1, .int .i64 a0_2, .int .i64 a0_3, .int .i64 a0_4, .int .i64 a0_5, .slice A0_6 l0_6.length c0_6, .slice A0_7 l0_7.length c0_7]) (t := 51) ?hr ?_; (case hd => rfl); (case hg => rfl); (case hr => first | (go_simp; done) | (go_simp; rfl)); intro gb119 hg w12 hbox hb; have n0_ := Aside0.mk (below_step (by repeat (first | (with_reducible first | exact HB.out | apply below_alloc | apply pw_below_drewN | apply below_drew1) | exact HB.out)) hb); have n1_ := Aside0.mk (hbox); have n2_ := Aside0.mk ((by rw [hg]; exact (below_size (by repeat (first | (with_reducible first | exact HB.out | apply below_alloc | apply pw_below_drewN | apply below_drew1) | exact HB.out))) : w.heap.size ≤ gb119)); have n3_ := Aside0.mk ((by rw [hg]; exact (below_size (by repeat (first | (with_reducible first | exact HB.out | apply below_alloc | apply pw_below_drewN | apply below_drew1) | exact HB.out))) : w.heap.size ≤ gb119)); clear HB; have HB := n0_; have BK119 := n1_; have GW119 := n2_; have GE119 := n3_; clear n0_ n1_ n2_ n3_; clear hb hbox hg; have hcz13_0 : w12.cell? ⟨gb119, 0, none⟩ = some (.string a0_0) := (blk_cell BK119.out 0).trans rfl; have hcz13_1 : w12.cell? ⟨gb119, 1, none⟩ = some (.int .i64 a0_1) := (blk_cell BK119.out 1).trans rfl; have hcz13_2 : w12.cell? ⟨gb119, 2, none⟩ = some (.int .i64 a0_2) := (blk_cell BK119.out 2).trans rfl; have hcz13_3 : w12.cell? ⟨gb119, 3, none⟩ = some (.int .i64 a0_3) := (blk_cell BK119.out 3).trans rfl; have hcz13_4 : w12.cell? ⟨gb119, 4, none⟩ = some (.int .i64 a0_4) := (blk_cell BK119.out 4).trans rfl; have hcz13_5 : w12.cell? ⟨gb119, 5, none⟩ = some (.int .i64 a0_5) := (blk_cell BK119.out 5).trans rfl; have hcz13_6 : w12.cell? ⟨gb119, 6, none⟩ = some (.slice A0_6 l0_6.length c0_6) := (blk_cell BK119.out 6).trans rfl; have hcz13_7 : w12.cell? ⟨gb119, 7, none⟩ = some (.slice A0_7 l0_7.length c0_7) := (blk_cell BK119.out 7).trans rfl; have hfz13_0 := blk_frozen BK119.out 0; have hfz13_1 := blk_frozen BK119.out 1; have hfz13_2 := blk_frozen BK119.out 2; have hfz13_3 := blk_frozen BK119.out 3; have hfz13_4 := blk_frozen BK119.out 4; have hfz13_5 := blk_frozen BK119.out 5; have hfz13_6 := blk_frozen BK119.out 6; have hfz13_7 := blk_frozen BK119.out 7; have p120 : 0 ≤ (a1 : Int) := of_decide_eq_true (by first | (with_reducible assumption) | assumption); have q120 : a1 < (l0_6.length : Int) := of_decide_eq_true (by first | (with_reducible assumption) | assumption); obtain ⟨ad120, e120, hx120_0, hx120_1, hx120_2, hx120_3, hx120_4, hx120_5, hx120_6⟩ := at_T128 HR0_6.out a1 p120 q120; cases e120; replace hx120_0 := (HB.out.cell (World.block_lt_of_cell? w _ hx120_0)).trans hx120_0; replace hx120_1 := (HB.out.cell (World.block_lt_of_cell? w _ hx120_1)).trans hx120_1; replace hx120_2 := (HB.out.cell (World.block_lt_of_cell? w _ hx120_2)).trans hx120_2; replace hx120_3 := (HB.out.cell (World.block_lt_of_cell? w _ hx120_3)).trans hx120_3; replace hx120_4 := (HB.out.cell (World.block_lt_of_cell? w _ hx120_4)).trans hx120_4; replace hx120_5 := (HB.out.cell (World.block_lt_of_cell? w _ hx120_5)).trans hx120_5; replace hx120_6 := (HB.out.cell (World.block_lt_of_cell? w _ hx120_6)).trans hx120_6; replace p120 := eq_true p120; replace q120 := eq_true q120) | ((with_reducible refine gate_callee (f := 186) rfl ?_); refine goesL_ (some 23) rfl rfl Tryz.func186 (by kernel_rfl) rfl #[.int .i64 ((rd_T128 l0_6 a1).f5)] rfl (by (try simp only [List.map_toArray, List.map_cons, List.map_nil]); first | done | rfl | (simp only [List.length_drop, List.length_take]; rfl)) ?_; (with_reducible refine (entrepotref08_number.calls ((rd_T128 l0_6 a1).f5) t121 _ A11.out).mono ?_); rintro e w' ⟨rfl, ⟨nd, rfl⟩⟩; refine ⟨_, rfl, ?_⟩))
          go_ret
          exact ⟨by first | rfl | (simp [errW_none, errW_some] <;> rfl) | (simp [*, errW_none, errW_some] <;> rfl), by repeat (first | (with_reducible first | exact HB.out | apply below_alloc | apply pw_below_drewN | apply below_drew1 | refine below_set ?_ GE119.out) | exact HB.out)⟩
    · rw [if_neg c4] at H
      exact absurd H (by simp)
  · rw [if_neg c3] at H
    exact absurd H (by simp)
end Go.Proofs.YtofklpphalalhaaGreatDoor.PAll
