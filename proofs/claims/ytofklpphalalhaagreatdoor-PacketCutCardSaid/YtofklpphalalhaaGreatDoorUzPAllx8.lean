/- A text of this claim, cut to what the claim uses. Conditions: each theorem's own. -/
import Derived.Test.YtofklpphalalhaaGreatDoorUzJ1
import Derived.Test.YtofklpphalalhaaGreatDoorUzJ3
-- Written by a program out of the translation, for several roots at once (set All). Not trusted: Lean checks it.
namespace Go.Proofs.YtofklpphalalhaaGreatDoor.PAll
open Go.RowKit Go.Proofs.YtofklpphalalhaaGreatDoorW.PrintWords Go.Proofs.YtofklpphalalhaaGreatDoorW.PrintLast Go.Proofs.YtofklpphalalhaaGreatDoorW.PrintMore
attribute [local go_sem] min2_int min_two
set_option linter.unusedVariables false
set_option linter.unusedSimpArgs false
/-! ### entrepotlaw22_small: function 25 -/
mutual
def entrepotlaw22_small.l0 : Nat → Int → Int → List (List Int) → Option (Bool)
  | 0, _, _, _ => none
  | k + 1, x3, x4, x129000 => if x4 < (x129000.length : Int) then (entrepotlaw22_small.j1 k x3 x4 (decide (x4 < 70)) x129000) else (entrepotlaw22_small.j1 k x3 x4 false x129000)
def entrepotlaw22_small.j1 : Nat → Int → Int → Bool → List (List Int) → Option (Bool)
  | 0, _, _, _, _ => none
  | k + 1, x3, x4, x14, x129000 => if x14 = true then (if 0 ≤ x4 then (if x4 < (x129000.length : Int) then (if ((rd_L4 x129000 x4).length : Int) > 300 then (some false) else (entrepotlaw22_small.l1 k (wrap64 (x3 + ((rd_L4 x129000 x4).length : Int))) x4 0 x129000)) else (none)) else (none)) else (if (x129000.length : Int) ≤ 60 then (some (decide (x3 ≤ 300))) else (some false))
def entrepotlaw22_small.l1 : Nat → Int → Int → Int → List (List Int) → Option (Bool)
  | 0, _, _, _, _ => none
  | k + 1, x3, x4, x5, x129000 => if 0 ≤ x4 then (if x4 < (x129000.length : Int) then (if x5 < ((rd_L4 x129000 x4).length : Int) then (if 0 ≤ x5 then (if (rd (rd_L4 x129000 x4) x5) < (-2305843009213693952) then (some false) else (if (rd (rd_L4 x129000 x4) x5) > 2305843009213693951 then (some false) else (entrepotlaw22_small.l1 k x3 x4 (wrap64 (x5 + 1)) x129000))) else (none)) else (entrepotlaw22_small.l0 k x3 (wrap64 (x4 + 1)) x129000)) else (none)) else (none)
end
def entrepotlaw22_small.f (k : Nat) (l0_0 : List (List Int)) : Option (Bool) := entrepotlaw22_small.l0 k 0 0 l0_0
set_option maxHeartbeats 8000000 in
set_option maxRecDepth 100000 in
theorem entrepotlaw22_small.calls (k : Nat) (A0_0 : Option Addr) (c0_0 : Nat) (l0_0 : List (List Int)) (r : Bool) (w : World) (hr0_0 : Kd.C (Kd.slice 3 (Kd.int .i64)) w A0_0 l0_0.length l0_0) (hc0_0 : l0_0.length ≤ c0_0) (h : entrepotlaw22_small.f k l0_0 = some r) :
    Calls Tryz.prog 25 #[.agg #[.slice A0_0 l0_0.length c0_0]] w fun e w' => e = .returned (.bool r) ∧ Below w.heap.size w w' := by
  have hu28 := Tryz.underlying28
  have HR0_0 := Aside0.mk hr0_0
  have HC0_0 := Aside0.mk hc0_0
  clear hr0_0 hc0_0
  have HB := Aside0.mk (Below.refl w.heap.size w)
  have H : (entrepotlaw22_small.l0 k 0 0 l0_0) = some r := h
  clear h
  have H' := Aside0.mk H
  clear H
  go_enter Tryz.func25, Tryz.ntmps25
  go_wp2_with (first | ((with_reducible refine gate_dst (N := 1) rfl ?_); refine box_event ?hg (N := 1) ?hd (cs := #[.slice A0_0 l0_0.length c0_0]) (t := 28) ?hr ?_; (case hd => rfl); (case hg => rfl); (case hr => first | (go_simp; done) | (go_simp; rfl)); intro gb128 hg w2 hbox hb; have n0_ := Aside0.mk (below_step (by repeat (first | (with_reducible first | exact HB.out | apply below_alloc | apply pw_below_drewN | apply below_drew1) | exact HB.out)) hb); have n1_ := Aside0.mk (hbox); have n2_ := Aside0.mk ((by rw [hg]; exact (below_size (by repeat (first | (with_reducible first | exact HB.out | apply below_alloc | apply pw_below_drewN | apply below_drew1) | exact HB.out))) : w.heap.size ≤ gb128)); have n3_ := Aside0.mk ((by rw [hg]; exact (below_size (by repeat (first | (with_reducible first | exact HB.out | apply below_alloc | apply pw_below_drewN | apply below_drew1) | exact HB.out))) : w.heap.size ≤ gb128)); clear HB; have HB := n0_; have BK128 := n1_; have GW128 := n2_; have GE128 := n3_; clear n0_ n1_ n2_ n3_; clear hb hbox hg))
  go_loopg [3, 4] k (fun kq v3 v4 w' => ∃ (x3_1 : Int) (x4_1 : Int), v3 = .int .i64 x3_1 ∧ v4 = .int .i64 x4_1 ∧ Aside0 (entrepotlaw22_small.l0 kq x3_1 x4_1 l0_0 = some r) ∧ Aside0 (kq ≤ k) ∧ Aside0 (w'.heap[gb128]? = some (.cells #[(.slice A0_0 l0_0.length c0_0)] 28 (0, 0))) ∧ Aside0 (Below w.heap.size w w'))
  case atStart => exact ⟨(0), (0), (by first | rfl | (simp; done) | (simp [*]; done)), (by first | rfl | (simp; done) | (simp [*]; done)), H', ⟨Nat.le_refl _⟩, ⟨by (with_reducible repeat (first | refine blk_drewN ?_ _ | refine blk_drew ?_ | refine blk_alloc ?_ _)); exact BK128.out⟩, ⟨by repeat (first | (with_reducible first | exact HB.out | apply below_alloc | apply pw_below_drewN | apply below_drew1 | refine below_set ?_ GE128.out) | exact HB.out)⟩⟩
  case round =>
    clear H'
    try clear c2
    try clear p2
    obtain ⟨x3_1, x4_1, rfl, rfl, HA, HK1, BK128, HB⟩ := hrel
    cases gk with
    | zero => exact absurd HA.out (by simp [entrepotlaw22_small.l0])
    | succ k1 =>
      have H := HA.out
      clear HA
      simp only [entrepotlaw22_small.l0] at H
      have HC3 := Aside0.mk H
      clear H
      go_upto_region 3 with (fail)
      go_cut [14] (fun v14 wc => ∃ (kq : Nat) (x14_2 : Bool), v14 = .bool x14_2 ∧ Aside0 (entrepotlaw22_small.j1 kq x3_1 x4_1 x14_2 l0_0 = some r) ∧ Aside0 (kq ≤ k1) ∧ Aside0 (wc.heap[gb128]? = some (.cells #[(.slice A0_0 l0_0.length c0_0)] 28 (0, 0))) ∧ Aside0 (Below w.heap.size w wc))
      case first =>
        have H := HC3.out
        clear HC3
        by_cases c4 : x4_1 < (l0_0.length : Int)
        · rw [if_pos c4] at H
          have c4b0 : decide (x4_1 < (l0_0.length : Int)) = true := decide_eq_true c4
          clear c4
          (first | rw [c4b0] | (simp only [i64_w, i32_w]; rw [c4b0]) | skip)
          have H' := Aside0.mk H
          clear H
          have hcz5_0 : wr.cell? ⟨gb128, 0, none⟩ = some (.slice A0_0 l0_0.length c0_0) := (blk_cell BK128.out 0).trans rfl
          have hfz5_0 := blk_frozen BK128.out 0
          go_wp2
          go_meet
          case rel => exact ⟨_, (decide (x4_1 < 70)), (by first | rfl | (simp; done) | (simp [*]; done)), H', ⟨by have := HK1.out; first | omega | exact Nat.le_refl _⟩, ⟨by (with_reducible repeat (first | refine blk_drewN ?_ _ | refine blk_drew ?_ | refine blk_alloc ?_ _)); exact BK128.out⟩, ⟨by repeat (first | (with_reducible first | exact HB.out | apply below_alloc | apply pw_below_drewN | apply below_drew1 | refine below_set ?_ GE128.out) | exact HB.out)⟩⟩
        · rw [if_neg c4] at H
          have c4b0 : decide (x4_1 < (l0_0.length : Int)) = false := decide_eq_false c4
          clear c4
          (first | rw [c4b0] | (simp only [i64_w, i32_w]; rw [c4b0]) | skip)
          have H' := Aside0.mk H
          clear H
          have hcz6_0 : wr.cell? ⟨gb128, 0, none⟩ = some (.slice A0_0 l0_0.length c0_0) := (blk_cell BK128.out 0).trans rfl
          have hfz6_0 := blk_frozen BK128.out 0
          go_wp2
          go_meet
          case rel => exact ⟨_, (false), (by first | rfl | (simp; done) | (simp [*]; done)), H', ⟨by have := HK1.out; first | omega | exact Nat.le_refl _⟩, ⟨by (with_reducible repeat (first | refine blk_drewN ?_ _ | refine blk_drew ?_ | refine blk_alloc ?_ _)); exact BK128.out⟩, ⟨by repeat (first | (with_reducible first | exact HB.out | apply below_alloc | apply pw_below_drewN | apply below_drew1 | refine below_set ?_ GE128.out) | exact HB.out)⟩⟩
      case rest =>
        clear HC3
        try clear c2
        try clear p2
        try clear c4
        try clear c4b0
        try clear hcz5_0
        try clear hcz6_0
        try clear hfz5_0
        try clear hfz6_0
        try clear p2
        obtain ⟨kq, x14_2, rfl, HA, HJ2, BK128, HB⟩ := hcut
        cases kq with
        | zero => exact absurd HA.out (by simp [entrepotlaw22_small.j1])
        | succ kj2 =>
          have H := HA.out
          clear HA
          simp only [entrepotlaw22_small.j1] at H
          by_cases c7 : x14_2 = true
          · subst c7
            have H1 : (if 0 ≤ x4_1 then (if x4_1 < (l0_0.length : Int) then (if ((rd_L4 l0_0 x4_1).length : Int) > 300 then (some false) else (entrepotlaw22_small.l1 kj2 (wrap64 (x3_1 + ((rd_L4 l0_0 x4_1).length : Int))) x4_1 0 l0_0)) else (none)) else (none)) = some r := by rw [if_pos rfl] at H; exact H
            clear H
            have H := H1
            clear H1
            by_cases c8 : 0 ≤ x4_1
            · rw [if_pos c8] at H
              have c8b0 : decide (0 ≤ x4_1) = true := decide_eq_true c8
              clear c8
              by_cases c9 : x4_1 < (l0_0.length : Int)
              · rw [if_pos c9] at H
                have c9b0 : decide (x4_1 < (l0_0.length : Int)) = true := decide_eq_true c9
                clear c9
                by_cases c10 : ((rd_L4 l0_0 x4_1).length : Int) > 300
                · rw [if_pos c10] at H
                  have c10b0 : decide (300 < ((rd_L4 l0_0 x4_1).length : Int)) = true := decide_eq_true c10
                  have c10b1 : decide (300 < (rd_L4 l0_0 x4_1).length) = true := decide_eq_true (by omega)
                  clear c10
                  obtain rfl := Option.some.inj H
                  have hcz11_0 : wc.cell? ⟨gb128, 0, none⟩ = some (.slice A0_0 l0_0.length c0_0) := (blk_cell BK128.out 0).trans rfl
                  have hfz11_0 := blk_frozen BK128.out 0
                  have p129 : 0 ≤ (x4_1 : Int) := of_decide_eq_true (by first | (with_reducible assumption) | assumption)
                  have q129 : x4_1 < (l0_0.length : Int) := of_decide_eq_true (by first | (with_reducible assumption) | assumption)
                  obtain ⟨ad129, A129_0, c129_0, e129, hx129_0, hl129_0, hi129_0⟩ := at_L4 HR0_0.out x4_1 p129 q129
                  cases e129
                  replace hx129_0 := (HB.out.cell (World.block_lt_of_cell? w _ hx129_0)).trans hx129_0
                  have HR129_0 := Aside0.mk hi129_0
                  have HC129_0 := Aside0.mk hl129_0
                  clear hi129_0 hl129_0
                  replace p129 := eq_true p129
                  replace q129 := eq_true q129
                  go_wp2
                  go_ret
                  exact ⟨by first | rfl | (simp [errW_none, errW_some] <;> rfl) | (simp [*, errW_none, errW_some] <;> rfl), by repeat (first | (with_reducible first | exact HB.out | apply below_alloc | apply pw_below_drewN | apply below_drew1 | refine below_set ?_ GE128.out) | exact HB.out)⟩
                · rw [if_neg c10] at H
                  have c10b0 : decide (300 < ((rd_L4 l0_0 x4_1).length : Int)) = false := decide_eq_false c10
                  have c10b1 : decide (300 < (rd_L4 l0_0 x4_1).length) = false := decide_eq_false (by omega)
                  clear c10
                  have H' := Aside0.mk H
                  clear H
                  have hcz12_0 : wc.cell? ⟨gb128, 0, none⟩ = some (.slice A0_0 l0_0.length c0_0) := (blk_cell BK128.out 0).trans rfl
                  have hfz12_0 := blk_frozen BK128.out 0
                  have p129 : 0 ≤ (x4_1 : Int) := of_decide_eq_true (by first | (with_reducible assumption) | assumption)
                  have q129 : x4_1 < (l0_0.length : Int) := of_decide_eq_true (by first | (with_reducible assumption) | assumption)
                  obtain ⟨ad129, A129_0, c129_0, e129, hx129_0, hl129_0, hi129_0⟩ := at_L4 HR0_0.out x4_1 p129 q129
                  cases e129
                  replace hx129_0 := (HB.out.cell (World.block_lt_of_cell? w _ hx129_0)).trans hx129_0
                  have HR129_0 := Aside0.mk hi129_0
                  have HC129_0 := Aside0.mk hl129_0
                  clear hi129_0 hl129_0
                  replace p129 := eq_true p129
                  replace q129 := eq_true q129
                  have p130 : 0 ≤ (x4_1 : Int) := of_decide_eq_true (by first | (with_reducible assumption) | assumption)
                  have q130 : x4_1 < (l0_0.length : Int) := of_decide_eq_true (by first | (with_reducible assumption) | assumption)
                  obtain ⟨ad130, A130_0, c130_0, e130, hx130_0, hl130_0, hi130_0⟩ := at_L4 HR0_0.out x4_1 p130 q130
                  obtain rfl : ad129 = ad130 := (by injection e130)
                  replace hx130_0 := (HB.out.cell (World.block_lt_of_cell? w _ hx130_0)).trans hx130_0
                  have HR130_0 := Aside0.mk hi130_0
                  have HC130_0 := Aside0.mk hl130_0
                  clear hi130_0 hl130_0
                  replace p130 := eq_true p130
                  replace q130 := eq_true q130
                  have ea_ := Option.some.inj (hx129_0.symm.trans hx130_0)
                  injection ea_ with ea_ en_ ec_
                  subst ea_
                  subst ec_
                  clear en_
                  go_wp2
                  go_loopg [5] kj2 (fun kq v5 w' => ∃ (x5_3 : Int), v5 = .int .i64 x5_3 ∧ Aside0 (entrepotlaw22_small.l1 kq (wrap64 (x3_1 + ((rd_L4 l0_0 x4_1).length : Int))) x4_1 x5_3 l0_0 = some r) ∧ Aside0 (kq ≤ kj2) ∧ Aside0 (w'.heap[gb128]? = some (.cells #[(.slice (some ad129) l0_0.length c0_0)] 28 (0, 0))) ∧ Aside0 (Below w.heap.size w w'))
                  case atStart => exact ⟨(0), (by first | rfl | (simp; done) | (simp [*]; done)), H', ⟨Nat.le_refl _⟩, ⟨by (with_reducible repeat (first | refine blk_drewN ?_ _ | refine blk_drew ?_ | refine blk_alloc ?_ _)); exact BK128.out⟩, ⟨by repeat (first | (with_reducible first | exact HB.out | apply below_alloc | apply pw_below_drewN | apply below_drew1 | refine below_set ?_ GE128.out) | exact HB.out)⟩⟩
                  case round =>
                    clear H'
                    try clear c1
                    try clear p1
                    try clear q1
                    try clear hx1
                    try clear c2
                    try clear p2
                    try clear c4
                    try clear c4b0
                    try clear p6
                    try clear c7
                    try clear c8
                    try clear c8b0
                    try clear c9
                    try clear c9b0
                    try clear c10
                    try clear c10b0
                    try clear c10b1
                    try clear c12
                    try clear p12
                    try clear q12
                    try clear hx12
                    try clear hcz11_0
                    try clear hcz12_0
                    try clear hcz5_0
                    try clear hcz6_0
                    try clear hfz11_0
                    try clear hfz12_0
                    try clear hfz5_0
                    try clear hfz6_0
                    try clear hx129_0
                    try clear hx130_0
                    try clear p129
                    try clear p130
                    try clear p2
                    try clear q129
                    try clear q130
                    obtain ⟨x5_3, rfl, HA, HK3, BK128, HB⟩ := hrel
                    cases gk with
                    | zero => exact absurd HA.out (by simp [entrepotlaw22_small.l1])
                    | succ k3 =>
                      have H := HA.out
                      clear HA
                      simp only [entrepotlaw22_small.l1] at H
                      by_cases c13 : 0 ≤ x4_1
                      · rw [if_pos c13] at H
                        have c13b0 : decide (0 ≤ x4_1) = true := decide_eq_true c13
                        clear c13
                        by_cases c14 : x4_1 < (l0_0.length : Int)
                        · rw [if_pos c14] at H
                          have c14b0 : decide (x4_1 < (l0_0.length : Int)) = true := decide_eq_true c14
                          clear c14
                          by_cases c15 : x5_3 < ((rd_L4 l0_0 x4_1).length : Int)
                          · rw [if_pos c15] at H
                            have c15b0 : decide (x5_3 < ((rd_L4 l0_0 x4_1).length : Int)) = true := decide_eq_true c15
                            clear c15
                            by_cases c16 : 0 ≤ x5_3
                            · rw [if_pos c16] at H
                              have c16b0 : decide (0 ≤ x5_3) = true := decide_eq_true c16
                              clear c16
                              by_cases c17 : (rd (rd_L4 l0_0 x4_1) x5_3) < (-2305843009213693952)
                              · rw [if_pos c17] at H
                                have c17b0 : decide ((rd (rd_L4 l0_0 x4_1) x5_3) < (-2305843009213693952)) = true := decide_eq_true c17
                                clear c17
                                obtain rfl := Option.some.inj H
                                have hcz18_0 : wr.cell? ⟨gb128, 0, none⟩ = some (.slice (some ad129) l0_0.length c0_0) := (blk_cell BK128.out 0).trans rfl
                                have hfz18_0 := blk_frozen BK128.out 0
                                have p131 : 0 ≤ (x4_1 : Int) := of_decide_eq_true (by first | (with_reducible assumption) | assumption)
                                have q131 : x4_1 < (l0_0.length : Int) := of_decide_eq_true (by first | (with_reducible assumption) | assumption)
                                obtain ⟨ad131, A131_0, c131_0, e131, hx131_0, hl131_0, hi131_0⟩ := at_L4 HR0_0.out x4_1 p131 q131
                                obtain rfl : ad129 = ad131 := (by injection e131)
                                replace hx131_0 := (HB.out.cell (World.block_lt_of_cell? w _ hx131_0)).trans hx131_0
                                have HR131_0 := Aside0.mk hi131_0
                                have HC131_0 := Aside0.mk hl131_0
                                clear hi131_0 hl131_0
                                replace p131 := eq_true p131
                                replace q131 := eq_true q131
                                have p132 : 0 ≤ (x4_1 : Int) := of_decide_eq_true (by first | (with_reducible assumption) | assumption)
                                have q132 : x4_1 < (l0_0.length : Int) := of_decide_eq_true (by first | (with_reducible assumption) | assumption)
                                obtain ⟨ad132, A132_0, c132_0, e132, hx132_0, hl132_0, hi132_0⟩ := at_L4 HR0_0.out x4_1 p132 q132
                                obtain rfl : ad129 = ad132 := (by injection e132)
                                replace hx132_0 := (HB.out.cell (World.block_lt_of_cell? w _ hx132_0)).trans hx132_0
                                have HR132_0 := Aside0.mk hi132_0
                                have HC132_0 := Aside0.mk hl132_0
                                clear hi132_0 hl132_0
                                replace p132 := eq_true p132
                                replace q132 := eq_true q132
                                have ea_ := Option.some.inj (hx131_0.symm.trans hx132_0)
                                injection ea_ with ea_ en_ ec_
                                subst ea_
                                subst ec_
                                clear en_
                                have p133 : 0 ≤ (x5_3 : Int) := of_decide_eq_true (by first | (with_reducible assumption) | assumption)
                                have q133 : x5_3 < ((rd_L4 l0_0 x4_1).length : Int) := of_decide_eq_true (by first | (with_reducible assumption) | assumption)
                                obtain ⟨ad133, e133, hx133_0⟩ := Kd.at_int HR132_0.out x5_3 p133 q133
                                cases e133
                                replace hx133_0 := (HB.out.cell (World.block_lt_of_cell? w _ hx133_0)).trans hx133_0
                                replace p133 := eq_true p133
                                replace q133 := eq_true q133
                                go_wp2
                                go_ret
                                exact ⟨by first | rfl | (simp [errW_none, errW_some] <;> rfl) | (simp [*, errW_none, errW_some] <;> rfl), by repeat (first | (with_reducible first | exact HB.out | apply below_alloc | apply pw_below_drewN | apply below_drew1 | refine below_set ?_ GE128.out) | exact HB.out)⟩
                              · rw [if_neg c17] at H
                                have c17b0 : decide ((rd (rd_L4 l0_0 x4_1) x5_3) < (-2305843009213693952)) = false := decide_eq_false c17
                                clear c17
                                by_cases c19 : (rd (rd_L4 l0_0 x4_1) x5_3) > 2305843009213693951
                                · rw [if_pos c19] at H
                                  have c19b0 : decide (2305843009213693951 < (rd (rd_L4 l0_0 x4_1) x5_3)) = true := decide_eq_true c19
                                  clear c19
                                  obtain rfl := Option.some.inj H
                                  have hcz20_0 : wr.cell? ⟨gb128, 0, none⟩ = some (.slice (some ad129) l0_0.length c0_0) := (blk_cell BK128.out 0).trans rfl
                                  have hfz20_0 := blk_frozen BK128.out 0
                                  have p131 : 0 ≤ (x4_1 : Int) := of_decide_eq_true (by first | (with_reducible assumption) | assumption)
                                  have q131 : x4_1 < (l0_0.length : Int) := of_decide_eq_true (by first | (with_reducible assumption) | assumption)
                                  obtain ⟨ad131, A131_0, c131_0, e131, hx131_0, hl131_0, hi131_0⟩ := at_L4 HR0_0.out x4_1 p131 q131
                                  obtain rfl : ad129 = ad131 := (by injection e131)
                                  replace hx131_0 := (HB.out.cell (World.block_lt_of_cell? w _ hx131_0)).trans hx131_0
                                  have HR131_0 := Aside0.mk hi131_0
                                  have HC131_0 := Aside0.mk hl131_0
                                  clear hi131_0 hl131_0
                                  replace p131 := eq_true p131
                                  replace q131 := eq_true q131
                                  have p132 : 0 ≤ (x4_1 : Int) := of_decide_eq_true (by first | (with_reducible assumption) | assumption)
                                  have q132 : x4_1 < (l0_0.length : Int) := of_decide_eq_true (by first | (with_reducible assumption) | assumption)
                                  obtain ⟨ad132, A132_0, c132_0, e132, hx132_0, hl132_0, hi132_0⟩ := at_L4 HR0_0.out x4_1 p132 q132
                                  obtain rfl : ad129 = ad132 := (by injection e132)
                                  replace hx132_0 := (HB.out.cell (World.block_lt_of_cell? w _ hx132_0)).trans hx132_0
                                  have HR132_0 := Aside0.mk hi132_0
                                  have HC132_0 := Aside0.mk hl132_0
                                  clear hi132_0 hl132_0
                                  replace p132 := eq_true p132
                                  replace q132 := eq_true q132
                                  have ea_ := Option.some.inj (hx131_0.symm.trans hx132_0)
                                  injection ea_ with ea_ en_ ec_
                                  subst ea_
                                  subst ec_
                                  clear en_
                                  have p133 : 0 ≤ (x5_3 : Int) := of_decide_eq_true (by first | (with_reducible assumption) | assumption)
                                  have q133 : x5_3 < ((rd_L4 l0_0 x4_1).length : Int) := of_decide_eq_true (by first | (with_reducible assumption) | assumption)
                                  obtain ⟨ad133, e133, hx133_0⟩ := Kd.at_int HR132_0.out x5_3 p133 q133
                                  cases e133
                                  replace hx133_0 := (HB.out.cell (World.block_lt_of_cell? w _ hx133_0)).trans hx133_0
                                  replace p133 := eq_true p133
                                  replace q133 := eq_true q133
                                  have p134 : 0 ≤ (x4_1 : Int) := of_decide_eq_true (by first | (with_reducible assumption) | assumption)
                                  have q134 : x4_1 < (l0_0.length : Int) := of_decide_eq_true (by first | (with_reducible assumption) | assumption)
                                  obtain ⟨ad134, A134_0, c134_0, e134, hx134_0, hl134_0, hi134_0⟩ := at_L4 HR0_0.out x4_1 p134 q134
                                  obtain rfl : ad129 = ad134 := (by injection e134)
                                  replace hx134_0 := (HB.out.cell (World.block_lt_of_cell? w _ hx134_0)).trans hx134_0
                                  have HR134_0 := Aside0.mk hi134_0
                                  have HC134_0 := Aside0.mk hl134_0
                                  clear hi134_0 hl134_0
                                  replace p134 := eq_true p134
                                  replace q134 := eq_true q134
                                  have ea_ := Option.some.inj (hx131_0.symm.trans hx134_0)
                                  injection ea_ with ea_ en_ ec_
                                  subst ea_
                                  subst ec_
                                  clear en_
                                  have p135 : 0 ≤ (x5_3 : Int) := of_decide_eq_true (by first | (with_reducible assumption) | assumption)
                                  have q135 : x5_3 < ((rd_L4 l0_0 x4_1).length : Int) := of_decide_eq_true (by first | (with_reducible assumption) | assumption)
                                  obtain ⟨ad135, e135, hx135_0⟩ := Kd.at_int HR134_0.out x5_3 p135 q135
                                  cases e135
                                  replace hx135_0 := (HB.out.cell (World.block_lt_of_cell? w _ hx135_0)).trans hx135_0
                                  replace p135 := eq_true p135
                                  replace q135 := eq_true q135
                                  go_wp2
                                  go_ret
                                  exact ⟨by first | rfl | (simp [errW_none, errW_some] <;> rfl) | (simp [*, errW_none, errW_some] <;> rfl), by repeat (first | (with_reducible first | exact HB.out | apply below_alloc | apply pw_below_drewN | apply below_drew1 | refine below_set ?_ GE128.out) | exact HB.out)⟩
                                · rw [if_neg c19] at H
                                  have c19b0 : decide (2305843009213693951 < (rd (rd_L4 l0_0 x4_1) x5_3)) = false := decide_eq_false c19
                                  clear c19
                                  have H' := Aside0.mk H
                                  clear H
                                  have hcz21_0 : wr.cell? ⟨gb128, 0, none⟩ = some (.slice (some ad129) l0_0.length c0_0) := (blk_cell BK128.out 0).trans rfl
                                  have hfz21_0 := blk_frozen BK128.out 0
                                  have p131 : 0 ≤ (x4_1 : Int) := of_decide_eq_true (by first | (with_reducible assumption) | assumption)
                                  have q131 : x4_1 < (l0_0.length : Int) := of_decide_eq_true (by first | (with_reducible assumption) | assumption)
                                  obtain ⟨ad131, A131_0, c131_0, e131, hx131_0, hl131_0, hi131_0⟩ := at_L4 HR0_0.out x4_1 p131 q131
                                  obtain rfl : ad129 = ad131 := (by injection e131)
                                  replace hx131_0 := (HB.out.cell (World.block_lt_of_cell? w _ hx131_0)).trans hx131_0
                                  have HR131_0 := Aside0.mk hi131_0
                                  have HC131_0 := Aside0.mk hl131_0
                                  clear hi131_0 hl131_0
                                  replace p131 := eq_true p131
                                  replace q131 := eq_true q131
                                  have p132 : 0 ≤ (x4_1 : Int) := of_decide_eq_true (by first | (with_reducible assumption) | assumption)
                                  have q132 : x4_1 < (l0_0.length : Int) := of_decide_eq_true (by first | (with_reducible assumption) | assumption)
                                  obtain ⟨ad132, A132_0, c132_0, e132, hx132_0, hl132_0, hi132_0⟩ := at_L4 HR0_0.out x4_1 p132 q132
                                  obtain rfl : ad129 = ad132 := (by injection e132)
                                  replace hx132_0 := (HB.out.cell (World.block_lt_of_cell? w _ hx132_0)).trans hx132_0
                                  have HR132_0 := Aside0.mk hi132_0
                                  have HC132_0 := Aside0.mk hl132_0
                                  clear hi132_0 hl132_0
                                  replace p132 := eq_true p132
                                  replace q132 := eq_true q132
                                  have ea_ := Option.some.inj (hx131_0.symm.trans hx132_0)
                                  injection ea_ with ea_ en_ ec_
                                  subst ea_
                                  subst ec_
                                  clear en_
                                  have p133 : 0 ≤ (x5_3 : Int) := of_decide_eq_true (by first | (with_reducible assumption) | assumption)
                                  have q133 : x5_3 < ((rd_L4 l0_0 x4_1).length : Int) := of_decide_eq_true (by first | (with_reducible assumption) | assumption)
                                  obtain ⟨ad133, e133, hx133_0⟩ := Kd.at_int HR132_0.out x5_3 p133 q133
                                  cases e133
                                  replace hx133_0 := (HB.out.cell (World.block_lt_of_cell? w _ hx133_0)).trans hx133_0
                                  replace p133 := eq_true p133
                                  replace q133 := eq_true q133
                                  have p134 : 0 ≤ (x4_1 : Int) := of_decide_eq_true (by first | (with_reducible assumption) | assumption)
                                  have q134 : x4_1 < (l0_0.length : Int) := of_decide_eq_true (by first | (with_reducible assumption) | assumption)
                                  obtain ⟨ad134, A134_0, c134_0, e134, hx134_0, hl134_0, hi134_0⟩ := at_L4 HR0_0.out x4_1 p134 q134
                                  obtain rfl : ad129 = ad134 := (by injection e134)
                                  replace hx134_0 := (HB.out.cell (World.block_lt_of_cell? w _ hx134_0)).trans hx134_0
                                  have HR134_0 := Aside0.mk hi134_0
                                  have HC134_0 := Aside0.mk hl134_0
                                  clear hi134_0 hl134_0
                                  replace p134 := eq_true p134
                                  replace q134 := eq_true q134
                                  have ea_ := Option.some.inj (hx131_0.symm.trans hx134_0)
                                  injection ea_ with ea_ en_ ec_
                                  subst ea_
                                  subst ec_
                                  clear en_
                                  have p135 : 0 ≤ (x5_3 : Int) := of_decide_eq_true (by first | (with_reducible assumption) | assumption)
                                  have q135 : x5_3 < ((rd_L4 l0_0 x4_1).length : Int) := of_decide_eq_true (by first | (with_reducible assumption) | assumption)
                                  obtain ⟨ad135, e135, hx135_0⟩ := Kd.at_int HR134_0.out x5_3 p135 q135
                                  cases e135
                                  replace hx135_0 := (HB.out.cell (World.block_lt_of_cell? w _ hx135_0)).trans hx135_0
                                  replace p135 := eq_true p135
                                  replace q135 := eq_true q135
                                  go_wp2
                                  go_roundg k3
                                  case measure => have := HK1.out; have := HJ2.out; have := HK3.out; omega
                                  case rel => exact ⟨(wrap64 (x5_3 + 1)), (by first | rfl | (simp; done) | (simp [*]; done)), H', ⟨by have := HK1.out; have := HJ2.out; have := HK3.out; omega⟩, ⟨by (with_reducible repeat (first | refine blk_drewN ?_ _ | refine blk_drew ?_ | refine blk_alloc ?_ _)); exact BK128.out⟩, ⟨by repeat (first | (with_reducible first | exact HB.out | apply below_alloc | apply pw_below_drewN | apply below_drew1 | refine below_set ?_ GE128.out) | exact HB.out)⟩⟩
                            · rw [if_neg c16] at H
                              exact absurd H (by simp)
                          · rw [if_neg c15] at H
                            have c15b0 : decide (x5_3 < ((rd_L4 l0_0 x4_1).length : Int)) = false := decide_eq_false c15
                            clear c15
                            have H' := Aside0.mk H
                            clear H
                            have hcz22_0 : wr.cell? ⟨gb128, 0, none⟩ = some (.slice (some ad129) l0_0.length c0_0) := (blk_cell BK128.out 0).trans rfl
                            have hfz22_0 := blk_frozen BK128.out 0
                            have p131 : 0 ≤ (x4_1 : Int) := of_decide_eq_true (by first | (with_reducible assumption) | assumption)
                            have q131 : x4_1 < (l0_0.length : Int) := of_decide_eq_true (by first | (with_reducible assumption) | assumption)
                            obtain ⟨ad131, A131_0, c131_0, e131, hx131_0, hl131_0, hi131_0⟩ := at_L4 HR0_0.out x4_1 p131 q131
                            obtain rfl : ad129 = ad131 := (by injection e131)
                            replace hx131_0 := (HB.out.cell (World.block_lt_of_cell? w _ hx131_0)).trans hx131_0
                            have HR131_0 := Aside0.mk hi131_0
                            have HC131_0 := Aside0.mk hl131_0
                            clear hi131_0 hl131_0
                            replace p131 := eq_true p131
                            replace q131 := eq_true q131
                            go_wp2
                            go_roundg k3
                            case measure => have := HK1.out; have := HJ2.out; have := HK3.out; omega
                            case rel => exact ⟨((wrap64 (x3_1 + ((rd_L4 l0_0 x4_1).length : Int)))), (wrap64 (x4_1 + 1)), (by first | rfl | (simp; done) | (simp [*]; done)), (by first | rfl | (simp; done) | (simp [*]; done)), H', ⟨by have := HK1.out; have := HJ2.out; have := HK3.out; omega⟩, ⟨by (with_reducible repeat (first | refine blk_drewN ?_ _ | refine blk_drew ?_ | refine blk_alloc ?_ _)); exact BK128.out⟩, ⟨by repeat (first | (with_reducible first | exact HB.out | apply below_alloc | apply pw_below_drewN | apply below_drew1 | refine below_set ?_ GE128.out) | exact HB.out)⟩⟩
                        · rw [if_neg c14] at H
                          exact absurd H (by simp)
                      · rw [if_neg c13] at H
                        exact absurd H (by simp)
              · rw [if_neg c9] at H
                exact absurd H (by simp)
            · rw [if_neg c8] at H
              exact absurd H (by simp)
          · replace c7 := Bool.eq_false_iff.mpr c7
            subst c7
            have H1 : (if (l0_0.length : Int) ≤ 60 then (some (decide (x3_1 ≤ 300))) else (some false)) = some r := by rw [if_neg (show ¬ (false = true) by decide)] at H; exact H
            clear H
            have H := H1
            clear H1
            by_cases c23 : (l0_0.length : Int) ≤ 60
            · rw [if_pos c23] at H
              have c23b0 : decide ((l0_0.length : Int) ≤ 60) = true := decide_eq_true c23
              have c23b1 : decide (l0_0.length ≤ 60) = true := decide_eq_true (by omega)
              clear c23
              obtain rfl := Option.some.inj H
              have hcz24_0 : wc.cell? ⟨gb128, 0, none⟩ = some (.slice A0_0 l0_0.length c0_0) := (blk_cell BK128.out 0).trans rfl
              have hfz24_0 := blk_frozen BK128.out 0
              go_wp2
              go_ret
              exact ⟨by first | rfl | (simp [errW_none, errW_some] <;> rfl) | (simp [*, errW_none, errW_some] <;> rfl), by repeat (first | (with_reducible first | exact HB.out | apply below_alloc | apply pw_below_drewN | apply below_drew1 | refine below_set ?_ GE128.out) | exact HB.out)⟩
            · rw [if_neg c23] at H
              have c23b0 : decide ((l0_0.length : Int) ≤ 60) = false := decide_eq_false c23
              have c23b1 : decide (l0_0.length ≤ 60) = false := decide_eq_false (by omega)
              clear c23
              obtain rfl := Option.some.inj H
              have hcz25_0 : wc.cell? ⟨gb128, 0, none⟩ = some (.slice A0_0 l0_0.length c0_0) := (blk_cell BK128.out 0).trans rfl
              have hfz25_0 := blk_frozen BK128.out 0
              go_wp2
              go_ret
              exact ⟨by first | rfl | (simp [errW_none, errW_some] <;> rfl) | (simp [*, errW_none, errW_some] <;> rfl), by repeat (first | (with_reducible first | exact HB.out | apply below_alloc | apply pw_below_drewN | apply below_drew1 | refine below_set ?_ GE128.out) | exact HB.out)⟩
-- NOT PRINTED: function 73 (packet_begun)
/-! ### pack_PutUint: function 77 -/
def pack_PutUint.l0 : Nat → Int → List Int → Option (ByteArray)
  | 0, _, _ => none
  | k + 1, x0, x3 => if x0 ≥ 128 then (if x3.length < 140737488355328 then (pack_PutUint.l0 k (x0 / 128) (x3 ++ [Go.bits .or .u8 ((x0) % 256) 128])) else (none)) else (if x3.length < 140737488355328 then (some (strOfNums (x3 ++ [(x0) % 256]))) else (none))
def pack_PutUint.f (k : Nat) (a0 : Int) : Option (ByteArray) := if a0 < 0 then (some (⟨#[]⟩ : ByteArray)) else (pack_PutUint.l0 k a0 ([] : List Int))
set_option maxHeartbeats 8000000 in
set_option maxRecDepth 100000 in
theorem pack_PutUint.calls (k : Nat) (a0 : Int) (r : ByteArray) (w : World) (h : pack_PutUint.f k a0 = some r) :
    Calls Tryz.prog 77 #[.int .i64 a0] w fun e w' => e = .returned (.string r) ∧ Below w.heap.size w w' := by
  have HB := Aside0.mk (Below.refl w.heap.size w)
  have H : (if a0 < 0 then (some (⟨#[]⟩ : ByteArray)) else (pack_PutUint.l0 k a0 ([] : List Int))) = some r := h
  clear h
  by_cases c2 : a0 < 0
  · rw [if_pos c2] at H
    have c2b0 : decide (a0 < 0) = true := decide_eq_true c2
    clear c2
    obtain rfl := Option.some.inj H
    go_enter Tryz.func77, Tryz.ntmps77
    go_wp2
    go_ret
    exact ⟨by first | rfl | (simp [errW_none, errW_some] <;> rfl) | (simp [*, errW_none, errW_some] <;> rfl), by repeat (first | (with_reducible first | exact HB.out | apply below_alloc | apply pw_below_drewN | apply below_drew1) | exact HB.out)⟩
  · rw [if_neg c2] at H
    have c2b0 : decide (a0 < 0) = false := decide_eq_false c2
    clear c2
    have H' := Aside0.mk H
    clear H
    go_enter Tryz.func77, Tryz.ntmps77
    go_wp2
    go_loopg [0, 3] k (fun kq v0 v3 w' => ∃ (x0_1 : Int) (x3_1 : List Int), v0 = .int .i64 x0_1 ∧ Aside0 (pack_PutUint.l0 kq x0_1 x3_1 = some r) ∧ Aside0 (kq ≤ k) ∧ Aside0 (Kd.R (Kd.int .u8) 5 w' w.heap.size (fun _ => True) v3 x3_1) ∧ Aside0 (Below w.heap.size w w'))
    case atStart => exact ⟨(a0), (([] : List Int)), (by first | rfl | (simp; done) | (simp [*]; done)), H', ⟨Nat.le_refl _⟩, ⟨by first | exact Kd.R_nil _ _ _ _ _ | exact Kd.N_nil _ _ _ _ _ | exact Kd.V_nil _ _ _ _ _ | exact Kd.Q_nil _ _ _ _ _ | exact Kd.S_nil _ _ _ _ _⟩, ⟨by repeat (first | (with_reducible first | exact HB.out | apply below_alloc | apply pw_below_drewN | apply below_drew1) | exact HB.out)⟩⟩
    case round =>
      clear H'
      try clear c2
      try clear c2b0
      try clear p2
      obtain ⟨x0_1, x3_1, rfl, HA, HK1, HO_3, HB⟩ := hrel
      cases gk with
      | zero => exact absurd HA.out (by simp [pack_PutUint.l0])
      | succ k1 =>
        have H := HA.out
        clear HA
        simp only [pack_PutUint.l0] at H
        by_cases c3 : x0_1 ≥ 128
        · rw [if_pos c3] at H
          have c3b0 : decide (128 ≤ x0_1) = true := decide_eq_true c3
          clear c3
          by_cases c4 : x3_1.length < 140737488355328
          · rw [if_pos c4] at H
            have LMc4 := Aside0.mk c4
            clear c4
            obtain ⟨y136, hy136⟩ : ∃ y_ : List Int, y_ = (x3_1 ++ [Go.bits .or .u8 ((x0_1) % 256) 128]) := ⟨_, rfl⟩
            replace H : (pack_PutUint.l0 k1 (x0_1 / 128) y136) = some r := by first | (rw [hy136]; with_reducible exact H) | (have H2_ := (Option.bind_some _ _).symm.trans H; rw [hy136]; with_reducible exact H2_) | (have H2_ := (Option.bind_some _ _).symm.trans H; with_reducible exact H2_) | with_reducible exact H | (rw [hy136]; exact H) | exact H
            have Ny136 := Aside0.mk hy136
            clear hy136
            have H' := Aside0.mk H
            clear H
            go_wp2_with (first | ((with_reducible refine gate_builtin (b := .append) (xs := #[.tmp 10, .tmp 14]) rfl ?_); at_builtin; refine Kd.R_append (Kd.int .u8) (w0 := w) w.heap.size rfl (.tmp 10) (.tmp 14) 59 5 (.int .u8 0) 1 rfl Tryz.underlying59 info5 rfl (by decide) (by omega) u3 x3_1 (Go.bits .or .u8 ((x0_1) % 256) 128) [.int .u8 (Go.bits .or .u8 ((x0_1) % 256) 128)] (fun _ => True) (fun _ => False) rfl rfl ?aP (fun _ hk => hk.elim) ?aF ?aO ?aB ?aS ?aL ?_; (case aP => exact rfl); (case aB => exact (by repeat (first | (with_reducible first | exact HB.out | apply below_alloc | apply pw_below_drewN | apply below_drew1) | exact HB.out))); (case aF => exact (fun _ _ => trivial)); (case aO => exact (by (with_reducible repeat (first | apply Kd.R_alloc | apply Kd.R_drewN | apply Kd.R_drew)); exact HO_3.out)); (case aS => exact (below_size (by repeat (first | (with_reducible first | exact HB.out | apply below_alloc | apply pw_below_drewN | apply below_drew1) | exact HB.out)))); (case aL => have := LMc4.out; omega); intro v137 w5 ho hb hg hat; rw [← Ny136.out] at ho; have n0_ := Aside0.mk (hb); have n1_ := Aside0.mk (ho); clear HB; clear HO_3; have HB := n0_; have HO138 := n1_; clear n0_ n1_; clear ho hb hg hat))
            go_roundg k1
            case measure => have := HK1.out; omega
            case rel => exact ⟨(x0_1 / 128), (y136), (by first | rfl | (simp; done) | (simp [*]; done)), H', ⟨by have := HK1.out; omega⟩, ⟨by (with_reducible repeat (first | apply Kd.R_alloc | apply Kd.R_drewN | apply Kd.R_drew)); exact HO138.out⟩, ⟨by repeat (first | (with_reducible first | exact HB.out | apply below_alloc | apply pw_below_drewN | apply below_drew1) | exact HB.out)⟩⟩
          · rw [if_neg c4] at H
            exact absurd H (by simp)
        · rw [if_neg c3] at H
          have c3b0 : decide (128 ≤ x0_1) = false := decide_eq_false c3
          clear c3
          by_cases c6 : x3_1.length < 140737488355328
          · rw [if_pos c6] at H
            have LMc6 := Aside0.mk c6
            clear c6
            obtain ⟨y139, hy139⟩ : ∃ y_ : List Int, y_ = (x3_1 ++ [(x0_1) % 256]) := ⟨_, rfl⟩
            replace H : (some (strOfNums y139)) = some r := by first | (rw [hy139]; with_reducible exact H) | (have H2_ := (Option.bind_some _ _).symm.trans H; rw [hy139]; with_reducible exact H2_) | (have H2_ := (Option.bind_some _ _).symm.trans H; with_reducible exact H2_) | with_reducible exact H | (rw [hy139]; exact H) | exact H
            have Ny139 := Aside0.mk hy139
            clear hy139
            obtain rfl := Option.some.inj H
            go_wp2_with (first | ((with_reducible refine gate_builtin (b := .append) (xs := #[.tmp 16, .tmp 19]) rfl ?_); at_builtin; refine Kd.R_append (Kd.int .u8) (w0 := w) w.heap.size rfl (.tmp 16) (.tmp 19) 59 5 (.int .u8 0) 1 rfl Tryz.underlying59 info5 rfl (by decide) (by omega) u3 x3_1 ((x0_1) % 256) [.int .u8 ((x0_1) % 256)] (fun _ => True) (fun _ => False) rfl rfl ?aP (fun _ hk => hk.elim) ?aF ?aO ?aB ?aS ?aL ?_; (case aP => exact rfl); (case aB => exact (by repeat (first | (with_reducible first | exact HB.out | apply below_alloc | apply pw_below_drewN | apply below_drew1) | exact HB.out))); (case aF => exact (fun _ _ => trivial)); (case aO => exact (by (with_reducible repeat (first | apply Kd.R_alloc | apply Kd.R_drewN | apply Kd.R_drew)); exact HO_3.out)); (case aS => exact (below_size (by repeat (first | (with_reducible first | exact HB.out | apply below_alloc | apply pw_below_drewN | apply below_drew1) | exact HB.out)))); (case aL => have := LMc6.out; omega); intro v140 w7 ho hb hg hat; rw [← Ny139.out] at ho; have n0_ := Aside0.mk (hb); have n1_ := Aside0.mk (ho); clear HB; clear HO_3; have HB := n0_; have HO141 := n1_; clear n0_ n1_; clear ho hb hg hat; have hcv8 := own_string (P := Tryz.prog) Tryz.underlying59 Tryz.underlying5 Tryz.underlying9 (Kd.own_of_R HO141.out)))
            go_ret
            exact ⟨by first | rfl | (simp [errW_none, errW_some] <;> rfl) | (simp [*, errW_none, errW_some] <;> rfl), by repeat (first | (with_reducible first | exact HB.out | apply below_alloc | apply pw_below_drewN | apply below_drew1) | exact HB.out)⟩
          · rw [if_neg c6] at H
            exact absurd H (by simp)
/-! ### pack_PutText: function 75 -/
def pack_PutText.f (k : Nat) (a0 : ByteArray) : Option (ByteArray) := (pack_PutUint.f k (a0.size : Int)).bind fun t142 => (if t142.size + a0.size ≤ 9223372036854775807 then (some (t142 ++ a0)) else (none))
set_option maxHeartbeats 8000000 in
set_option maxRecDepth 100000 in
theorem pack_PutText.calls (k : Nat) (a0 : ByteArray) (r : ByteArray) (w : World) (h : pack_PutText.f k a0 = some r) :
    Calls Tryz.prog 75 #[.string a0] w fun e w' => e = .returned (.string r) ∧ Below w.heap.size w w' := by
  have HB := Aside0.mk (Below.refl w.heap.size w)
  have H : ((pack_PutUint.f k (a0.size : Int)).bind fun t142 => (if t142.size + a0.size ≤ 9223372036854775807 then (some (t142 ++ a0)) else (none))) = some r := h
  clear h
  replace H := Option.bind_eq_some_iff.mp H
  obtain ⟨t142, A20, H⟩ := H
  replace H : (if t142.size + a0.size ≤ 9223372036854775807 then (some (t142 ++ a0)) else (none)) = some r := H
  have A2 := Aside0.mk A20
  clear A20
  by_cases c3 : t142.size + a0.size ≤ 9223372036854775807
  · rw [if_pos c3] at H
    have c3b0 := eq_true c3
    have c3b1 : decide (t142.size + a0.size ≤ 9223372036854775807) = true := decide_eq_true c3
    try have c3b2 : (9223372036854775807 < t142.size + a0.size) = False := eq_false (Nat.not_lt.2 c3)
    obtain rfl := Option.some.inj H
    go_enter Tryz.func75, Tryz.ntmps75
    go_wp2_with (first | ((with_reducible refine gate_callee (f := 77) rfl ?_); refine goesL_ (some 5) rfl rfl Tryz.func77 (by kernel_rfl) rfl #[.int .i64 (a0.size : Int)] rfl (by (try simp only [List.map_toArray, List.map_cons, List.map_nil]); first | done | rfl | (simp only [List.length_drop, List.length_take]; rfl)) ?_; (with_reducible refine (pack_PutUint.calls k (a0.size : Int) t142 _ A2.out).mono ?_); rintro e w4 ⟨rfl, hb⟩; refine ⟨_, rfl, ?_⟩; have n0_ := Aside0.mk (below_step (by repeat (first | (with_reducible first | exact HB.out | apply below_alloc | apply pw_below_drewN | apply below_drew1) | exact HB.out)) hb); clear HB; have HB := n0_; clear n0_; (try clear hb); (try clear hb2); (try clear hk); (try clear hi)))
    go_ret
    exact ⟨by first | rfl | (simp [errW_none, errW_some] <;> rfl) | (simp [*, errW_none, errW_some] <;> rfl), by repeat (first | (with_reducible first | exact HB.out | apply below_alloc | apply pw_below_drewN | apply below_drew1) | exact HB.out)⟩
  · rw [if_neg c3] at H
    exact absurd H (by simp)
/-! ### pack_PutInt: function 119 -/
def pack_PutInt.f (k : Nat) (a0 : Int) : Option (ByteArray) := if a0 > 2305843009213693951 then (some (⟨#[]⟩ : ByteArray)) else (if a0 < (-2305843009213693952) then (some (⟨#[]⟩ : ByteArray)) else ((pack_PutUint.f k (Go.bits .xor .i64 (wrap64 (a0 * 2)) (a0 / 9223372036854775808))).bind fun t143 => (some t143)))
set_option maxHeartbeats 8000000 in
set_option maxRecDepth 100000 in
theorem pack_PutInt.calls (k : Nat) (a0 : Int) (r : ByteArray) (w : World) (h : pack_PutInt.f k a0 = some r) :
    Calls Tryz.prog 119 #[.int .i64 a0] w fun e w' => e = .returned (.string r) ∧ Below w.heap.size w w' := by
  have HB := Aside0.mk (Below.refl w.heap.size w)
  have H : (if a0 > 2305843009213693951 then (some (⟨#[]⟩ : ByteArray)) else (if a0 < (-2305843009213693952) then (some (⟨#[]⟩ : ByteArray)) else ((pack_PutUint.f k (Go.bits .xor .i64 (wrap64 (a0 * 2)) (a0 / 9223372036854775808))).bind fun t143 => (some t143)))) = some r := h
  clear h
  by_cases c2 : a0 > 2305843009213693951
  · rw [if_pos c2] at H
    have c2b0 : decide (2305843009213693951 < a0) = true := decide_eq_true c2
    clear c2
    obtain rfl := Option.some.inj H
    go_enter Tryz.func119, Tryz.ntmps119
    go_wp2
    go_ret
    exact ⟨by first | rfl | (simp [errW_none, errW_some] <;> rfl) | (simp [*, errW_none, errW_some] <;> rfl), by repeat (first | (with_reducible first | exact HB.out | apply below_alloc | apply pw_below_drewN | apply below_drew1) | exact HB.out)⟩
  · rw [if_neg c2] at H
    have c2b0 : decide (2305843009213693951 < a0) = false := decide_eq_false c2
    clear c2
    by_cases c3 : a0 < (-2305843009213693952)
    · rw [if_pos c3] at H
      have c3b0 : decide (a0 < (-2305843009213693952)) = true := decide_eq_true c3
      clear c3
      obtain rfl := Option.some.inj H
      go_enter Tryz.func119, Tryz.ntmps119
      go_wp2
      go_ret
      exact ⟨by first | rfl | (simp [errW_none, errW_some] <;> rfl) | (simp [*, errW_none, errW_some] <;> rfl), by repeat (first | (with_reducible first | exact HB.out | apply below_alloc | apply pw_below_drewN | apply below_drew1) | exact HB.out)⟩
    · rw [if_neg c3] at H
      have c3b0 : decide (a0 < (-2305843009213693952)) = false := decide_eq_false c3
      clear c3
      replace H := Option.bind_eq_some_iff.mp H
      obtain ⟨t143, A40, H⟩ := H
      replace H : (some t143) = some r := H
      have A4 := Aside0.mk A40
      clear A40
      obtain rfl := Option.some.inj H
      go_enter Tryz.func119, Tryz.ntmps119
      go_wp2_with (first | ((with_reducible refine gate_callee (f := 77) rfl ?_); refine goesL_ (some 14) rfl rfl Tryz.func77 (by kernel_rfl) rfl #[.int .i64 (Go.bits .xor .i64 (wrap64 (a0 * 2)) (a0 / 9223372036854775808))] rfl (by (try simp only [List.map_toArray, List.map_cons, List.map_nil]); first | done | rfl | (simp only [List.length_drop, List.length_take]; rfl)) ?_; (with_reducible refine (pack_PutUint.calls k (Go.bits .xor .i64 (wrap64 (a0 * 2)) (a0 / 9223372036854775808)) t143 _ A4.out).mono ?_); rintro e w5 ⟨rfl, hb⟩; refine ⟨_, rfl, ?_⟩; have n0_ := Aside0.mk (below_step (by repeat (first | (with_reducible first | exact HB.out | apply below_alloc | apply pw_below_drewN | apply below_drew1) | exact HB.out)) hb); clear HB; have HB := n0_; clear n0_; (try clear hb); (try clear hb2); (try clear hk); (try clear hi)))
      go_ret
      exact ⟨by first | rfl | (simp [errW_none, errW_some] <;> rfl) | (simp [*, errW_none, errW_some] <;> rfl), by repeat (first | (with_reducible first | exact HB.out | apply below_alloc | apply pw_below_drewN | apply below_drew1) | exact HB.out)⟩
-- NOT PRINTED: function 76 (packet_writer_ints)
-- NOT PRINTED: function 78 (packet_writer_list)
/-! ### pack_Seal: function 120 -/
def pack_Seal.f (a0 : ByteArray) : Option (ByteArray) := (pack_Sum.f a0).bind fun t144 => ((some (([(t144) % 256, (t144 / 256) % 256, (t144 / 65536) % 256, (t144 / 16777216) % 256] : List Int) : List Int)).bind fun y145 => (if a0.size + (strOfNums y145).size ≤ 9223372036854775807 then (some (a0 ++ (strOfNums y145))) else (none)))
set_option maxHeartbeats 8000000 in
set_option maxRecDepth 100000 in
theorem pack_Seal.calls (a0 : ByteArray) (r : ByteArray) (w : World) (HT : Tab w) (h : pack_Seal.f a0 = some r) :
    Calls Tryz.prog 120 #[.string a0] w fun e w' => e = .returned (.string r) ∧ Below w.heap.size w w' := by
  have HB := Aside0.mk (Below.refl w.heap.size w)
  have H : ((pack_Sum.f a0).bind fun t144 => ((some (([(t144) % 256, (t144 / 256) % 256, (t144 / 65536) % 256, (t144 / 16777216) % 256] : List Int) : List Int)).bind fun y145 => (if a0.size + (strOfNums y145).size ≤ 9223372036854775807 then (some (a0 ++ (strOfNums y145))) else (none)))) = some r := h
  clear h
  replace H := Option.bind_eq_some_iff.mp H
  obtain ⟨t144, A20, H⟩ := H
  replace H : ((some (([(t144) % 256, (t144 / 256) % 256, (t144 / 65536) % 256, (t144 / 16777216) % 256] : List Int) : List Int)).bind fun y145 => (if a0.size + (strOfNums y145).size ≤ 9223372036854775807 then (some (a0 ++ (strOfNums y145))) else (none))) = some r := H
  have A2 := Aside0.mk A20
  clear A20
  obtain ⟨y145, hy145⟩ : ∃ y_ : List Int, y_ = (([(t144) % 256, (t144 / 256) % 256, (t144 / 65536) % 256, (t144 / 16777216) % 256] : List Int)) := ⟨_, rfl⟩
  replace H : (if a0.size + (strOfNums y145).size ≤ 9223372036854775807 then (some (a0 ++ (strOfNums y145))) else (none)) = some r := by first | (rw [hy145]; with_reducible exact H) | (have H2_ := (Option.bind_some _ _).symm.trans H; rw [hy145]; with_reducible exact H2_) | (have H2_ := (Option.bind_some _ _).symm.trans H; with_reducible exact H2_) | with_reducible exact H | (rw [hy145]; exact H) | exact H
  have Ny145 := Aside0.mk hy145
  clear hy145
  by_cases c3 : a0.size + (strOfNums y145).size ≤ 9223372036854775807
  · rw [if_pos c3] at H
    have c3b0 := eq_true c3
    have c3b1 : decide (a0.size + (strOfNums y145).size ≤ 9223372036854775807) = true := decide_eq_true c3
    try have c3b2 : (9223372036854775807 < a0.size + (strOfNums y145).size) = False := eq_false (Nat.not_lt.2 c3)
    obtain rfl := Option.some.inj H
    go_enter Tryz.func120, Tryz.ntmps120
    go_wp2_with (first | ((with_reducible refine gate_callee (f := 172) rfl ?_); refine goesL_ (some 5) rfl rfl Tryz.func172 (by kernel_rfl) rfl #[.string a0] rfl (by (try simp only [List.map_toArray, List.map_cons, List.map_nil]); first | done | rfl | (simp only [List.length_drop, List.length_take]; rfl)) ?_; (with_reducible refine (pack_Sum.calls a0 t144 _ (Tab.below HT (by repeat (first | (with_reducible first | exact HB.out | apply below_alloc | apply pw_below_drewN | apply below_drew1) | exact HB.out))) A2.out).mono ?_); rintro e w4 ⟨rfl, hb⟩; refine ⟨_, rfl, ?_⟩; have n0_ := Aside0.mk (below_step (by repeat (first | (with_reducible first | exact HB.out | apply below_alloc | apply pw_below_drewN | apply below_drew1) | exact HB.out)) hb); clear HB; have HB := n0_; clear n0_; (try clear hb); (try clear hb2); (try clear hk); (try clear hi)) | ((with_reducible refine gate_dst (N := 18) rfl ?_); refine Kd.R_lit (Kd.int .u8) _ 5 ?hg (N := 18) ?hd (xs := ([(t144) % 256, (t144 / 256) % 256, (t144 / 65536) % 256, (t144 / 16777216) % 256] : List Int)) (inner := [.int .u8 ((t144) % 256), .int .u8 ((t144 / 256) % 256), .int .u8 ((t144 / 65536) % 256), .int .u8 ((t144 / 16777216) % 256)]) (ok := fun _ => True) (okp := fun _ => True) ?hr ?hp (fun _ hk => hk) trivial (Below.refl _ _) (Nat.le_refl _) (by simp) ?_; (case hd => rfl); (case hg => rfl); (case hr => first | (go_simp; done) | (go_simp; rfl)); (case hp => exact (Reps.one (show Kd.M (Kd.int .u8) _ _ _ ((t144) % 256) [.int .u8 ((t144) % 256)] from rfl) (Reps.one (show Kd.M (Kd.int .u8) _ _ _ ((t144 / 256) % 256) [.int .u8 ((t144 / 256) % 256)] from rfl) (Reps.one (show Kd.M (Kd.int .u8) _ _ _ ((t144 / 65536) % 256) [.int .u8 ((t144 / 65536) % 256)] from rfl) (Reps.one (show Kd.M (Kd.int .u8) _ _ _ ((t144 / 16777216) % 256) [.int .u8 ((t144 / 16777216) % 256)] from rfl) (Reps.none _ _)))))); intro v146 w5 ho6 hb hg_ hnew_; clear hg_ hnew_; (first | rw [← Ny145.out] at ho6 | (simp only [Int.reduceToNat] at ho6; rw [← Ny145.out] at ho6)); have n0_ := Aside0.mk (Kd.R_lower ho6 (below_size (by repeat (first | (with_reducible first | exact HB.out | apply below_alloc | apply pw_below_drewN | apply below_drew1) | exact HB.out)))); have n1_ := Aside0.mk (below_step (by repeat (first | (with_reducible first | exact HB.out | apply below_alloc | apply pw_below_drewN | apply below_drew1) | exact HB.out)) hb); clear HB; have HO147 := n0_; have HB := n1_; clear n0_ n1_; clear hb ho6; have hcv7 := own_string (P := Tryz.prog) Tryz.underlying59 Tryz.underlying5 Tryz.underlying9 (Kd.own_of_R HO147.out)))
    go_ret
    exact ⟨by first | rfl | (simp [errW_none, errW_some] <;> rfl) | (simp [*, errW_none, errW_some] <;> rfl), by repeat (first | (with_reducible first | exact HB.out | apply below_alloc | apply pw_below_drewN | apply below_drew1) | exact HB.out)⟩
  · rw [if_neg c3] at H
    exact absurd H (by simp)
-- NOT PRINTED: function 79 (packet_writer_sealed)
end Go.Proofs.YtofklpphalalhaaGreatDoor.PAll
