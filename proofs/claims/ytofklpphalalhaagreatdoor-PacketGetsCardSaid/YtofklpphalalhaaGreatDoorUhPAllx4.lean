/- A text of this claim, cut to what the claim uses. Conditions: each theorem's own. -/
import Derived.Test.YtofklpphalalhaaGreatDoorUhJ1
import Derived.Test.YtofklpphalalhaaGreatDoorUhJ4
-- Written by a program out of the translation, for several roots at once (set All). Not trusted: Lean checks it.
namespace Go.Proofs.YtofklpphalalhaaGreatDoor.PAll
open Go.RowKit Go.Proofs.YtofklpphalalhaaGreatDoorW.PrintWords Go.Proofs.YtofklpphalalhaaGreatDoorW.PrintLast Go.Proofs.YtofklpphalalhaaGreatDoorW.PrintMore
attribute [local go_sem] min2_int min_two
set_option linter.unusedVariables false
set_option linter.unusedSimpArgs false
/-! ### entrepotref03_Name: function 143 -/
def entrepotref03_Name.l0 : Nat → ByteArray → Int → Option (Bool)
 | 0, _, _ => none
 | k + 1, x0, x3 => if x3 < (x0.size : Int) then (if 0 ≤ x3 then (if (bt x0 x3) < 65 then (if (bt x0 x3) < 97 then (if (bt x0 x3) < 48 then (if (bt x0 x3) = 46 then (entrepotref03_Name.l0 k x0 (wrap64 (x3 + 1))) else (if (bt x0 x3) = 95 then (entrepotref03_Name.l0 k x0 (wrap64 (x3 + 1))) else (if (bt x0 x3) = 45 then (entrepotref03_Name.l0 k x0 (wrap64 (x3 + 1))) else (some false)))) else (if (bt x0 x3) > 57 then (if (bt x0 x3) = 46 then (entrepotref03_Name.l0 k x0 (wrap64 (x3 + 1))) else (if (bt x0 x3) = 95 then (entrepotref03_Name.l0 k x0 (wrap64 (x3 + 1))) else (if (bt x0 x3) = 45 then (entrepotref03_Name.l0 k x0 (wrap64 (x3 + 1))) else (some false)))) else (entrepotref03_Name.l0 k x0 (wrap64 (x3 + 1))))) else (if (bt x0 x3) > 122 then (if (bt x0 x3) < 48 then (if (bt x0 x3) = 46 then (entrepotref03_Name.l0 k x0 (wrap64 (x3 + 1))) else (if (bt x0 x3) = 95 then (entrepotref03_Name.l0 k x0 (wrap64 (x3 + 1))) else (if (bt x0 x3) = 45 then (entrepotref03_Name.l0 k x0 (wrap64 (x3 + 1))) else (some false)))) else (if (bt x0 x3) > 57 then (if (bt x0 x3) = 46 then (entrepotref03_Name.l0 k x0 (wrap64 (x3 + 1))) else (if (bt x0 x3) = 95 then (entrepotref03_Name.l0 k x0 (wrap64 (x3 + 1))) else (if (bt x0 x3) = 45 then (entrepotref03_Name.l0 k x0 (wrap64 (x3 + 1))) else (some false)))) else (entrepotref03_Name.l0 k x0 (wrap64 (x3 + 1))))) else (entrepotref03_Name.l0 k x0 (wrap64 (x3 + 1))))) else (if (bt x0 x3) > 90 then (if (bt x0 x3) < 97 then (if (bt x0 x3) < 48 then (if (bt x0 x3) = 46 then (entrepotref03_Name.l0 k x0 (wrap64 (x3 + 1))) else (if (bt x0 x3) = 95 then (entrepotref03_Name.l0 k x0 (wrap64 (x3 + 1))) else (if (bt x0 x3) = 45 then (entrepotref03_Name.l0 k x0 (wrap64 (x3 + 1))) else (some false)))) else (if (bt x0 x3) > 57 then (if (bt x0 x3) = 46 then (entrepotref03_Name.l0 k x0 (wrap64 (x3 + 1))) else (if (bt x0 x3) = 95 then (entrepotref03_Name.l0 k x0 (wrap64 (x3 + 1))) else (if (bt x0 x3) = 45 then (entrepotref03_Name.l0 k x0 (wrap64 (x3 + 1))) else (some false)))) else (entrepotref03_Name.l0 k x0 (wrap64 (x3 + 1))))) else (if (bt x0 x3) > 122 then (if (bt x0 x3) < 48 then (if (bt x0 x3) = 46 then (entrepotref03_Name.l0 k x0 (wrap64 (x3 + 1))) else (if (bt x0 x3) = 95 then (entrepotref03_Name.l0 k x0 (wrap64 (x3 + 1))) else (if (bt x0 x3) = 45 then (entrepotref03_Name.l0 k x0 (wrap64 (x3 + 1))) else (some false)))) else (if (bt x0 x3) > 57 then (if (bt x0 x3) = 46 then (entrepotref03_Name.l0 k x0 (wrap64 (x3 + 1))) else (if (bt x0 x3) = 95 then (entrepotref03_Name.l0 k x0 (wrap64 (x3 + 1))) else (if (bt x0 x3) = 45 then (entrepotref03_Name.l0 k x0 (wrap64 (x3 + 1))) else (some false)))) else (entrepotref03_Name.l0 k x0 (wrap64 (x3 + 1))))) else (entrepotref03_Name.l0 k x0 (wrap64 (x3 + 1))))) else (entrepotref03_Name.l0 k x0 (wrap64 (x3 + 1))))) else (none)) else (if (x0.size : Int) ≥ 1 then (some (decide ((x0.size : Int) ≤ 40))) else (some false))
def entrepotref03_Name.f (k : Nat) (a0 : ByteArray) : Option (Bool) := entrepotref03_Name.l0 k a0 0
set_option maxHeartbeats 8000000 in
set_option maxRecDepth 100000 in
theorem entrepotref03_Name.calls (k : Nat) (a0 : ByteArray) (r : Bool) (w : World) (h : entrepotref03_Name.f k a0 = some r) :
    Calls Tryz.prog 143 #[.string a0] w fun e w' => e = .returned (.bool r) ∧ Drawn0 w w' := by
  have H : (entrepotref03_Name.l0 k a0 0) = some r := h
  clear h
  have H' := Aside0.mk H
  clear H
  go_enter Tryz.func143, Tryz.ntmps143
  go_wp2
  go_loopg [3] k (fun kq v3 w' => ∃ (x3_1 : Int), v3 = .int .i64 x3_1 ∧ Aside0 (entrepotref03_Name.l0 kq a0 x3_1 = some r) ∧ Aside0 (kq ≤ k) ∧ Drawn0 w w')
  case atStart => exact ⟨(0), zs, H', ⟨Nat.le_refl _⟩, zd⟩
  case round =>
    clear H'
    try clear c1
    obtain ⟨x3_1, rfl, HA, HK1, ⟨m1, rfl⟩⟩ := hrel
    cases gk with
    | zero => exact absurd HA.out (by simp [entrepotref03_Name.l0])
    | succ k1 =>
      have H := HA.out
      clear HA
      simp only [entrepotref03_Name.l0] at H
      by_cases c2 : x3_1 < (a0.size : Int)
      · rw [if_pos c2] at H
        have c2b0 := decide_eq_true c2
        clear c2
        by_cases c3 : 0 ≤ x3_1
        · rw [if_pos c3] at H
          have c3b0 := decide_eq_true c3
          clear c3
          by_cases c5 : (bt a0 x3_1) < 65
          · rw [if_pos c5] at H
            have c5b0 := decide_eq_true c5
            clear c5
            by_cases c6 : (bt a0 x3_1) < 97
            · rw [if_pos c6] at H
              have c6b0 := decide_eq_true c6
              clear c6
              by_cases c7 : (bt a0 x3_1) < 48
              · rw [if_pos c7] at H
                have c7b0 := decide_eq_true c7
                clear c7
                by_cases c8 : (bt a0 x3_1) = 46
                · rw [if_pos c8] at H
                  have c8b0 := beq_iff_eq.mpr c8
                  have c8b1 := bne_eq_false_iff_eq.mpr c8
                  clear c8
                  have H' := Aside0.mk H
                  clear H
                  have p4 : 0 ≤ (x3_1 : Int) := of_decide_eq_true za
                  have q4 : x3_1 < (a0.size : Int) := of_decide_eq_true za
                  have hx4 := bt_at a0 x3_1
                  replace p4 := eq_true p4
                  replace q4 := eq_true q4
                  go_wp2
                  go_roundg k1
                  case measure => have := HK1.out; omega
                  case rel => exact ⟨(wrap64 (x3_1 + 1)), zs, H', ⟨by have := HK1.out; omega⟩, zd⟩
                · rw [if_neg c8] at H
                  have c8b0 := beq_eq_false_iff_ne.mpr c8
                  have c8b1 := bne_iff_ne.mpr c8
                  by_cases c9 : (bt a0 x3_1) = 95
                  · rw [if_pos c9] at H
                    have c9b0 := beq_iff_eq.mpr c9
                    have c9b1 := bne_eq_false_iff_eq.mpr c9
                    clear c9
                    have H' := Aside0.mk H
                    clear H
                    have p4 : 0 ≤ (x3_1 : Int) := of_decide_eq_true za
                    have q4 : x3_1 < (a0.size : Int) := of_decide_eq_true za
                    have hx4 := bt_at a0 x3_1
                    replace p4 := eq_true p4
                    replace q4 := eq_true q4
                    go_wp2
                    go_roundg k1
                    case measure => have := HK1.out; omega
                    case rel => exact ⟨(wrap64 (x3_1 + 1)), zs, H', ⟨by have := HK1.out; omega⟩, zd⟩
                  · rw [if_neg c9] at H
                    have c9b0 := beq_eq_false_iff_ne.mpr c9
                    have c9b1 := bne_iff_ne.mpr c9
                    by_cases c10 : (bt a0 x3_1) = 45
                    · rw [if_pos c10] at H
                      have c10b0 := beq_iff_eq.mpr c10
                      have c10b1 := bne_eq_false_iff_eq.mpr c10
                      clear c10
                      have H' := Aside0.mk H
                      clear H
                      have p4 : 0 ≤ (x3_1 : Int) := of_decide_eq_true za
                      have q4 : x3_1 < (a0.size : Int) := of_decide_eq_true za
                      have hx4 := bt_at a0 x3_1
                      replace p4 := eq_true p4
                      replace q4 := eq_true q4
                      go_wp2
                      go_roundg k1
                      case measure => have := HK1.out; omega
                      case rel => exact ⟨(wrap64 (x3_1 + 1)), zs, H', ⟨by have := HK1.out; omega⟩, zd⟩
                    · rw [if_neg c10] at H
                      have c10b0 := beq_eq_false_iff_ne.mpr c10
                      have c10b1 := bne_iff_ne.mpr c10
                      obtain rfl := Option.some.inj H
                      have p4 : 0 ≤ (x3_1 : Int) := of_decide_eq_true za
                      have q4 : x3_1 < (a0.size : Int) := of_decide_eq_true za
                      have hx4 := bt_at a0 x3_1
                      replace p4 := eq_true p4
                      replace q4 := eq_true q4
                      go_wp2
                      go_ret
                      exact ⟨zs, zd⟩
              · rw [if_neg c7] at H
                have c7b0 := decide_eq_false c7
                clear c7
                by_cases c11 : (bt a0 x3_1) > 57
                · rw [if_pos c11] at H
                  have c11b0 := decide_eq_true c11
                  clear c11
                  by_cases c12 : (bt a0 x3_1) = 46
                  · rw [if_pos c12] at H
                    have c12b0 := beq_iff_eq.mpr c12
                    have c12b1 := bne_eq_false_iff_eq.mpr c12
                    clear c12
                    have H' := Aside0.mk H
                    clear H
                    have p4 : 0 ≤ (x3_1 : Int) := of_decide_eq_true za
                    have q4 : x3_1 < (a0.size : Int) := of_decide_eq_true za
                    have hx4 := bt_at a0 x3_1
                    replace p4 := eq_true p4
                    replace q4 := eq_true q4
                    go_wp2
                    go_roundg k1
                    case measure => have := HK1.out; omega
                    case rel => exact ⟨(wrap64 (x3_1 + 1)), zs, H', ⟨by have := HK1.out; omega⟩, zd⟩
                  · rw [if_neg c12] at H
                    have c12b0 := beq_eq_false_iff_ne.mpr c12
                    have c12b1 := bne_iff_ne.mpr c12
                    by_cases c13 : (bt a0 x3_1) = 95
                    · rw [if_pos c13] at H
                      have c13b0 := beq_iff_eq.mpr c13
                      have c13b1 := bne_eq_false_iff_eq.mpr c13
                      clear c13
                      have H' := Aside0.mk H
                      clear H
                      have p4 : 0 ≤ (x3_1 : Int) := of_decide_eq_true za
                      have q4 : x3_1 < (a0.size : Int) := of_decide_eq_true za
                      have hx4 := bt_at a0 x3_1
                      replace p4 := eq_true p4
                      replace q4 := eq_true q4
                      go_wp2
                      go_roundg k1
                      case measure => have := HK1.out; omega
                      case rel => exact ⟨(wrap64 (x3_1 + 1)), zs, H', ⟨by have := HK1.out; omega⟩, zd⟩
                    · rw [if_neg c13] at H
                      have c13b0 := beq_eq_false_iff_ne.mpr c13
                      have c13b1 := bne_iff_ne.mpr c13
                      by_cases c14 : (bt a0 x3_1) = 45
                      · rw [if_pos c14] at H
                        have c14b0 := beq_iff_eq.mpr c14
                        have c14b1 := bne_eq_false_iff_eq.mpr c14
                        clear c14
                        have H' := Aside0.mk H
                        clear H
                        have p4 : 0 ≤ (x3_1 : Int) := of_decide_eq_true za
                        have q4 : x3_1 < (a0.size : Int) := of_decide_eq_true za
                        have hx4 := bt_at a0 x3_1
                        replace p4 := eq_true p4
                        replace q4 := eq_true q4
                        go_wp2
                        go_roundg k1
                        case measure => have := HK1.out; omega
                        case rel => exact ⟨(wrap64 (x3_1 + 1)), zs, H', ⟨by have := HK1.out; omega⟩, zd⟩
                      · rw [if_neg c14] at H
                        have c14b0 := beq_eq_false_iff_ne.mpr c14
                        have c14b1 := bne_iff_ne.mpr c14
                        obtain rfl := Option.some.inj H
                        have p4 : 0 ≤ (x3_1 : Int) := of_decide_eq_true za
                        have q4 : x3_1 < (a0.size : Int) := of_decide_eq_true za
                        have hx4 := bt_at a0 x3_1
                        replace p4 := eq_true p4
                        replace q4 := eq_true q4
                        go_wp2
                        go_ret
                        exact ⟨zs, zd⟩
                · rw [if_neg c11] at H
                  have c11b0 := decide_eq_false c11
                  clear c11
                  have H' := Aside0.mk H
                  clear H
                  have p4 : 0 ≤ (x3_1 : Int) := of_decide_eq_true za
                  have q4 : x3_1 < (a0.size : Int) := of_decide_eq_true za
                  have hx4 := bt_at a0 x3_1
                  replace p4 := eq_true p4
                  replace q4 := eq_true q4
                  go_wp2
                  go_roundg k1
                  case measure => have := HK1.out; omega
                  case rel => exact ⟨(wrap64 (x3_1 + 1)), zs, H', ⟨by have := HK1.out; omega⟩, zd⟩
            · rw [if_neg c6] at H
              have c6b0 := decide_eq_false c6
              clear c6
              by_cases c15 : (bt a0 x3_1) > 122
              · rw [if_pos c15] at H
                have c15b0 := decide_eq_true c15
                clear c15
                by_cases c16 : (bt a0 x3_1) < 48
                · rw [if_pos c16] at H
                  have c16b0 := decide_eq_true c16
                  clear c16
                  by_cases c17 : (bt a0 x3_1) = 46
                  · rw [if_pos c17] at H
                    have c17b0 := beq_iff_eq.mpr c17
                    have c17b1 := bne_eq_false_iff_eq.mpr c17
                    clear c17
                    have H' := Aside0.mk H
                    clear H
                    have p4 : 0 ≤ (x3_1 : Int) := of_decide_eq_true za
                    have q4 : x3_1 < (a0.size : Int) := of_decide_eq_true za
                    have hx4 := bt_at a0 x3_1
                    replace p4 := eq_true p4
                    replace q4 := eq_true q4
                    go_wp2
                    go_roundg k1
                    case measure => have := HK1.out; omega
                    case rel => exact ⟨(wrap64 (x3_1 + 1)), zs, H', ⟨by have := HK1.out; omega⟩, zd⟩
                  · rw [if_neg c17] at H
                    have c17b0 := beq_eq_false_iff_ne.mpr c17
                    have c17b1 := bne_iff_ne.mpr c17
                    by_cases c18 : (bt a0 x3_1) = 95
                    · rw [if_pos c18] at H
                      have c18b0 := beq_iff_eq.mpr c18
                      have c18b1 := bne_eq_false_iff_eq.mpr c18
                      clear c18
                      have H' := Aside0.mk H
                      clear H
                      have p4 : 0 ≤ (x3_1 : Int) := of_decide_eq_true za
                      have q4 : x3_1 < (a0.size : Int) := of_decide_eq_true za
                      have hx4 := bt_at a0 x3_1
                      replace p4 := eq_true p4
                      replace q4 := eq_true q4
                      go_wp2
                      go_roundg k1
                      case measure => have := HK1.out; omega
                      case rel => exact ⟨(wrap64 (x3_1 + 1)), zs, H', ⟨by have := HK1.out; omega⟩, zd⟩
                    · rw [if_neg c18] at H
                      have c18b0 := beq_eq_false_iff_ne.mpr c18
                      have c18b1 := bne_iff_ne.mpr c18
                      by_cases c19 : (bt a0 x3_1) = 45
                      · rw [if_pos c19] at H
                        have c19b0 := beq_iff_eq.mpr c19
                        have c19b1 := bne_eq_false_iff_eq.mpr c19
                        clear c19
                        have H' := Aside0.mk H
                        clear H
                        have p4 : 0 ≤ (x3_1 : Int) := of_decide_eq_true za
                        have q4 : x3_1 < (a0.size : Int) := of_decide_eq_true za
                        have hx4 := bt_at a0 x3_1
                        replace p4 := eq_true p4
                        replace q4 := eq_true q4
                        go_wp2
                        go_roundg k1
                        case measure => have := HK1.out; omega
                        case rel => exact ⟨(wrap64 (x3_1 + 1)), zs, H', ⟨by have := HK1.out; omega⟩, zd⟩
                      · rw [if_neg c19] at H
                        have c19b0 := beq_eq_false_iff_ne.mpr c19
                        have c19b1 := bne_iff_ne.mpr c19
                        obtain rfl := Option.some.inj H
                        have p4 : 0 ≤ (x3_1 : Int) := of_decide_eq_true za
                        have q4 : x3_1 < (a0.size : Int) := of_decide_eq_true za
                        have hx4 := bt_at a0 x3_1
                        replace p4 := eq_true p4
                        replace q4 := eq_true q4
                        go_wp2
                        go_ret
                        exact ⟨zs, zd⟩
                · rw [if_neg c16] at H
                  have c16b0 := decide_eq_false c16
                  clear c16
                  by_cases c20 : (bt a0 x3_1) > 57
                  · rw [if_pos c20] at H
                    have c20b0 := decide_eq_true c20
                    clear c20
                    by_cases c21 : (bt a0 x3_1) = 46
                    · rw [if_pos c21] at H
                      have c21b0 := beq_iff_eq.mpr c21
                      have c21b1 := bne_eq_false_iff_eq.mpr c21
                      clear c21
                      have H' := Aside0.mk H
                      clear H
                      have p4 : 0 ≤ (x3_1 : Int) := of_decide_eq_true za
                      have q4 : x3_1 < (a0.size : Int) := of_decide_eq_true za
                      have hx4 := bt_at a0 x3_1
                      replace p4 := eq_true p4
                      replace q4 := eq_true q4
                      go_wp2
                      go_roundg k1
                      case measure => have := HK1.out; omega
                      case rel => exact ⟨(wrap64 (x3_1 + 1)), zs, H', ⟨by have := HK1.out; omega⟩, zd⟩
                    · rw [if_neg c21] at H
                      have c21b0 := beq_eq_false_iff_ne.mpr c21
                      have c21b1 := bne_iff_ne.mpr c21
                      by_cases c22 : (bt a0 x3_1) = 95
                      · rw [if_pos c22] at H
                        have c22b0 := beq_iff_eq.mpr c22
                        have c22b1 := bne_eq_false_iff_eq.mpr c22
                        clear c22
                        have H' := Aside0.mk H
                        clear H
                        have p4 : 0 ≤ (x3_1 : Int) := of_decide_eq_true za
                        have q4 : x3_1 < (a0.size : Int) := of_decide_eq_true za
                        have hx4 := bt_at a0 x3_1
                        replace p4 := eq_true p4
                        replace q4 := eq_true q4
                        go_wp2
                        go_roundg k1
                        case measure => have := HK1.out; omega
                        case rel => exact ⟨(wrap64 (x3_1 + 1)), zs, H', ⟨by have := HK1.out; omega⟩, zd⟩
                      · rw [if_neg c22] at H
                        have c22b0 := beq_eq_false_iff_ne.mpr c22
                        have c22b1 := bne_iff_ne.mpr c22
                        by_cases c23 : (bt a0 x3_1) = 45
                        · rw [if_pos c23] at H
                          have c23b0 := beq_iff_eq.mpr c23
                          have c23b1 := bne_eq_false_iff_eq.mpr c23
                          clear c23
                          have H' := Aside0.mk H
                          clear H
                          have p4 : 0 ≤ (x3_1 : Int) := of_decide_eq_true za
                          have q4 : x3_1 < (a0.size : Int) := of_decide_eq_true za
                          have hx4 := bt_at a0 x3_1
                          replace p4 := eq_true p4
                          replace q4 := eq_true q4
                          go_wp2
                          go_roundg k1
                          case measure => have := HK1.out; omega
                          case rel => exact ⟨(wrap64 (x3_1 + 1)), zs, H', ⟨by have := HK1.out; omega⟩, zd⟩
                        · rw [if_neg c23] at H
                          have c23b0 := beq_eq_false_iff_ne.mpr c23
                          have c23b1 := bne_iff_ne.mpr c23
                          obtain rfl := Option.some.inj H
                          have p4 : 0 ≤ (x3_1 : Int) := of_decide_eq_true za
                          have q4 : x3_1 < (a0.size : Int) := of_decide_eq_true za
                          have hx4 := bt_at a0 x3_1
                          replace p4 := eq_true p4
                          replace q4 := eq_true q4
                          go_wp2
                          go_ret
                          exact ⟨zs, zd⟩
                  · rw [if_neg c20] at H
                    have c20b0 := decide_eq_false c20
                    clear c20
                    have H' := Aside0.mk H
                    clear H
                    have p4 : 0 ≤ (x3_1 : Int) := of_decide_eq_true za
                    have q4 : x3_1 < (a0.size : Int) := of_decide_eq_true za
                    have hx4 := bt_at a0 x3_1
                    replace p4 := eq_true p4
                    replace q4 := eq_true q4
                    go_wp2
                    go_roundg k1
                    case measure => have := HK1.out; omega
                    case rel => exact ⟨(wrap64 (x3_1 + 1)), zs, H', ⟨by have := HK1.out; omega⟩, zd⟩
              · rw [if_neg c15] at H
                have c15b0 := decide_eq_false c15
                clear c15
                have H' := Aside0.mk H
                clear H
                have p4 : 0 ≤ (x3_1 : Int) := of_decide_eq_true za
                have q4 : x3_1 < (a0.size : Int) := of_decide_eq_true za
                have hx4 := bt_at a0 x3_1
                replace p4 := eq_true p4
                replace q4 := eq_true q4
                go_wp2
                go_roundg k1
                case measure => have := HK1.out; omega
                case rel => exact ⟨(wrap64 (x3_1 + 1)), zs, H', ⟨by have := HK1.out; omega⟩, zd⟩
          · rw [if_neg c5] at H
            have c5b0 := decide_eq_false c5
            clear c5
            by_cases c24 : (bt a0 x3_1) > 90
            · rw [if_pos c24] at H
              have c24b0 := decide_eq_true c24
              clear c24
              by_cases c25 : (bt a0 x3_1) < 97
              · rw [if_pos c25] at H
                have c25b0 := decide_eq_true c25
                clear c25
                by_cases c26 : (bt a0 x3_1) < 48
                · rw [if_pos c26] at H
                  have c26b0 := decide_eq_true c26
                  clear c26
                  by_cases c27 : (bt a0 x3_1) = 46
                  · rw [if_pos c27] at H
                    have c27b0 := beq_iff_eq.mpr c27
                    have c27b1 := bne_eq_false_iff_eq.mpr c27
                    clear c27
                    have H' := Aside0.mk H
                    clear H
                    have p4 : 0 ≤ (x3_1 : Int) := of_decide_eq_true za
                    have q4 : x3_1 < (a0.size : Int) := of_decide_eq_true za
                    have hx4 := bt_at a0 x3_1
                    replace p4 := eq_true p4
                    replace q4 := eq_true q4
                    go_wp2
                    go_roundg k1
                    case measure => have := HK1.out; omega
                    case rel => exact ⟨(wrap64 (x3_1 + 1)), zs, H', ⟨by have := HK1.out; omega⟩, zd⟩
                  · rw [if_neg c27] at H
                    have c27b0 := beq_eq_false_iff_ne.mpr c27
                    have c27b1 := bne_iff_ne.mpr c27
                    by_cases c28 : (bt a0 x3_1) = 95
                    · rw [if_pos c28] at H
                      have c28b0 := beq_iff_eq.mpr c28
                      have c28b1 := bne_eq_false_iff_eq.mpr c28
                      clear c28
                      have H' := Aside0.mk H
                      clear H
                      have p4 : 0 ≤ (x3_1 : Int) := of_decide_eq_true za
                      have q4 : x3_1 < (a0.size : Int) := of_decide_eq_true za
                      have hx4 := bt_at a0 x3_1
                      replace p4 := eq_true p4
                      replace q4 := eq_true q4
                      go_wp2
                      go_roundg k1
                      case measure => have := HK1.out; omega
                      case rel => exact ⟨(wrap64 (x3_1 + 1)), zs, H', ⟨by have := HK1.out; omega⟩, zd⟩
                    · rw [if_neg c28] at H
                      have c28b0 := beq_eq_false_iff_ne.mpr c28
                      have c28b1 := bne_iff_ne.mpr c28
                      by_cases c29 : (bt a0 x3_1) = 45
                      · rw [if_pos c29] at H
                        have c29b0 := beq_iff_eq.mpr c29
                        have c29b1 := bne_eq_false_iff_eq.mpr c29
                        clear c29
                        have H' := Aside0.mk H
                        clear H
                        have p4 : 0 ≤ (x3_1 : Int) := of_decide_eq_true za
                        have q4 : x3_1 < (a0.size : Int) := of_decide_eq_true za
                        have hx4 := bt_at a0 x3_1
                        replace p4 := eq_true p4
                        replace q4 := eq_true q4
                        go_wp2
                        go_roundg k1
                        case measure => have := HK1.out; omega
                        case rel => exact ⟨(wrap64 (x3_1 + 1)), zs, H', ⟨by have := HK1.out; omega⟩, zd⟩
                      · rw [if_neg c29] at H
                        have c29b0 := beq_eq_false_iff_ne.mpr c29
                        have c29b1 := bne_iff_ne.mpr c29
                        obtain rfl := Option.some.inj H
                        have p4 : 0 ≤ (x3_1 : Int) := of_decide_eq_true za
                        have q4 : x3_1 < (a0.size : Int) := of_decide_eq_true za
                        have hx4 := bt_at a0 x3_1
                        replace p4 := eq_true p4
                        replace q4 := eq_true q4
                        go_wp2
                        go_ret
                        exact ⟨zs, zd⟩
                · rw [if_neg c26] at H
                  have c26b0 := decide_eq_false c26
                  clear c26
                  by_cases c30 : (bt a0 x3_1) > 57
                  · rw [if_pos c30] at H
                    have c30b0 := decide_eq_true c30
                    clear c30
                    by_cases c31 : (bt a0 x3_1) = 46
                    · rw [if_pos c31] at H
                      have c31b0 := beq_iff_eq.mpr c31
                      have c31b1 := bne_eq_false_iff_eq.mpr c31
                      clear c31
                      have H' := Aside0.mk H
                      clear H
                      have p4 : 0 ≤ (x3_1 : Int) := of_decide_eq_true za
                      have q4 : x3_1 < (a0.size : Int) := of_decide_eq_true za
                      have hx4 := bt_at a0 x3_1
                      replace p4 := eq_true p4
                      replace q4 := eq_true q4
                      go_wp2
                      go_roundg k1
                      case measure => have := HK1.out; omega
                      case rel => exact ⟨(wrap64 (x3_1 + 1)), zs, H', ⟨by have := HK1.out; omega⟩, zd⟩
                    · rw [if_neg c31] at H
                      have c31b0 := beq_eq_false_iff_ne.mpr c31
                      have c31b1 := bne_iff_ne.mpr c31
                      by_cases c32 : (bt a0 x3_1) = 95
                      · rw [if_pos c32] at H
                        have c32b0 := beq_iff_eq.mpr c32
                        have c32b1 := bne_eq_false_iff_eq.mpr c32
                        clear c32
                        have H' := Aside0.mk H
                        clear H
                        have p4 : 0 ≤ (x3_1 : Int) := of_decide_eq_true za
                        have q4 : x3_1 < (a0.size : Int) := of_decide_eq_true za
                        have hx4 := bt_at a0 x3_1
                        replace p4 := eq_true p4
                        replace q4 := eq_true q4
                        go_wp2
                        go_roundg k1
                        case measure => have := HK1.out; omega
                        case rel => exact ⟨(wrap64 (x3_1 + 1)), zs, H', ⟨by have := HK1.out; omega⟩, zd⟩
                      · rw [if_neg c32] at H
                        have c32b0 := beq_eq_false_iff_ne.mpr c32
                        have c32b1 := bne_iff_ne.mpr c32
                        by_cases c33 : (bt a0 x3_1) = 45
                        · rw [if_pos c33] at H
                          have c33b0 := beq_iff_eq.mpr c33
                          have c33b1 := bne_eq_false_iff_eq.mpr c33
                          clear c33
                          have H' := Aside0.mk H
                          clear H
                          have p4 : 0 ≤ (x3_1 : Int) := of_decide_eq_true za
                          have q4 : x3_1 < (a0.size : Int) := of_decide_eq_true za
                          have hx4 := bt_at a0 x3_1
                          replace p4 := eq_true p4
                          replace q4 := eq_true q4
                          go_wp2
                          go_roundg k1
                          case measure => have := HK1.out; omega
                          case rel => exact ⟨(wrap64 (x3_1 + 1)), zs, H', ⟨by have := HK1.out; omega⟩, zd⟩
                        · rw [if_neg c33] at H
                          have c33b0 := beq_eq_false_iff_ne.mpr c33
                          have c33b1 := bne_iff_ne.mpr c33
                          obtain rfl := Option.some.inj H
                          have p4 : 0 ≤ (x3_1 : Int) := of_decide_eq_true za
                          have q4 : x3_1 < (a0.size : Int) := of_decide_eq_true za
                          have hx4 := bt_at a0 x3_1
                          replace p4 := eq_true p4
                          replace q4 := eq_true q4
                          go_wp2
                          go_ret
                          exact ⟨zs, zd⟩
                  · rw [if_neg c30] at H
                    have c30b0 := decide_eq_false c30
                    clear c30
                    have H' := Aside0.mk H
                    clear H
                    have p4 : 0 ≤ (x3_1 : Int) := of_decide_eq_true za
                    have q4 : x3_1 < (a0.size : Int) := of_decide_eq_true za
                    have hx4 := bt_at a0 x3_1
                    replace p4 := eq_true p4
                    replace q4 := eq_true q4
                    go_wp2
                    go_roundg k1
                    case measure => have := HK1.out; omega
                    case rel => exact ⟨(wrap64 (x3_1 + 1)), zs, H', ⟨by have := HK1.out; omega⟩, zd⟩
              · rw [if_neg c25] at H
                have c25b0 := decide_eq_false c25
                clear c25
                by_cases c34 : (bt a0 x3_1) > 122
                · rw [if_pos c34] at H
                  have c34b0 := decide_eq_true c34
                  clear c34
                  by_cases c35 : (bt a0 x3_1) < 48
                  · rw [if_pos c35] at H
                    have c35b0 := decide_eq_true c35
                    clear c35
                    by_cases c36 : (bt a0 x3_1) = 46
                    · rw [if_pos c36] at H
                      have c36b0 := beq_iff_eq.mpr c36
                      have c36b1 := bne_eq_false_iff_eq.mpr c36
                      clear c36
                      have H' := Aside0.mk H
                      clear H
                      have p4 : 0 ≤ (x3_1 : Int) := of_decide_eq_true za
                      have q4 : x3_1 < (a0.size : Int) := of_decide_eq_true za
                      have hx4 := bt_at a0 x3_1
                      replace p4 := eq_true p4
                      replace q4 := eq_true q4
                      go_wp2
                      go_roundg k1
                      case measure => have := HK1.out; omega
                      case rel => exact ⟨(wrap64 (x3_1 + 1)), zs, H', ⟨by have := HK1.out; omega⟩, zd⟩
                    · rw [if_neg c36] at H
                      have c36b0 := beq_eq_false_iff_ne.mpr c36
                      have c36b1 := bne_iff_ne.mpr c36
                      by_cases c37 : (bt a0 x3_1) = 95
                      · rw [if_pos c37] at H
                        have c37b0 := beq_iff_eq.mpr c37
                        have c37b1 := bne_eq_false_iff_eq.mpr c37
                        clear c37
                        have H' := Aside0.mk H
                        clear H
                        have p4 : 0 ≤ (x3_1 : Int) := of_decide_eq_true za
                        have q4 : x3_1 < (a0.size : Int) := of_decide_eq_true za
                        have hx4 := bt_at a0 x3_1
                        replace p4 := eq_true p4
                        replace q4 := eq_true q4
                        go_wp2
                        go_roundg k1
                        case measure => have := HK1.out; omega
                        case rel => exact ⟨(wrap64 (x3_1 + 1)), zs, H', ⟨by have := HK1.out; omega⟩, zd⟩
                      · rw [if_neg c37] at H
                        have c37b0 := beq_eq_false_iff_ne.mpr c37
                        have c37b1 := bne_iff_ne.mpr c37
                        by_cases c38 : (bt a0 x3_1) = 45
                        · rw [if_pos c38] at H
                          have c38b0 := beq_iff_eq.mpr c38
                          have c38b1 := bne_eq_false_iff_eq.mpr c38
                          clear c38
                          have H' := Aside0.mk H
                          clear H
                          have p4 : 0 ≤ (x3_1 : Int) := of_decide_eq_true za
                          have q4 : x3_1 < (a0.size : Int) := of_decide_eq_true za
                          have hx4 := bt_at a0 x3_1
                          replace p4 := eq_true p4
                          replace q4 := eq_true q4
                          go_wp2
                          go_roundg k1
                          case measure => have := HK1.out; omega
                          case rel => exact ⟨(wrap64 (x3_1 + 1)), zs, H', ⟨by have := HK1.out; omega⟩, zd⟩
                        · rw [if_neg c38] at H
                          have c38b0 := beq_eq_false_iff_ne.mpr c38
                          have c38b1 := bne_iff_ne.mpr c38
                          obtain rfl := Option.some.inj H
                          have p4 : 0 ≤ (x3_1 : Int) := of_decide_eq_true za
                          have q4 : x3_1 < (a0.size : Int) := of_decide_eq_true za
                          have hx4 := bt_at a0 x3_1
                          replace p4 := eq_true p4
                          replace q4 := eq_true q4
                          go_wp2
                          go_ret
                          exact ⟨zs, zd⟩
                  · rw [if_neg c35] at H
                    have c35b0 := decide_eq_false c35
                    clear c35
                    by_cases c39 : (bt a0 x3_1) > 57
                    · rw [if_pos c39] at H
                      have c39b0 := decide_eq_true c39
                      clear c39
                      by_cases c40 : (bt a0 x3_1) = 46
                      · rw [if_pos c40] at H
                        have c40b0 := beq_iff_eq.mpr c40
                        have c40b1 := bne_eq_false_iff_eq.mpr c40
                        clear c40
                        have H' := Aside0.mk H
                        clear H
                        have p4 : 0 ≤ (x3_1 : Int) := of_decide_eq_true za
                        have q4 : x3_1 < (a0.size : Int) := of_decide_eq_true za
                        have hx4 := bt_at a0 x3_1
                        replace p4 := eq_true p4
                        replace q4 := eq_true q4
                        go_wp2
                        go_roundg k1
                        case measure => have := HK1.out; omega
                        case rel => exact ⟨(wrap64 (x3_1 + 1)), zs, H', ⟨by have := HK1.out; omega⟩, zd⟩
                      · rw [if_neg c40] at H
                        have c40b0 := beq_eq_false_iff_ne.mpr c40
                        have c40b1 := bne_iff_ne.mpr c40
                        by_cases c41 : (bt a0 x3_1) = 95
                        · rw [if_pos c41] at H
                          have c41b0 := beq_iff_eq.mpr c41
                          have c41b1 := bne_eq_false_iff_eq.mpr c41
                          clear c41
                          have H' := Aside0.mk H
                          clear H
                          have p4 : 0 ≤ (x3_1 : Int) := of_decide_eq_true za
                          have q4 : x3_1 < (a0.size : Int) := of_decide_eq_true za
                          have hx4 := bt_at a0 x3_1
                          replace p4 := eq_true p4
                          replace q4 := eq_true q4
                          go_wp2
                          go_roundg k1
                          case measure => have := HK1.out; omega
                          case rel => exact ⟨(wrap64 (x3_1 + 1)), zs, H', ⟨by have := HK1.out; omega⟩, zd⟩
                        · rw [if_neg c41] at H
                          have c41b0 := beq_eq_false_iff_ne.mpr c41
                          have c41b1 := bne_iff_ne.mpr c41
                          by_cases c42 : (bt a0 x3_1) = 45
                          · rw [if_pos c42] at H
                            have c42b0 := beq_iff_eq.mpr c42
                            have c42b1 := bne_eq_false_iff_eq.mpr c42
                            clear c42
                            have H' := Aside0.mk H
                            clear H
                            have p4 : 0 ≤ (x3_1 : Int) := of_decide_eq_true za
                            have q4 : x3_1 < (a0.size : Int) := of_decide_eq_true za
                            have hx4 := bt_at a0 x3_1
                            replace p4 := eq_true p4
                            replace q4 := eq_true q4
                            go_wp2
                            go_roundg k1
                            case measure => have := HK1.out; omega
                            case rel => exact ⟨(wrap64 (x3_1 + 1)), zs, H', ⟨by have := HK1.out; omega⟩, zd⟩
                          · rw [if_neg c42] at H
                            have c42b0 := beq_eq_false_iff_ne.mpr c42
                            have c42b1 := bne_iff_ne.mpr c42
                            obtain rfl := Option.some.inj H
                            have p4 : 0 ≤ (x3_1 : Int) := of_decide_eq_true za
                            have q4 : x3_1 < (a0.size : Int) := of_decide_eq_true za
                            have hx4 := bt_at a0 x3_1
                            replace p4 := eq_true p4
                            replace q4 := eq_true q4
                            go_wp2
                            go_ret
                            exact ⟨zs, zd⟩
                    · rw [if_neg c39] at H
                      have c39b0 := decide_eq_false c39
                      clear c39
                      have H' := Aside0.mk H
                      clear H
                      have p4 : 0 ≤ (x3_1 : Int) := of_decide_eq_true za
                      have q4 : x3_1 < (a0.size : Int) := of_decide_eq_true za
                      have hx4 := bt_at a0 x3_1
                      replace p4 := eq_true p4
                      replace q4 := eq_true q4
                      go_wp2
                      go_roundg k1
                      case measure => have := HK1.out; omega
                      case rel => exact ⟨(wrap64 (x3_1 + 1)), zs, H', ⟨by have := HK1.out; omega⟩, zd⟩
                · rw [if_neg c34] at H
                  have c34b0 := decide_eq_false c34
                  clear c34
                  have H' := Aside0.mk H
                  clear H
                  have p4 : 0 ≤ (x3_1 : Int) := of_decide_eq_true za
                  have q4 : x3_1 < (a0.size : Int) := of_decide_eq_true za
                  have hx4 := bt_at a0 x3_1
                  replace p4 := eq_true p4
                  replace q4 := eq_true q4
                  go_wp2
                  go_roundg k1
                  case measure => have := HK1.out; omega
                  case rel => exact ⟨(wrap64 (x3_1 + 1)), zs, H', ⟨by have := HK1.out; omega⟩, zd⟩
            · rw [if_neg c24] at H
              have c24b0 := decide_eq_false c24
              clear c24
              have H' := Aside0.mk H
              clear H
              have p4 : 0 ≤ (x3_1 : Int) := of_decide_eq_true za
              have q4 : x3_1 < (a0.size : Int) := of_decide_eq_true za
              have hx4 := bt_at a0 x3_1
              replace p4 := eq_true p4
              replace q4 := eq_true q4
              go_wp2
              go_roundg k1
              case measure => have := HK1.out; omega
              case rel => exact ⟨(wrap64 (x3_1 + 1)), zs, H', ⟨by have := HK1.out; omega⟩, zd⟩
        · rw [if_neg c3] at H
          exact absurd H (by simp)
      · rw [if_neg c2] at H
        have c2b0 := decide_eq_false c2
        clear c2
        by_cases c43 : (a0.size : Int) ≥ 1
        · rw [if_pos c43] at H
          have c43b0 := decide_eq_true c43
          have c43b1 : decide (1 ≤ a0.size) = true := decide_eq_true (by omega)
          clear c43
          obtain rfl := Option.some.inj H
          go_wp2
          go_ret
          exact ⟨zs, zd⟩
        · rw [if_neg c43] at H
          have c43b0 := decide_eq_false c43
          have c43b1 : decide (1 ≤ a0.size) = false := decide_eq_false (by omega)
          clear c43
          obtain rfl := Option.some.inj H
          go_wp2
          go_ret
          exact ⟨zs, zd⟩
/-! ### entrepotref06_Known: function 144 -/
def entrepotref06_Known.f (a0 : Int) : Option (Bool) := if a0 ≥ 0 then (some (decide (a0 ≤ 6))) else (some false)
set_option maxHeartbeats 8000000 in
set_option maxRecDepth 100000 in
theorem entrepotref06_Known.calls (a0 : Int) (r : Bool) (w : World) (h : entrepotref06_Known.f a0 = some r) :
  Calls Tryz.prog 144 #[.int .i64 a0] w fun e w' => e = .returned (.bool r) ∧ Drawn0 w w' := by
 have H : (if a0 ≥ 0 then (some (decide (a0 ≤ 6))) else (some false)) = some r := h
 clear h
 by_cases c2 : a0 ≥ 0
 ·rw [if_pos c2] at H
  have c2b0 := decide_eq_true c2
  clear c2
  obtain rfl := Option.some.inj H
  go_enter Tryz.func144, Tryz.ntmps144
  go_wp2
  go_ret
  exact ⟨zs, zd⟩
 ·rw [if_neg c2] at H
  have c2b0 := decide_eq_false c2
  clear c2
  obtain rfl := Option.some.inj H
  go_enter Tryz.func144, Tryz.ntmps144
  go_wp2
  go_ret
  exact ⟨zs, zd⟩
/-! ### entrepotref08_number: function 186 -/
def entrepotref08_number.f (a0 : Int) : Option (Bool) := if a0 ≥ 0 then (some (decide (a0 ≤ 100000000))) else (some false)
set_option maxHeartbeats 8000000 in
set_option maxRecDepth 100000 in
theorem entrepotref08_number.calls (a0 : Int) (r : Bool) (w : World) (h : entrepotref08_number.f a0 = some r) :
  Calls Tryz.prog 186 #[.int .i64 a0] w fun e w' => e = .returned (.bool r) ∧ Drawn0 w w' := by
 have H : (if a0 ≥ 0 then (some (decide (a0 ≤ 100000000))) else (some false)) = some r := h
 clear h
 by_cases c2 : a0 ≥ 0
 ·rw [if_pos c2] at H
  have c2b0 := decide_eq_true c2
  clear c2
  obtain rfl := Option.some.inj H
  go_enter Tryz.func186, Tryz.ntmps186
  go_wp2
  go_ret
  exact ⟨zs, zd⟩
 ·rw [if_neg c2] at H
  have c2b0 := decide_eq_false c2
  clear c2
  obtain rfl := Option.some.inj H
  go_enter Tryz.func186, Tryz.ntmps186
  go_wp2
  go_ret
  exact ⟨zs, zd⟩
end Go.Proofs.YtofklpphalalhaaGreatDoor.PAll
