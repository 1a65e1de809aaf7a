/- IsSortedFunc at diagnostics, walked by hand. Conditions: lists of at most 1000000000. -/
import Derived.Test.YtgphciopondlaaaDoorGivenB
namespace Go.Proofs.YtgphciopondlaaaDoor
set_option linter.unusedVariables false
set_option linter.unusedSimpArgs false
open Go.RowKit Go.Sort Go.Lib Go.Proofs.YtgphciopondlaaaDoor.PAll Go.Proofs.YtgphciopondlaaaDoorW.PrintWords Go.Proofs.YtgphciopondlaaaDoorW.PrintLast
set_option maxRecDepth 100000 in
set_option maxHeartbeats 1000000 in
theorem isSorted_calls (A : Option Addr) (cap : Nat) (l : List Dg.D) (w : World) (hlen : l.length ≤ 1000000000) (hr : Rd w A l) :
    Calls Tryd.prog 34 #[.slice A l.length cap, .func (.func 25) #[] #[]] w fun e w' => e = .returned (.bool (Dg.noDown l)) ∧ Below w.heap.size w w' := by
  have mixed := mixed_
  have eg := enters25
  by_cases hl0 : l.length = 0
  · have hnd : Aside0 (Dg.noDown l = true) := ⟨by rw [List.length_eq_zero_iff.1 hl0]; rfl⟩
    rw [hl0]
    clear hl0 hr
    go_enter Tryd.func34, Tryd.ntmps34
    go_wp2
    go_loopg [5] 0 (fun kx s5 wr => s5 = .int .i64 (-1) ∧ wr = w)
    case atStart => exact ⟨rfl, rfl⟩
    case round =>
      obtain ⟨rfl, rfl⟩ := hrel
      go_wp2
      go_ret
      exact ⟨by rw [hnd.out]; rfl, Below.refl _ _⟩
  · have HR := Aside0.mk hr
    clear hr
    obtain ⟨n, hn⟩ : ∃ n, l.length = n := ⟨_, rfl⟩
    have HN := Aside0.mk hn
    rw [hn] at hl0 hlen ⊢
    clear hn
    have hz : (n : Int) - 1 = ((n - 1 : Nat) : Int) := by omega
    go_enter Tryd.func34, Tryd.ntmps34
    go_wp2
    go_loopg [5] n (fun kx s5 wr => ∃ k : Nat, s5 = .int .i64 k ∧ k < n ∧ k ≤ kx ∧ Aside0 (Below w.heap.size w wr) ∧ Aside0 (∀ t (ht : t + 1 < l.length), k ≤ t → Dg.less l[t + 1] (l[t]'(by omega)) = false))
    case atStart => exact ⟨n - 1, by first | rfl | rw [hz], by omega, by omega, ⟨Below.refl _ _⟩, ⟨fun t ht h => by have := HN.out; omega⟩⟩
    case round =>
      clear hz
      obtain ⟨k, rfl, hk, hg, S1, I⟩ := hrel
      by_cases hk0 : 0 < k
      · have hkl : k < l.length := by rw [HN.out]; exact hk
        obtain ⟨ad, rfl, c2, c3⟩ := (HR.out.below S1.out) k hkl
        obtain ⟨ad', ea, c4, c5⟩ := (HR.out.below S1.out) (k - 1) (by omega)
        obtain rfl := Option.some.inj ea
        have e2 := fun (n : Nat) (os : Array Obj) => cell_grown (World.block_lt_of_cell? _ _ c2) c2 n os
        have e3 := fun (n : Nat) (os : Array Obj) => cell_grown (World.block_lt_of_cell? _ _ c3) c3 n os
        have e4 := fun (n : Nat) (os : Array Obj) => cell_grown (World.block_lt_of_cell? _ _ c4) c4 n os
        have e5 := fun (n : Nat) (os : Array Obj) => cell_grown (World.block_lt_of_cell? _ _ c5) c5 n os
        clear c2 c3 c4 c5 ea
        obtain ⟨x, hx⟩ : ∃ x, l[k] = x := ⟨_, rfl⟩
        obtain ⟨y, hy⟩ : ∃ y, l[k - 1]'(by omega) = y := ⟨_, rfl⟩
        rw [hx] at e2 e3
        rw [hy] at e4 e5
        obtain ⟨j, hj⟩ : ∃ j, k - 1 = j := ⟨_, rfl⟩
        simp only [hj] at e4 e5 hy
        have hkj : k = j + 1 := by omega
        have hjl : j < l.length := by omega
        have hjl1 : j + 1 < l.length := by omega
        have hxj : l[j + 1]'hjl1 = x := by rw [← hx]; simp only [hkj]
        have hyj : l[j]'hjl = y := hy
        clear hy
        clear hj
        have hc := fun W => compare_calls x y W
        have hneg := Dg.cmpD_neg x y
        obtain ⟨r, hr⟩ : ∃ r, Dg.cmpD x y = r := ⟨_, rfl⟩
        rw [hr] at hneg hc
        clear hr
        have hm0 : (0 : Int) ≤ (k : Int) := by omega
        have hm1 : (k : Int) < (n : Int) := by omega
        have hm3 : (j : Int) < (n : Int) := by omega
        have hm2 : (k : Int) - 1 = (j : Int) := by omega
        have hjn : j < n := by omega
        replace hkj := Aside0.mk hkj
        replace hxj := Aside0.mk hxj
        replace hc := Aside0.mk hc
        replace hx := Aside0.mk hx
        replace hyj := Aside0.mk hyj
        by_cases hr0 : r < 0
        · have hle := Aside0.mk (hneg.1 hr0)
          clear hneg
          go_wp2_with fail
          have hw := k64 (j : Int) (by omega) (by omega)
          go_quiet_grown (first | (go_at_fn 25; refine Calls.grown_of (hc.out _)))
          clear hw
          go_wp2
          go_ret
          refine ⟨?_, below_grown S1.out S1.out.size _ _⟩
          have : Dg.noDown l = false := by
            cases hnd : Dg.noDown l with
            | false => rfl
            | true =>
              have := (Dg.noDown_iff l).1 hnd j (by have := hkj.out; omega)
              rw [hxj.out, hyj.out, hle.out] at this; cases this
          rw [this]; rfl
        · have hle := Aside0.mk (show ¬ Dg.less x y = true from fun e => hr0 (hneg.2 e))
          clear hneg
          go_wp2_with fail
          have hw := k64 (j : Int) (by omega) (by omega)
          go_quiet_grown (first | (go_at_fn 25; refine Calls.grown_of (hc.out _)))
          clear hw
          go_wp2
          go_roundg j
          case measure => have := hkj.out; omega
          case rel =>
            refine ⟨j, by first | rfl | go_num, by omega, Nat.le_refl _, ⟨below_grown S1.out S1.out.size _ _⟩, ⟨fun t ht htk => ?_⟩⟩
            rcases Nat.lt_or_ge j t with h | h
            · exact I.out t ht (by have := hkj.out; omega)
            · obtain rfl : t = j := by omega
              rw [hxj.out, hyj.out]; simpa using hle.out
      · obtain rfl : k = 0 := by omega
        have hnd : Aside0 (Dg.noDown l = true) := ⟨(Dg.noDown_iff l).2 fun t ht => I.out t ht (Nat.zero_le _)⟩
        go_wp2
        go_ret
        exact ⟨by rw [hnd.out]; rfl, S1.out⟩
end Go.Proofs.YtgphciopondlaaaDoor
