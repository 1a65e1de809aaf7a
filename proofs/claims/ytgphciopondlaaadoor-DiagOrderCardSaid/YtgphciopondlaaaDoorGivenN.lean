/- All of diag: put together, sort, drop doubles, keep sixteen. Conditions: at most 1000000 in all. -/
import Derived.Test.YtgphciopondlaaaDoorGivenM
namespace Go.Proofs.YtgphciopondlaaaDoor
set_option linter.unusedVariables false
set_option linter.unusedSimpArgs false
open Go.RowKit Go.Sort Go.Lib Go.Proofs.YtgphciopondlaaaDoor.PAll Go.Proofs.YtgphciopondlaaaDoorW.PrintWords Go.Proofs.YtgphciopondlaaaDoorW.PrintLast

theorem lt_less (x y : Dg.D) : ltOf Dg.cmpD x y = Dg.less x y := by
  unfold ltOf
  rw [Bool.eq_iff_iff, decide_eq_true_eq, Dg.cmpD_neg]
theorem swo : SWO (ltOf Dg.cmpD) where
  irrefl x := by rw [lt_less]; exact Dg.less_irrefl x
  trans x y z h1 h2 := by rw [lt_less] at *; exact Dg.less_trans h1 h2
  ntrans x y z h1 h2 := by rw [lt_less] at *; rw [Dg.less_iff'] at *; omega
def sortD (l : List Dg.D) : List Dg.D := l.mergeSort fun x y => !Dg.less y x
theorem sortD_length (l : List Dg.D) : (sortD l).length = l.length := List.length_mergeSort ..
theorem below_grow {b : Nat} {w wr : World} (h : Below b w wr) (hb : b ≤ wr.heap.size) (os : Array Obj) : Below b w (grow wr os) := below_grown h hb 0 os
theorem sort_calls (v : Value) (base : Nat) (l : List Dg.D) (w : World) (hlen : l.length ≤ 1000000) (ho : w.ownsRow base 25 2 v l.length (flat l)) (hbase : base ≤ w.heap.size) :
    Calls Tryd.prog 32 #[v, .func (.func 25) #[] #[]] w fun e w' => e = .returned (.tuple #[]) ∧ w'.ownsRow base 25 2 v l.length (flat (sortD l)) ∧ Below base w w' := by
  rcases ho.2 with ⟨rfl, h0⟩ | ⟨g, cap, cur, rfl, hb, _⟩
  · obtain rfl : l = [] := List.length_eq_zero_iff.1 h0
    refine (AnyF.slices_SortFunc_none (P := Tryd.prog) (ρ := Tryd.laysSort_ren) Tryd.laysSort none 0 (.func (.func 25) #[] #[]) w).mono ?_
    rintro e w' ⟨rfl, rfl⟩
    exact ⟨rfl, (by rw [show sortD [] = [] by simp [sortD]]; exact ho), Below.refl _ _⟩
  · obtain ⟨hH, hbg, hg, _, _, _⟩ := holds_of_own ho
    have hS := AnyQ.slices_SortFunc_total Tryd.laysSort 2 (fun w => Tryd.isAgg25 w) (fun w => Tryd.sizeOf25 w) enc (fun _ => rfl) (fun x v hv => by
      simp [enc] at hv
      rcases hv with rfl | rfl <;> rfl) Dg.cmpD swo 25 #[] g 0 cap l.toArray w enters25 (fun m os dk _ x y => compare_calls x y _) hH hg (by simp only [List.size_toArray]; omega) (fun x y h1 h2 => by rw [lt_less] at h1 h2; exact Dg.less_total h1 h2)
    refine hS.mono ?_
    rintro e w' ⟨rfl, n, os, rfl⟩
    have hsd : (l.toArray.toList.mergeSort fun x y => !(ltOf Dg.cmpD) y x) = sortD l := by
      unfold sortD
      congr 1
      funext x y
      rw [lt_less]
    rw [hsd]
    have h1 := own_putRow (q := n) (m := l.length) (ys := sortD l) ho (sortD_length l) (Nat.le_refl _)
    rw [List.take_of_length_le (by rw [sortD_length]; exact Nat.le_refl _)] at h1
    have hsz : w.heap.size ≤ (putRowK enc 2 (Sort.ahead w n) g 0 (sortD l).toArray).heap.size := (below_putRowK (q := n) (d := (sortD l).toArray) ((Below.refl w.heap.size w).mono hbase) hbg).size
    refine ⟨rfl, own_below h1 (below_grow (Below.refl _ _) (Nat.le_refl _) os), below_grow (below_putRowK (Below.refl _ _) hbg) (Nat.le_trans hbase hsz) os⟩
def allD (l : List Dg.D) : List Dg.D := (compact (sortD l)).take 16
set_option maxRecDepth 100000 in
set_option maxHeartbeats 4000000 in
theorem all_walk (A : Option Addr) (c : Nat) (xss : List (List S25)) (w : World) (ht : tot xss ≤ 1000000) (hx : xss.length ≤ 1000000000) (hC : Kd.C (Kd.slice 25 k25) w A xss.length xss) :
    Calls Tryd.prog 17 #[.slice A xss.length c] w fun e w' => ∃ v, e = .returned v ∧ w'.ownsRow w.heap.size 25 2 v (allD (xss.flatten.map toD)).length (flat (allD (xss.flatten.map toD))) ∧ Below w.heap.size w w' := by
  have hc1 := concat_calls A c xss w ht hx hC
  have hlt := flat_tot xss
  obtain ⟨L, hL⟩ : ∃ L, xss.flatten.map toD = L := ⟨_, rfl⟩
  rw [hL] at hc1 hlt ⊢
  obtain ⟨n, hn⟩ : ∃ n, xss.length = n := ⟨_, rfl⟩
  rw [hn] at hc1 hx ⊢
  have hLn : L.length ≤ 1000000 := by omega
  have HLn := Aside0.mk hLn
  have HC1 := Aside0.mk hc1
  clear hL hC hlt ht hn hc1 hLn
  go_enter Tryd.func17, Tryd.ntmps17
  go_wp2_with fail
  refine HC1.out.mono ?_
  rintro e W1 ⟨v1, rfl, ho1, hb1⟩
  have hs := sort_calls v1 w.heap.size L W1 HLn.out ho1 hb1.size
  replace hs := Aside0.mk hs
  replace hb1 := Aside0.mk hb1
  clear ho1
  go_wp2_with fail
  refine hs.out.mono ?_
  rintro e W2 ⟨rfl, ho2, hb2⟩
  have hl2 := sortD_length L
  rw [← hl2] at ho2
  obtain ⟨A2, c2, rfl, _, _⟩ := rd_of_own ho2
  have hcp := compact_calls A2 c2 w.heap.size (sortD L) W2 (by have := HLn.out; omega) ho2
  replace hcp := Aside0.mk hcp
  have HB2 := Aside0.mk (hb1.out.trans hb2)
  clear hb2 ho2 hl2
  go_wp2_with fail
  refine hcp.out.mono ?_
  rintro e W3 ⟨v3, rfl, ho3, hb3⟩
  obtain ⟨A3, c3, rfl, _, _⟩ := rd_of_own ho3
  have hnc := own_cap ho3
  obtain ⟨m, hm⟩ : ∃ m, min (compact (sortD L)).length 16 = m := ⟨_, rfl⟩
  have hall : (allD L).length = m := by unfold allD; rw [List.length_take]; omega
  have hall2 : (compact (sortD L)).take m = allD L := by
    unfold allD
    by_cases h16 : (compact (sortD L)).length ≤ 16
    · rw [List.take_of_length_le h16, List.take_of_length_le (by omega)]
    · rw [show m = 16 by omega]
  have hfin := own_take (m := m) ho3 (by omega)
  rw [hall2] at hfin
  rw [← hall] at hfin
  have HF := Aside0.mk (And.intro hfin (HB2.out.trans hb3))
  have HA := Aside0.mk hall
  clear hfin hall2 hall ho3 hb3
  obtain ⟨k, hk⟩ : ∃ k, (compact (sortD L)).length = k := ⟨_, rfl⟩
  rw [hk] at hm hnc ⊢
  have hmI : min ((k : Nat) : Int) 16 = (m : Int) := by omega
  have hmc : m ≤ c3 := by omega
  clear hk
  go_wp2
  go_ret
  have := HF.out
  rw [HA.out] at this
  rw [HA.out]
  exact ⟨_, rfl, this.1, this.2⟩
def diag_All.f (l0 : List (List S25)) : Option (List S25) := if tot l0 ≤ 1000000 ∧ l0.length ≤ 1000000000 then some ((allD (l0.flatten.map toD)).map toS) else none
theorem diag_All.calls (A0 : Option Addr) (c0 : Nat) (l0 : List (List S25)) (r : List S25) (w : World) (hr0 : Kd.C (Kd.slice 25 k25) w A0 l0.length l0) (hc0 : l0.length ≤ c0) (h : diag_All.f l0 = some r) :
    Calls Tryd.prog 17 #[.slice A0 l0.length c0] w fun e w' => ∃ v0_ : Value, e = .returned (v0_) ∧ Kd.R k25 25 w' w.heap.size (fun _ => True) v0_ r ∧ Below w.heap.size w w' := by
  unfold diag_All.f at h
  split at h
  · rename_i hs
    obtain rfl := Option.some.inj h
    refine (all_walk A0 c0 l0 w hs.1 hs.2 hr0).mono ?_
    rintro e w' ⟨v, rfl, ho, hb⟩
    exact ⟨v, rfl, R_of_own ho, hb⟩
  · exact absurd h (by simp)
end Go.Proofs.YtgphciopondlaaaDoor
