/- Sorted of diag, walked by hand. Conditions: lists of at most 1000000000. -/
import Derived.Test.YtgphciopondlaaaDoorGivenI
namespace Go.Proofs.YtgphciopondlaaaDoor
set_option linter.unusedVariables false
set_option linter.unusedSimpArgs false
open Go.RowKit Go.Sort Go.Lib Go.Proofs.YtgphciopondlaaaDoor.PAll Go.Proofs.YtgphciopondlaaaDoorW.PrintWords Go.Proofs.YtgphciopondlaaaDoorW.PrintLast

theorem compact_full (l : List Dg.D) : (compact l).length = l.length ↔ ∀ j, j < l.length → keeps l.toArray j = true := by
  unfold compact compactUpTo
  rw [List.length_map]
  constructor
  · intro h j hj
    have h2 : ((List.range l.length).filter (keeps l.toArray)).length = (List.range l.length).length := by rw [h, List.length_range]
    exact List.length_filter_eq_length_iff.1 h2 j (List.mem_range.2 hj)
  · intro h
    have := List.length_filter_eq_length_iff.2 (fun j hj => h j (List.mem_range.1 hj) : ∀ a ∈ List.range l.length, keeps l.toArray a = true)
    rw [this, List.length_range]
theorem strict_compact (l : List Dg.D) (hn : Dg.noDown l = true) : Dg.strict l = decide ((compact l).length = l.length) := by
  rw [Bool.eq_iff_iff, decide_eq_true_iff, compact_full]
  have hnd := (Dg.noDown_iff l).1 hn
  constructor
  · intro h j hj
    cases j with
    | zero => exact keeps_lt_one _ 0 (by omega)
    | succ j =>
      refine keeps_pos ?_
      rw [Nat.add_sub_cancel, getElem!_pos l.toArray (j + 1) (by simpa using hj), getElem!_pos l.toArray j (by simp; omega), List.getElem_toArray, List.getElem_toArray]
      intro e
      have := Dg.strict_get h j (j + 1) (by omega) hj
      rw [e, Dg.less_irrefl] at this; cases this
  · intro h
    refine Dg.strict_of_get fun j hj => ?_
    have hk := h (j + 1) hj
    have hd := hnd j hj
    cases hl : Dg.less (l[j]'(by omega)) l[j + 1] with
    | true => rfl
    | false =>
      have e := Dg.less_total hl hd
      have hk2 : l.toArray[j + 1]! = l.toArray[j + 1 - 1]! := by
        rw [Nat.add_sub_cancel, getElem!_pos l.toArray (j + 1) (by simpa using hj), getElem!_pos l.toArray j (by simp; omega), List.getElem_toArray, List.getElem_toArray, e]
      rw [keeps_neg (by omega) hk2] at hk; cases hk
theorem strict_noDown (l : List Dg.D) (h : Dg.noDown l = false) : Dg.strict l = false := by
  cases hs : Dg.strict l with
  | false => rfl
  | true =>
    have : Dg.noDown l = true := (Dg.noDown_iff l).2 fun t ht => Dg.less_asymm (Dg.strict_get hs t (t + 1) (by omega) ht)
    rw [h] at this; cases this
set_option maxRecDepth 100000 in
set_option maxHeartbeats 2000000 in
theorem sorted_walk (A : Option Addr) (c : Nat) (l : List Dg.D) (w : World) (hlen : l.length ≤ 1000000000) (hr : Rd w A l) :
    Calls Tryd.prog 19 #[.slice A l.length c] w fun e w' => e = .returned (.bool (decide (l.length ≤ 16) && Dg.strict l)) ∧ Below w.heap.size w w' := by
  have his := isSorted_calls A c l w hlen hr
  have hcl : ∀ W, Rd W A l → Calls Tryd.prog 23 #[.slice A l.length c] W fun e W1 => ∃ A' c', e = .returned (.slice A' l.length c') ∧ W1.ownsRow W.heap.size 25 2 (.slice A' l.length c') l.length (flat l) ∧ Below W.heap.size W W1 := fun W h => by
    refine (clone_calls A c l W hlen h).mono ?_
    rintro e W1 ⟨v, rfl, ho, hb⟩
    obtain ⟨A', c', rfl, _, hr⟩ := rd_of_own ho
    exact ⟨A', c', rfl, ho, hb⟩
  have hco : ∀ A' c' base W, W.ownsRow base 25 2 (.slice A' l.length c') l.length (flat l) → Calls Tryd.prog 33 #[.slice A' l.length c'] W fun e W1 => ∃ A2 c2, e = .returned (.slice A2 (compact l).length c2) ∧ Below base W W1 := fun A' c' base W h => by
    refine (compact_calls A' c' base l W hlen h).mono ?_
    rintro e W1 ⟨v, rfl, ho, hb⟩
    obtain ⟨A2, c2, rfl, _, _⟩ := rd_of_own ho
    exact ⟨A2, c2, rfl, hb⟩
  have HSC := Aside0.mk (strict_compact l)
  have HSN := Aside0.mk (strict_noDown l)
  have HR := Aside0.mk hr
  obtain ⟨n, hn⟩ : ∃ n, l.length = n := ⟨_, rfl⟩
  obtain ⟨m, hm⟩ : ∃ m, (compact l).length = m := ⟨_, rfl⟩
  have HN := Aside0.mk hn
  have HM := Aside0.mk hm
  rw [hn] at his hcl hlen ⊢
  simp only [hn, hm] at hco
  obtain ⟨nd, hnd⟩ : ∃ nd, Dg.noDown l = nd := ⟨_, rfl⟩
  have HND := Aside0.mk hnd
  rw [hnd] at his
  replace hcl := Aside0.mk hcl
  replace hco := Aside0.mk hco
  replace his := Aside0.mk his
  clear hr hn hm hnd
  by_cases h16 : n ≤ 16
  · have hd : decide ((n : Int) ≤ 16) = true := decide_eq_true (by omega)
    have hd2 : decide (n ≤ 16) = true := decide_eq_true h16
    cases nd with
    | true =>
      by_cases hmn : m = n
      · have hb : ((m : Int) == (n : Int)) = true := by simp; omega
        have hs : Aside0 (Dg.strict l = true) := ⟨by rw [HSC.out HND.out, HM.out, HN.out]; simp [hmn]⟩
        go_enter Tryd.func19, Tryd.ntmps19
        go_wp2_with fail
        refine his.out.mono ?_
        rintro e W1 ⟨rfl, hb1⟩
        have hR1 := Aside0.mk (HR.out.below hb1)
        replace hb1 := Aside0.mk hb1
        go_wp2_with fail
        refine (hcl.out W1 hR1.out).mono ?_
        rintro e W2 ⟨A', c', rfl, ho, hb2⟩
        replace ho := Aside0.mk ho
        replace hb2 := Aside0.mk hb2
        go_wp2_with fail
        refine (hco.out A' c' _ W2 ho.out).mono ?_
        rintro e W3 ⟨A2, c2, rfl, hb3⟩
        have hB : Aside0 (Below w.heap.size w W3) := ⟨(hb1.out.trans (hb2.out.mono hb1.out.size)).trans (hb3.mono hb1.out.size)⟩
        clear hb3
        go_wp2
        go_ret
        exact ⟨by rw [hs.out]; simp [hmn, h16], hB.out⟩
      · have hb : ((m : Int) == (n : Int)) = false := by simp; omega
        have hs : Aside0 (Dg.strict l = false) := ⟨by rw [HSC.out HND.out, HM.out, HN.out]; simp [hmn]⟩
        go_enter Tryd.func19, Tryd.ntmps19
        go_wp2_with fail
        refine his.out.mono ?_
        rintro e W1 ⟨rfl, hb1⟩
        have hR1 := Aside0.mk (HR.out.below hb1)
        replace hb1 := Aside0.mk hb1
        go_wp2_with fail
        refine (hcl.out W1 hR1.out).mono ?_
        rintro e W2 ⟨A', c', rfl, ho, hb2⟩
        replace ho := Aside0.mk ho
        replace hb2 := Aside0.mk hb2
        go_wp2_with fail
        refine (hco.out A' c' _ W2 ho.out).mono ?_
        rintro e W3 ⟨A2, c2, rfl, hb3⟩
        have hB : Aside0 (Below w.heap.size w W3) := ⟨(hb1.out.trans (hb2.out.mono hb1.out.size)).trans (hb3.mono hb1.out.size)⟩
        clear hb3
        go_wp2
        go_ret
        exact ⟨by rw [hs.out]; simp [hmn], hB.out⟩
    | false =>
      have hs : Aside0 (Dg.strict l = false) := ⟨HSN.out HND.out⟩
      go_enter Tryd.func19, Tryd.ntmps19
      go_wp2_with fail
      refine his.out.mono ?_
      rintro e W1 ⟨rfl, hb1⟩
      replace hb1 := Aside0.mk hb1
      go_wp2
      go_ret
      exact ⟨by rw [hs.out]; simp, hb1.out⟩
  · have hd : decide ((n : Int) ≤ 16) = false := decide_eq_false (by omega)
    have hd2 : decide (n ≤ 16) = false := decide_eq_false h16
    rw [hd2]
    go_enter Tryd.func19, Tryd.ntmps19
    go_wp2
    go_ret
    exact ⟨rfl, Below.refl _ _⟩
def diag_Sorted.f (l0 : List S25) : Option Bool := if l0.length ≤ 1000000000 then some (decide (l0.length ≤ 16) && strictS l0) else none
theorem diag_Sorted.calls (A0 : Option Addr) (c0 : Nat) (l0 : List S25) (r : Bool) (w : World) (hr0 : Kd.C k25 w A0 l0.length l0) (hc0 : l0.length ≤ c0) (h : diag_Sorted.f l0 = some r) :
    Calls Tryd.prog 19 #[.slice A0 l0.length c0] w fun e w' => e = .returned (.bool r) ∧ Below w.heap.size w w' := by
  unfold diag_Sorted.f at h
  split at h
  · rename_i hs
    obtain rfl := Option.some.inj h
    have hw := sorted_walk A0 c0 (l0.map toD) w (by rw [List.length_map]; exact hs) (rd_of_C hr0)
    rw [List.length_map] at hw
    exact hw
  · exact absurd h (by simp)
end Go.Proofs.YtgphciopondlaaaDoor
