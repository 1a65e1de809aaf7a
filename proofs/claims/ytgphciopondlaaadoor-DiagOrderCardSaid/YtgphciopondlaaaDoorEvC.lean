/- The reference's order, Sorted and Same of diag in plain Lean. Conditions: none. -/
import Derived.Test.YtgphciopondlaaaDoorEvA
import Derived.Test.YtgphciopondlaaaDoorPlainE
namespace Go.Proofs.YtgphciopondlaaaDoor.Evs
set_option linter.unusedVariables false
set_option linter.unusedSimpArgs false
set_option linter.unusedSectionVars false
open Go.RowKit Go.Lib Go.Proofs.YtgphciopondlaaaDoor.PAll Go.Proofs.YtgphciopondlaaaDoorW.PrintWords Go.Proofs.YtgphciopondlaaaDoorW.PrintLast

theorem refLess (a b : Dg.D) : entrepotref04_Less.f a.1 a.2 b.1 b.2 = some (Dg.less a b) := by
  unfold entrepotref04_Less.f Dg.less
  by_cases h1 : a.1 < b.1
  · rw [if_pos h1, decide_eq_true h1]; rfl
  · by_cases h2 : a.1 = b.1
    · rw [if_neg h1, if_pos h2, decide_eq_false h1, decide_eq_true h2]; rfl
    · rw [if_neg h1, if_neg h2, decide_eq_false h1, decide_eq_false h2]; rfl
def Dl (l : List S25) : List Dg.D := l.map toD
theorem Dl_length (l : List S25) : (Dl l).length = l.length := List.length_map ..
theorem Dl_rd (l : List S25) (i : Nat) : (Dl l).getD i (0, 0) = ((rd_T25 l (i : Int)).f0, (rd_T25 l (i : Int)).f1) := by
  unfold Dl rd_T25
  rw [Int.toNat_natCast, List.getD_eq_getElem?_getD, List.getD_eq_getElem?_getD, List.getElem?_map]
  cases l[i]? <;> rfl
theorem eq_D (a b : Dg.D) : (a.1 == b.1 && (a.2 == b.2)) = true ↔ b = a := by
  rw [Bool.and_eq_true, beq_iff_eq, beq_iff_eq]
  exact ⟨fun h => Prod.ext h.1.symm h.2.symm, fun h => by rw [h]; exact ⟨rfl, rfl⟩⟩
theorem nx (i : Nat) (h : i ≤ 1000) : wrap64 ((i : Int) + 1) = ((i + 1 : Nat) : Int) := next_ i (by omega)

/-- The reference's Sorted. -/
theorem refSorted_l (l : List S25) (hl : l.length ≤ 60) (j : Nat) : ∀ i : Nat, i + j = l.length → 1 ≤ i → (∀ t (ht : t + 1 < (Dl l).length), t + 1 < i → Dg.less ((Dl l)[t]'(by omega)) (Dl l)[t + 1] = true) →
    Ev (fun k => entrepotref04_Sorted.l0 k l (i : Int)) (decide (l.length ≤ 16) && Dg.strict (Dl l)) := by
  induction j with
  | zero =>
    intro i hi h1 ho
    have hs : Dg.strict (Dl l) = true := Dg.strict_of_get fun t ht => ho t ht (by rw [Dl_length] at ht; omega)
    refine Ev.one fun k => ?_
    simp only [entrepotref04_Sorted.l0]
    rw [if_neg (by omega), hs, Bool.and_true]
    congr 1
    simp only [decide_eq_decide]; omega
  | succ j ih =>
    intro i hi h1 ho
    have hw : wrap64 ((i : Int) - 1) = ((i - 1 : Nat) : Int) := by rw [w64 _ (by omega) (by omega)]; omega
    have e0 := Dl_rd l (i - 1)
    have e1 := Dl_rd l i
    have g0 : (Dl l).getD (i - 1) (0, 0) = (Dl l)[i - 1]'(by rw [Dl_length]; omega) := by rw [List.getD_eq_getElem?_getD, List.getElem?_eq_getElem]; rfl
    have g1 : (Dl l).getD i (0, 0) = (Dl l)[i]'(by rw [Dl_length]; omega) := by rw [List.getD_eq_getElem?_getD, List.getElem?_eq_getElem]; rfl
    have hL := refLess ((Dl l).getD (i - 1) (0, 0)) ((Dl l).getD i (0, 0))
    rw [e0, e1] at hL
    simp only at hL
    rw [← e0, ← e1, g0, g1] at hL
    cases hc : Dg.less ((Dl l)[i - 1]'(by rw [Dl_length]; omega)) ((Dl l)[i]'(by rw [Dl_length]; omega)) with
    | false =>
      have hs : Dg.strict (Dl l) = false := by
        cases h : Dg.strict (Dl l) with
        | false => rfl
        | true =>
          have := Dg.strict_get h (i - 1) i (by omega) (by rw [Dl_length]; omega)
          rw [hc] at this; cases this
      refine Ev.one fun k => ?_
      simp only [entrepotref04_Sorted.l0]
      rw [if_pos (by omega), hw, if_pos (by omega), if_pos (by omega), if_pos (by omega), hL, hc, hs, Bool.and_false]
      rfl
    | true =>
      refine Ev.step (fun k => ?_) (ih (i + 1) (by omega) (by omega) fun t ht h2 => ?_)
      · simp only [entrepotref04_Sorted.l0]
        rw [if_pos (by omega), hw, if_pos (by omega), if_pos (by omega), if_pos (by omega), hL, hc, nx i (by omega)]
        rfl
      · by_cases e : t + 1 < i
        · exact ho t ht e
        · obtain rfl : i = t + 1 := by omega
          exact hc
theorem refSorted (l : List S25) (hl : l.length ≤ 20) : Ev (fun k => entrepotref04_Sorted.f k l) (decide (l.length ≤ 16) && Dg.strict (Dl l)) := by
  unfold entrepotref04_Sorted.f
  by_cases h0 : l = []
  · subst h0
    refine Ev.one fun k => ?_
    simp only [entrepotref04_Sorted.l0]
    rw [if_neg (by simp)]; rfl
  · have h1 : 1 ≤ l.length := by cases l <;> simp_all
    exact refSorted_l l (by omega) (l.length - 1) 1 (by omega) (by omega) (fun t ht h => by omega)
theorem refSorted' (l : List S25) (hl : l.length ≤ 60) : Ev (fun k => entrepotref04_Sorted.f k l) (decide (l.length ≤ 16) && Dg.strict (Dl l)) := by
  by_cases h : l.length ≤ 20
  · exact refSorted l h
  · unfold entrepotref04_Sorted.f
    exact refSorted_l l hl (l.length - 1) 1 (by omega) (by omega) (fun t ht h => by omega)
/-- The reference's Same. -/
theorem refSame_l (l : List S25) (hl : l.length ≤ 20) (j : Nat) : ∀ i : Nat, i + j = l.length → Ev (fun k => entrepotref04_Same.l0 k l l (i : Int)) true := by
  induction j with
  | zero =>
    intro i hi
    refine Ev.one fun k => ?_
    simp only [entrepotref04_Same.l0]
    rw [if_neg (by omega)]
  | succ j ih =>
    intro i hi
    refine Ev.step (fun k => ?_) (ih (i + 1) (by omega))
    simp only [entrepotref04_Same.l0]
    rw [if_pos (by omega), if_pos (by omega), if_pos (by omega), if_neg (by simp), nx i (by omega)]
theorem refSame (l : List S25) (hl : l.length ≤ 20) : Ev (fun k => entrepotref04_Same.f k l l) true := by
  unfold entrepotref04_Same.f
  exact Ev.pos rfl (refSame_l l hl l.length 0 (by omega))

theorem Dl_toS (L : List Dg.D) : Dl (L.map toS) = L := by
  unfold Dl
  rw [List.map_map]
  exact (List.map_congr_left (fun x _ => toD_toS x)).trans (List.map_id L)
theorem toS_Dl (l : List S25) : (Dl l).map toS = l := by
  unfold Dl
  rw [List.map_map]
  exact (List.map_congr_left (fun x _ => toS_toD x)).trans (List.map_id l)
end Go.Proofs.YtgphciopondlaaaDoor.Evs
