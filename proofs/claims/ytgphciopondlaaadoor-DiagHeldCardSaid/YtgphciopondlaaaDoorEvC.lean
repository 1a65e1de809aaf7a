/- The law DiagHeld in plain Lean. Conditions: none. -/
import Derived.Test.YtgphciopondlaaaDoorEvA
import Derived.Test.YtgphciopondlaaaDoorPlainD
import Derived.Test.YtgphciopondlaaaDoorPAllx3
namespace Go.Proofs.YtgphciopondlaaaDoor.Evs
set_option linter.unusedVariables false
set_option linter.unusedSimpArgs false
set_option linter.unusedSectionVars false
open Go.RowKit Go.Lib Go.Proofs.YtgphciopondlaaaDoor.PAll Go.Proofs.YtgphciopondlaaaDoorW.PrintWords Go.Proofs.YtgphciopondlaaaDoorW.PrintLast

theorem refLess (a b : Dg.D) : entrepotref04_Less.f a.1 a.2 b.1 b.2 = some (Dg.less a b) := by
  unfold entrepotref04_Less.f Dg.less
  by_cases h1 : a.1 < b.1
  · rw [if_pos h1, decide_eq_true h1]; rfl
  · by_cases h2 : a.1 = b.1
    · rw [if_neg h1, if_pos h2, decide_eq_false h1, decide_eq_true h2]; rfl
    · rw [if_neg h1, if_neg h2, decide_eq_false h1, decide_eq_false h2]; rfl
def Dl (l : List S25) : List Dg.D := l.map toD
theorem Dl_length (l : List S25) : (Dl l).length = l.length := List.length_map ..
theorem Dl_rd (l : List S25) (i : Nat) : (Dl l).getD i (0, 0) = ((rd_T25 l (i : Int)).f0, (rd_T25 l (i : Int)).f1) := by
  unfold Dl rd_T25
  rw [Int.toNat_natCast, List.getD_eq_getElem?_getD, List.getD_eq_getElem?_getD, List.getElem?_map]
  cases l[i]? <;> rfl
theorem eq_D (a b : Dg.D) : (a.1 == b.1 && (a.2 == b.2)) = true ↔ b = a := by
  rw [Bool.and_eq_true, beq_iff_eq, beq_iff_eq]
  exact ⟨fun h => Prod.ext h.1.symm h.2.symm, fun h => by rw [h]; exact ⟨rfl, rfl⟩⟩
theorem nx (i : Nat) (h : i ≤ 1000) : wrap64 ((i : Int) + 1) = ((i + 1 : Nat) : Int) := next_ i (by omega)

/-- The reference's Sorted. -/
theorem refSorted_l (l : List S25) (hl : l.length ≤ 20) (j : Nat) : ∀ i : Nat, i + j = l.length → 1 ≤ i → (∀ t (ht : t + 1 < (Dl l).length), t + 1 < i → Dg.less ((Dl l)[t]'(by omega)) (Dl l)[t + 1] = true) →
    Ev (fun k => entrepotref04_Sorted.l0 k l (i : Int)) (decide (l.length ≤ 16) && Dg.strict (Dl l)) := by
  induction j with
  | zero =>
    intro i hi h1 ho
    have hs : Dg.strict (Dl l) = true := Dg.strict_of_get fun t ht => ho t ht (by rw [Dl_length] at ht; omega)
    refine Ev.one fun k => ?_
    simp only [entrepotref04_Sorted.l0]
    rw [if_neg (by omega), hs, Bool.and_true]
    congr 1
    simp only [decide_eq_decide]; omega
  | succ j ih =>
    intro i hi h1 ho
    have hw : wrap64 ((i : Int) - 1) = ((i - 1 : Nat) : Int) := by rw [w64 _ (by omega) (by omega)]; omega
    have e0 := Dl_rd l (i - 1)
    have e1 := Dl_rd l i
    have g0 : (Dl l).getD (i - 1) (0, 0) = (Dl l)[i - 1]'(by rw [Dl_length]; omega) := by rw [List.getD_eq_getElem?_getD, List.getElem?_eq_getElem]; rfl
    have g1 : (Dl l).getD i (0, 0) = (Dl l)[i]'(by rw [Dl_length]; omega) := by rw [List.getD_eq_getElem?_getD, List.getElem?_eq_getElem]; rfl
    have hL := refLess ((Dl l).getD (i - 1) (0, 0)) ((Dl l).getD i (0, 0))
    rw [e0, e1] at hL
    simp only at hL
    rw [← e0, ← e1, g0, g1] at hL
    cases hc : Dg.less ((Dl l)[i - 1]'(by rw [Dl_length]; omega)) ((Dl l)[i]'(by rw [Dl_length]; omega)) with
    | false =>
      have hs : Dg.strict (Dl l) = false := by
        cases h : Dg.strict (Dl l) with
        | false => rfl
        | true =>
          have := Dg.strict_get h (i - 1) i (by omega) (by rw [Dl_length]; omega)
          rw [hc] at this; cases this
      refine Ev.one fun k => ?_
      simp only [entrepotref04_Sorted.l0]
      rw [if_pos (by omega), hw, if_pos (by omega), if_pos (by omega), if_pos (by omega), hL, hc, hs, Bool.and_false]
      rfl
    | true =>
      refine Ev.step (fun k => ?_) (ih (i + 1) (by omega) (by omega) fun t ht h2 => ?_)
      · simp only [entrepotref04_Sorted.l0]
        rw [if_pos (by omega), hw, if_pos (by omega), if_pos (by omega), if_pos (by omega), hL, hc, nx i (by omega)]
        rfl
      · by_cases e : t + 1 < i
        · exact ho t ht e
        · obtain rfl : i = t + 1 := by omega
          exact hc
theorem refSorted (l : List S25) (hl : l.length ≤ 20) : Ev (fun k => entrepotref04_Sorted.f k l) (decide (l.length ≤ 16) && Dg.strict (Dl l)) := by
  unfold entrepotref04_Sorted.f
  by_cases h0 : l = []
  · subst h0
    refine Ev.one fun k => ?_
    simp only [entrepotref04_Sorted.l0]
    rw [if_neg (by simp)]; rfl
  · have h1 : 1 ≤ l.length := by cases l <;> simp_all
    exact refSorted_l l hl (l.length - 1) 1 (by omega) (by omega) (fun t ht h => by omega)
/-- The reference's Same. -/
theorem refSame_l (l : List S25) (hl : l.length ≤ 20) (j : Nat) : ∀ i : Nat, i + j = l.length → Ev (fun k => entrepotref04_Same.l0 k l l (i : Int)) true := by
  induction j with
  | zero =>
    intro i hi
    refine Ev.one fun k => ?_
    simp only [entrepotref04_Same.l0]
    rw [if_neg (by omega)]
  | succ j ih =>
    intro i hi
    refine Ev.step (fun k => ?_) (ih (i + 1) (by omega))
    simp only [entrepotref04_Same.l0]
    rw [if_pos (by omega), if_pos (by omega), if_pos (by omega), if_neg (by simp), nx i (by omega)]
theorem refSame (l : List S25) (hl : l.length ≤ 20) : Ev (fun k => entrepotref04_Same.f k l l) true := by
  unfold entrepotref04_Same.f
  exact Ev.pos rfl (refSame_l l hl l.length 0 (by omega))

/-! The loops. -/
section
variable (l q : List S25) (d : Dg.D) (hl : l.length ≤ 20) (hq : q.length ≤ 20)
include hl hq
theorem held_l3 (c : Int) (T U : Bool) (i : Nat) (hi : i < l.length) (N : Nat) (hN : N ≤ 400) (j : Nat) : ∀ i2 : Nat, i2 + j = q.length →
    Ev (fun k => entrepotlaw04_DiagHeld.l2 k l q c T U ((N + (Dl q).count ((Dl l).getD i (0, 0)) : Nat) : Int) ((i + 1 : Nat) : Int)) true →
    Ev (fun k => entrepotlaw04_DiagHeld.l3 k l q c T U ((N + ((Dl q).take i2).count ((Dl l).getD i (0, 0)) : Nat) : Int) (i : Int) (i2 : Int)) true := by
  induction j with
  | zero =>
    intro i2 hi2 H
    rw [List.take_of_length_le (by rw [Dl_length]; omega)]
    refine Ev.step (fun k => ?_) H
    simp only [entrepotlaw04_DiagHeld.l3]
    rw [if_neg (by omega), nx i (by omega)]
  | succ j ih =>
    intro i2 hi2 H
    have := ih (i2 + 1) (by omega) H
    have ht : ((Dl q).take (i2 + 1)).count ((Dl l).getD i (0, 0)) = ((Dl q).take i2).count ((Dl l).getD i (0, 0)) + if (Dl q).getD i2 (0, 0) == (Dl l).getD i (0, 0) then 1 else 0 := by
      rw [Dg.take_next _ _ (by rw [Dl_length]; omega), List.count_append, List.count_singleton]
    have hb : ((Dl q).take i2).count ((Dl l).getD i (0, 0)) ≤ 20 := by
      refine Nat.le_trans List.count_le_length ?_
      rw [List.length_take, Dl_length]; omega
    have e : ((((rd_T25 q (i2 : Int)).f0) == ((rd_T25 l (i : Int)).f0)) && (((rd_T25 q (i2 : Int)).f1) == ((rd_T25 l (i : Int)).f1))) = ((Dl q).getD i2 (0, 0) == (Dl l).getD i (0, 0)) := by
      rw [Dl_rd, Dl_rd]; rfl
    rw [ht] at this
    refine Ev.step (fun k => ?_) this
    simp only [entrepotlaw04_DiagHeld.l3]
    rw [if_pos (by omega), if_pos (by omega), if_pos (by omega), if_pos (by omega), e, nx i2 (by omega)]
    cases ((Dl q).getD i2 (0, 0) == (Dl l).getD i (0, 0)) with
    | true => rw [if_pos rfl, nx _ (by omega)]; rfl
    | false => rw [if_neg (by simp)]; rfl
theorem nb_le (i : Nat) (h : i ≤ 20) : Dg.nb ((Dl l).take i) (Dl q) ≤ i * 20 := by
  induction i with
  | zero => simp [Dg.nb]
  | succ i ih =>
    have := ih (by omega)
    by_cases c : i < (Dl l).length
    · rw [Dg.nb_take _ _ _ c]
      have : (Dl q).count ((Dl l).getD i (0, 0)) ≤ 20 := Nat.le_trans List.count_le_length (by rw [Dl_length]; omega)
      omega
    · rw [List.take_of_length_le (by omega)] at this ⊢
      omega
theorem held_l2 (c : Int) (T U : Bool) (H : Ev (fun k => entrepotlaw04_DiagHeld.l2 k l q c T U (Dg.nb (Dl l) (Dl q) : Nat) (l.length : Int)) true) (j : Nat) : ∀ i : Nat, i + j = l.length →
    Ev (fun k => entrepotlaw04_DiagHeld.l2 k l q c T U ((Dg.nb ((Dl l).take i) (Dl q) : Nat) : Int) (i : Int)) true := by
  induction j with
  | zero =>
    intro i hi
    obtain rfl : i = l.length := by omega
    rw [List.take_of_length_le (by rw [Dl_length]; omega)]
    exact H
  | succ j ih =>
    intro i hi
    have h1 := ih (i + 1) (by omega)
    rw [Dg.nb_take _ _ _ (by rw [Dl_length]; omega)] at h1
    have hb := nb_le l q hl hq i (by omega)
    have h2 := held_l3 l q hl hq c T U i (by omega) _ (by omega) q.length 0 (by omega) h1
    refine Ev.step (fun k => ?_) h2
    simp only [entrepotlaw04_DiagHeld.l2]
    rw [if_pos (by omega)]; simp
theorem held_l1 (c : Int) (T : Bool) (H : ∀ U : Bool, (U = true ↔ d ∈ Dl q) → Ev (fun k => entrepotlaw04_DiagHeld.l2 k l q c T U 0 0) true) (j : Nat) : ∀ i : Nat, i + j = q.length → ∀ U : Bool, (U = true ↔ d ∈ (Dl q).take i) →
    Ev (fun k => entrepotlaw04_DiagHeld.l1 k l q c T U (i : Int) d.1 d.2) true := by
  induction j with
  | zero =>
    intro i hi U hU
    rw [List.take_of_length_le (by rw [Dl_length]; omega)] at hU
    refine Ev.step (fun k => ?_) (H U hU)
    simp only [entrepotlaw04_DiagHeld.l1]
    rw [if_neg (by omega)]
  | succ j ih =>
    intro i hi U hU
    have hn := Dg.take_next (Dl q) i (by rw [Dl_length]; omega)
    have hr := Dl_rd q i
    have e := eq_D ((Dl q).getD i (0, 0)) d
    rw [hr] at e
    by_cases c1 : U = true
    · refine Ev.step (fun k => ?_) (ih (i + 1) (by omega) true ⟨fun _ => by rw [hn]; exact List.mem_append_left _ (hU.1 c1), fun _ => rfl⟩)
      simp only [entrepotlaw04_DiagHeld.l1]
      rw [if_pos (by omega), if_pos c1, nx i (by omega)]
    · refine Ev.step (fun k => ?_) (ih (i + 1) (by omega) (((rd_T25 q (i : Int)).f0) == d.1 && (((rd_T25 q (i : Int)).f1) == d.2)) ?_)
      · simp only [entrepotlaw04_DiagHeld.l1]
        rw [if_pos (by omega), if_neg c1, if_pos (by omega), nx i (by omega)]
      · rw [hn, List.mem_append, List.mem_singleton, hr]
        refine ⟨fun h => .inr (e.1 h), fun h => ?_⟩
        rcases h with h | h
        · exact absurd (hU.2 h) c1
        · exact e.2 h
theorem held_l0 (H : ∀ T : Bool, (T = true ↔ d ∈ Dl l) → Ev (fun k => entrepotlaw04_DiagHeld.l1 k l q (Dg.pos (Dl l) d : Nat) T false 0 d.1 d.2) true) (j : Nat) : ∀ i : Nat, i + j = l.length → ∀ T : Bool, (T = true ↔ d ∈ (Dl l).take i) →
    Ev (fun k => entrepotlaw04_DiagHeld.l0 k l q (Dg.pos ((Dl l).take i) d : Nat) T (i : Int) d.1 d.2) true := by
  induction j with
  | zero =>
    intro i hi T hT
    rw [List.take_of_length_le (by rw [Dl_length]; omega)] at hT ⊢
    refine Ev.step (fun k => ?_) (H T hT)
    simp only [entrepotlaw04_DiagHeld.l0]
    rw [if_neg (by omega)]
  | succ j ih =>
    intro i hi T hT
    have hn := Dg.take_next (Dl l) i (by rw [Dl_length]; omega)
    have hr := Dl_rd l i
    have e := eq_D ((Dl l).getD i (0, 0)) d
    have hL := refLess ((Dl l).getD i (0, 0)) d
    rw [hr] at e hL
    simp only at hL
    rw [← hr] at hL
    have hp : Dg.pos ((Dl l).take (i + 1)) d = Dg.pos ((Dl l).take i) d + if Dg.less ((Dl l).getD i (0, 0)) d then 1 else 0 := by
      unfold Dg.pos
      rw [hn, List.countP_append, List.countP_singleton]
    have hb : Dg.pos ((Dl l).take i) d ≤ 20 := by
      refine Nat.le_trans (Dg.pos_le _ _) ?_
      rw [List.length_take, Dl_length]; omega
    have hnext : ∀ T' : Bool, T' = (if T = true then true else (((rd_T25 l (i : Int)).f0) == d.1 && (((rd_T25 l (i : Int)).f1) == d.2))) → Ev (fun k => entrepotlaw04_DiagHeld.l0 k l q (Dg.pos ((Dl l).take (i + 1)) d : Nat) T' ((i + 1 : Nat) : Int) d.1 d.2) true := by
      intro T' hT'
      refine ih (i + 1) (by omega) T' ?_
      rw [hT', hn, List.mem_append, List.mem_singleton, hr]
      by_cases c1 : T = true
      · rw [if_pos c1]; exact ⟨fun _ => .inl (hT.1 c1), fun _ => rfl⟩
      · rw [if_neg c1]
        refine ⟨fun h => .inr (e.1 h), fun h => ?_⟩
        rcases h with h | h
        · exact absurd (hT.2 h) c1
        · exact e.2 h
    have := hnext _ rfl
    rw [hp] at this
    refine Ev.step (fun k => ?_) this
    simp only [entrepotlaw04_DiagHeld.l0]
    rw [if_pos (by omega), if_pos (by omega), hL, Option.bind_some]
    have w1 : wrap64 ((Dg.pos ((Dl l).take i) d : Int) + 1) = ((Dg.pos ((Dl l).take i) d + 1 : Nat) : Int) := nx _ (by omega)
    rw [nx i (by omega), w1]
    cases Dg.less ((Dl l).getD i (0, 0)) d <;> cases T <;> rfl
end
theorem Dl_toS (L : List Dg.D) : Dl (L.map toS) = L := by
  unfold Dl
  rw [List.map_map]
  exact (List.map_congr_left (fun x _ => toD_toS x)).trans (List.map_id L)
theorem toS_Dl (l : List S25) : (Dl l).map toS = l := by
  unfold Dl
  rw [List.map_map]
  exact (List.map_congr_left (fun x _ => toS_toD x)).trans (List.map_id l)
theorem DiagHeld (l : List S25) (a b : Int) : ∃ k, entrepotlaw04_DiagHeld.f k l a b = some true := by
  have hj : Ev (fun k => entrepotlaw04_DiagHeld.j0 k l true a b) true := by
    refine Ev.step (f := fun k => (entrepotlaw04_shown.f k).bind fun t208 => (some t208)) (fun k => ?_) (Ev.bind shown_ev (Ev.now _))
    simp only [entrepotlaw04_DiagHeld.j0]
    rw [if_pos trivial]
  refine Ev.rounds (g := fun k => entrepotlaw04_DiagHeld.f k l a b) ?_
  unfold entrepotlaw04_DiagHeld.f
  by_cases c0 : (l.length : Int) > 20
  · simp only [if_pos c0]; exact hj
  · simp only [if_neg c0]
    have hl20 : l.length ≤ 20 := by omega
    refine Ev.bind (refSorted l hl20) ?_
    by_cases c1 : (decide (l.length ≤ 16) && Dg.strict (Dl l)) = true
    · rw [Bool.and_eq_true, decide_eq_true_eq] at c1
      obtain ⟨h16, hs⟩ := c1
      simp only [hs, decide_eq_true h16, Bool.and_true, if_true]
      refine Ev.bind shown_ev ?_
      have hput : diag_Put.f l a b = some ((Dg.kept (Dl l) (a, b)).map toS) := by
        unfold diag_Put.f Dg.kept
        rw [if_pos ⟨hs, by omega⟩]; rfl
      obtain ⟨q, hq⟩ : ∃ q, (Dg.kept (Dl l) (a, b)).map toS = q := ⟨_, rfl⟩
      have hDq : Dl q = Dg.kept (Dl l) (a, b) := by rw [← hq, Dl_toS]
      have hql : q.length = (Dg.kept (Dl l) (a, b)).length := by rw [← hDq, Dl_length]
      have hq16 : q.length ≤ 20 := by rw [hql]; unfold Dg.kept; rw [List.length_take]; omega
      have hlD : (Dl l).length ≤ 16 := by rw [Dl_length]; exact h16
      have hpos : Dg.pos (Dl l) (a, b) ≤ l.length := by have := Dg.pos_le (Dl l) (a, b); rw [Dl_length] at this; exact this
      have final : ∀ T U : Bool, (T = true ↔ (a, b) ∈ Dl l) → (U = true ↔ (a, b) ∈ Dl q) → Ev (fun k => entrepotlaw04_DiagHeld.l2 k l q (Dg.pos (Dl l) (a, b) : Nat) T U (Dg.nb (Dl l) (Dl q) : Nat) (l.length : Int)) true := by
        intro T U hT hU
        by_cases hd : (a, b) ∈ Dl l
        · have hk := Dg.kept_mem hs hlD hd
          have hql : q = l := by rw [← hq, hk, toS_Dl]
          subst hql
          refine Ev.step (f := fun k => (entrepotref04_Same.f k q q).bind fun t179 => (some t179)) (fun k => ?_) (Ev.bind (refSame q hl20) (Ev.now _))
          simp only [entrepotlaw04_DiagHeld.l2]
          rw [if_neg (by omega), if_pos (hT.2 hd), if_pos (hU.2 hd)]
        · obtain ⟨k1, k2, k3⟩ := Dg.kept_new hs hlD hd
          rw [← hDq] at k1 k2 k3
          rw [Dl_length, Dl_length] at k2
          rw [Dl_length] at k3
          refine Ev.one fun k => ?_
          simp only [entrepotlaw04_DiagHeld.l2]
          have hT0 : ¬ T = true := fun h => hd (hT.1 h)
          have hU0 : (U == decide (((Dg.pos (Dl l) (a, b) : Nat) : Int) < 16)) = true := by
            rw [beq_iff_eq, Bool.eq_iff_iff, hU, k1, decide_eq_true_eq]; omega
          have hmn : (q.length : Int) = mn (wrap64 ((l.length : Int) + 1)) 16 := by
            rw [nx l.length (by omega)]; unfold mn; split <;> omega
          rw [if_neg (by omega), if_neg hT0, if_pos hU0, if_pos hmn]
          rcases k3 with k3 | ⟨k3, k4⟩
          · rw [k3, if_pos rfl]
          · rw [if_neg (by omega), w64 _ (by omega) (by omega), if_pos (by omega)]
            congr 1
            rw [beq_iff_eq]; omega
      have h0 := held_l0 l q (a, b) hl20 hq16 (fun T hT => held_l1 l q (a, b) hl20 hq16 _ T (fun U hU => by
        have := held_l2 l q hl20 hq16 _ T U (final T U hT hU) l.length 0 (by omega)
        simpa [Dg.nb] using this) q.length 0 (by omega) false (by simp)) l.length 0 (by omega) false (by simp)
      refine Ev.step (fun k => ?_) h0
      simp only [entrepotlaw04_DiagHeld.j0]
      rw [if_neg (by simp), hput, hq, Option.bind_some]
      simp [Dg.pos]
    · simp only [if_neg c1]; exact hj
end Go.Proofs.YtgphciopondlaaaDoor.Evs
