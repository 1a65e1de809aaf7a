/- The law DiagPuts in plain Lean. Conditions: none. -/
import Derived.Test.YtgphciopondlaaaDoorEvC
import Derived.Test.YtgphciopondlaaaDoorPAllx8
namespace Go.Proofs.YtgphciopondlaaaDoor.Evs
set_option linter.unusedVariables false
set_option linter.unusedSimpArgs false
set_option linter.unusedSectionVars false
open Go.RowKit Go.Lib Go.Proofs.YtgphciopondlaaaDoor.PAll Go.Proofs.YtgphciopondlaaaDoorW.PrintWords Go.Proofs.YtgphciopondlaaaDoorW.PrintLast

theorem Ev.later {α : Type} {g : Nat → Option α} {r : α} (h : Ev (fun k => g (k + 1)) r) : Ev g r := Ev.step (f := fun k => g (k + 1)) (fun _ => rfl) h
theorem allD_eq (l : List Dg.D) : allD l = Dg.putAll16 [] l := Dg.all_eq l
theorem drop_next (L : List Dg.D) (i : Nat) (h : i < L.length) : L.drop i = L.getD i (0, 0) :: L.drop (i + 1) := by
  rw [List.drop_eq_getElem_cons h, List.getD_eq_getElem?_getD, List.getElem?_eq_getElem h]; rfl
theorem rd_eta (l : List S25) (i : Nat) : (⟨(rd_T25 l (i : Int)).f0, (rd_T25 l (i : Int)).f1⟩ : S25) = toS ((Dl l).getD i (0, 0)) := by rw [Dl_rd]; rfl
theorem fin16 (A : List Dg.D) : (if 0 ≤ (mn ((A.map toS).length : Int) 16) then (if (mn ((A.map toS).length : Int) 16) ≤ ((A.map toS).length : Int) then (some ((A.map toS).take ((mn ((A.map toS).length : Int) 16) : Int).toNat)) else (none)) else (none)) = some ((A.take 16).map toS) := by
  have e : mn ((A.map toS).length : Int) 16 = ((min A.length 16 : Nat) : Int) := by
    rw [List.length_map]; unfold mn; split <;> omega
  rw [e, if_pos (by omega), if_pos (by rw [List.length_map]; omega), Int.toNat_natCast, ← List.map_take]
  congr 2
  by_cases h : A.length ≤ 16
  · rw [Nat.min_eq_left h, List.take_of_length_le (Nat.le_refl _), List.take_of_length_le h]
  · rw [Nat.min_eq_right (by omega)]
section
variable (l : List S25) (d : Dg.D) (hl : l.length ≤ 1000)
include hl
theorem refPut_t (j : Nat) : ∀ (i : Nat) (A : List Dg.D), i + j = l.length → A.length ≤ i + 2 → Ev (fun k => entrepotref04_Put.l0 k l (A.map toS) true (i : Int) d.1 d.2) (((A ++ (Dl l).drop i).take 16).map toS) := by
  induction j with
  | zero =>
    intro i A hi hA
    rw [List.drop_of_length_le (by rw [Dl_length]; omega), List.append_nil]
    refine Ev.one fun k => ?_
    simp only [entrepotref04_Put.l0]
    rw [if_neg (by omega), if_pos trivial, fin16]
  | succ j ih =>
    intro i A hi hA
    have := ih (i + 1) (A ++ [(Dl l).getD i (0, 0)]) (by omega) (by rw [List.length_append, List.length_singleton]; omega)
    rw [drop_next _ _ (by rw [Dl_length]; omega)]
    rw [List.append_assoc, List.map_append] at this
    refine Ev.step (fun k => ?_) (Ev.step (g := fun k => entrepotref04_Put.j1 k l (A.map toS) true (i : Int) false d.1 d.2) (fun k => ?_) this)
    · simp only [entrepotref04_Put.l0]
      rw [if_pos (by omega), if_pos trivial]
    · simp only [entrepotref04_Put.j1]
      rw [if_neg (by simp), if_pos (by omega), if_pos (by omega), if_pos (by rw [List.length_map]; omega), nx i (by omega), rd_eta]
      rfl
theorem refPut_f (j : Nat) : ∀ (i : Nat) (A : List Dg.D), i + j = l.length → A.length ≤ i → Ev (fun k => entrepotref04_Put.l0 k l (A.map toS) false (i : Int) d.1 d.2) (((A ++ Dg.rput d ((Dl l).drop i)).take 16).map toS) := by
  induction j with
  | zero =>
    intro i A hi hA
    rw [List.drop_of_length_le (by rw [Dl_length]; omega)]
    refine Ev.one fun k => ?_
    have e : (A.map toS ++ [(⟨d.1, d.2⟩ : S25)]) = (A ++ Dg.rput d []).map toS := by rw [List.map_append]; rfl
    simp only [entrepotref04_Put.l0]
    rw [if_neg (by omega), if_neg (by simp), if_pos (by rw [List.length_map]; omega), e, Option.bind_some, fin16]
  | succ j ih =>
    intro i A hi hA
    have hr := Dl_rd l i
    have hL := refLess ((Dl l).getD i (0, 0)) d
    rw [hr] at hL
    simp only at hL
    rw [← hr] at hL
    rw [drop_next _ _ (by rw [Dl_length]; omega), Dg.rput]
    cases hc : Dg.less ((Dl l).getD i (0, 0)) d with
    | true =>
      have := ih (i + 1) (A ++ [(Dl l).getD i (0, 0)]) (by omega) (by rw [List.length_append, List.length_singleton]; omega)
      rw [List.append_assoc, List.map_append] at this
      rw [if_pos rfl]
      refine Ev.step (fun k => ?_) (Ev.step (g := fun k => entrepotref04_Put.j1 k l (A.map toS) false (i : Int) false d.1 d.2) (fun k => ?_) this)
      · simp only [entrepotref04_Put.l0]
        rw [if_pos (by omega), if_neg (by simp), if_pos (by omega), hL, hc]; rfl
      · simp only [entrepotref04_Put.j1]
        rw [if_neg (by simp), if_pos (by omega), if_pos (by omega), if_pos (by rw [List.length_map]; omega), nx i (by omega), rd_eta]
        rfl
    | false =>
      rw [if_neg (by simp)]
      have e0 : (A.map toS ++ [(⟨d.1, d.2⟩ : S25)]) = (A ++ [d]).map toS := by rw [List.map_append]; rfl
      have e := eq_D ((Dl l).getD i (0, 0)) d
      rw [hr] at e
      simp only at e
      rw [← hr] at e
      by_cases he : (Dl l).getD i (0, 0) = d
      · have := refPut_t l d hl j (i + 1) (A ++ [d]) (by omega) (by rw [List.length_append, List.length_singleton]; omega)
        rw [List.append_assoc] at this
        rw [if_pos he]
        refine Ev.step (fun k => ?_) (Ev.step (g := fun k => entrepotref04_Put.j1 k l (A.map toS) false (i : Int) true d.1 d.2) (fun k => ?_) this)
        · simp only [entrepotref04_Put.l0]
          rw [if_pos (by omega), if_neg (by simp), if_pos (by omega), hL, hc]; rfl
        · simp only [entrepotref04_Put.j1]
          rw [if_pos trivial, if_pos (by rw [List.length_map]; omega), e0, Option.bind_some, if_pos (by omega), if_pos (by omega), if_pos (e.2 he.symm), nx i (by omega)]
      · have := refPut_t l d hl j (i + 1) (A ++ [d] ++ [(Dl l).getD i (0, 0)]) (by omega) (by rw [List.length_append, List.length_append, List.length_singleton, List.length_singleton]; omega)
        rw [show ∀ R : List Dg.D, (A ++ [d] ++ [(Dl l).getD i (0, 0)]) ++ R = A ++ d :: (Dl l).getD i (0, 0) :: R from fun R => by simp, List.map_append (l₁ := A ++ [d])] at this
        rw [if_neg he]
        refine Ev.step (fun k => ?_) (Ev.step (g := fun k => entrepotref04_Put.j1 k l (A.map toS) false (i : Int) true d.1 d.2) (fun k => ?_) this)
        · simp only [entrepotref04_Put.l0]
          rw [if_pos (by omega), if_neg (by simp), if_pos (by omega), hL, hc]; rfl
        · simp only [entrepotref04_Put.j1]
          rw [if_pos trivial, if_pos (by rw [List.length_map]; omega), e0, Option.bind_some, if_pos (by omega), if_pos (by omega), if_neg (fun h => he (e.1 h).symm), if_pos (by rw [List.length_map, List.length_append, List.length_singleton]; omega), nx i (by omega), rd_eta]
          rfl
end
theorem refPut (l : List S25) (hl : l.length ≤ 1000) (d : Dg.D) : Ev (fun k => entrepotref04_Put.f k l d.1 d.2) (((Dg.rput d (Dl l)).take 16).map toS) := by
  unfold entrepotref04_Put.f
  exact refPut_f l d hl l.length 0 [] (by omega) (Nat.le_refl _)
/-- The reference's All. -/
theorem flat_D (xss : List (List S25)) (i : Nat) (h : i < xss.length) : (xss.drop i).flatten.map toD = Dl (rd_L2 xss (i : Int)) ++ (xss.drop (i + 1)).flatten.map toD := by
  rw [List.drop_eq_getElem_cons h, List.flatten_cons, List.map_append]
  unfold rd_L2 Dl
  rw [Int.toNat_natCast, List.getD_eq_getElem?_getD, List.getElem?_eq_getElem h]; rfl
theorem putAll16_cons (acc : List Dg.D) (d : Dg.D) (l : List Dg.D) : Dg.putAll16 acc (d :: l) = Dg.putAll16 ((Dg.rput d acc).take 16) l := rfl
theorem refAll_l1 (xss : List (List S25)) (hx : xss.length ≤ 20) (r : List S25) (i : Nat) (hi : i < xss.length) (hrow : (rd_L2 xss (i : Int)).length ≤ 60) (j : Nat) : ∀ (t : Nat) (acc : List Dg.D), t + j = (rd_L2 xss (i : Int)).length → acc.length ≤ 16 →
    (∀ acc : List Dg.D, acc.length ≤ 16 → Ev (fun k => entrepotref04_All.l0 k xss (acc.map toS) ((i + 1 : Nat) : Int)) ((Dg.putAll16 acc ((xss.drop (i + 1)).flatten.map toD)).map toS)) →
    Ev (fun k => entrepotref04_All.l1 k xss (acc.map toS) (i : Int) (t : Int)) ((Dg.putAll16 acc ((Dl (rd_L2 xss (i : Int))).drop t ++ (xss.drop (i + 1)).flatten.map toD)).map toS) := by
  induction j with
  | zero =>
    intro t acc ht ha H
    rw [List.drop_of_length_le (by rw [Dl_length]; omega), List.nil_append]
    refine Ev.step (fun k => ?_) (H acc ha)
    simp only [entrepotref04_All.l1]
    rw [if_pos (by omega), if_pos (by omega), if_neg (by omega), nx i (by omega)]
  | succ j ih =>
    intro t acc ht ha H
    have hacc : ((Dg.rput ((Dl (rd_L2 xss (i : Int))).getD t (0, 0)) acc).take 16).length ≤ 16 := by rw [List.length_take]; omega
    have := ih (t + 1) _ (by omega) hacc H
    rw [drop_next _ _ (by rw [Dl_length]; omega), List.cons_append, putAll16_cons]
    have hP := refPut (acc.map toS) (by rw [List.length_map]; omega) ((Dl (rd_L2 xss (i : Int))).getD t (0, 0))
    rw [Dl_toS, Dl_rd] at hP
    refine Ev.step (fun k => ?_) (Ev.bind (f := fun k t247 => entrepotref04_All.l1 k xss t247 (i : Int) ((t + 1 : Nat) : Int)) hP ?_)
    · simp only [entrepotref04_All.l1]
      rw [if_pos (by omega), if_pos (by omega), if_pos (by omega), if_pos (by omega), nx t (by omega)]
    · rw [Dl_rd] at this ⊢
      exact this
theorem refAll_l0 (xss : List (List S25)) (hx : xss.length ≤ 20) (hrow : ∀ i : Nat, i < xss.length → (rd_L2 xss (i : Int)).length ≤ 60) (j : Nat) : ∀ (i : Nat) (acc : List Dg.D), i + j = xss.length → acc.length ≤ 16 →
    Ev (fun k => entrepotref04_All.l0 k xss (acc.map toS) (i : Int)) ((Dg.putAll16 acc ((xss.drop i).flatten.map toD)).map toS) := by
  induction j with
  | zero =>
    intro i acc hi ha
    rw [List.drop_of_length_le (by omega)]
    refine Ev.one fun k => ?_
    simp only [entrepotref04_All.l0]
    rw [if_neg (by omega)]; rfl
  | succ j ih =>
    intro i acc hi ha
    have h1 := refAll_l1 xss hx [] i (by omega) (hrow i (by omega)) (rd_L2 xss (i : Int)).length 0 acc (by omega) ha fun acc' ha' => ih (i + 1) acc' (by omega) ha'
    rw [List.drop_zero, ← flat_D xss i (by omega)] at h1
    refine Ev.step (fun k => ?_) h1
    simp only [entrepotref04_All.l0]
    rw [if_pos (by omega)]; rfl
theorem refAll (xss : List (List S25)) (hx : xss.length ≤ 20) (hrow : ∀ i : Nat, i < xss.length → (rd_L2 xss (i : Int)).length ≤ 60) : Ev (fun k => entrepotref04_All.f k xss) ((allD (xss.flatten.map toD)).map toS) := by
  unfold entrepotref04_All.f
  rw [allD_eq]
  exact refAll_l0 xss hx hrow xss.length 0 [] (by omega) (by simp)
/-- Too long? -/
theorem long_ev (xss : List (List S25)) (j : Nat) : ∀ i : Nat, i ≤ xss.length → i ≤ 30 → 30 - i ≤ j → (∀ t : Nat, t < i → (rd_L2 xss (t : Int)).length ≤ 60) →
    ∃ B, Ev (fun k => entrepotlaw04_long.l0 k xss ((tot (xss.take i) : Nat) : Int) (i : Int)) B ∧ (B = false → xss.length ≤ 20 ∧ tot xss ≤ 200 ∧ ∀ t : Nat, t < xss.length → (rd_L2 xss (t : Int)).length ≤ 60) := by
  have bound : ∀ i : Nat, i ≤ xss.length → (∀ t : Nat, t < i → (rd_L2 xss (t : Int)).length ≤ 60) → tot (xss.take i) ≤ i * 60 := by
    intro i
    induction i with
    | zero => intro _ _; simp [tot]
    | succ i ih =>
      intro h1 h2
      rw [tot_next xss i (by omega)]
      have := ih (by omega) fun t ht => h2 t (by omega)
      have := h2 i (by omega)
      omega
  have stop : ∀ i : Nat, i ≤ xss.length → i ≤ 30 → ¬ (i < xss.length ∧ i < 30) → (∀ t : Nat, t < i → (rd_L2 xss (t : Int)).length ≤ 60) →
      ∃ B, Ev (fun k => entrepotlaw04_long.l0 k xss ((tot (xss.take i) : Nat) : Int) (i : Int)) B ∧ (B = false → xss.length ≤ 20 ∧ tot xss ≤ 200 ∧ ∀ t : Nat, t < xss.length → (rd_L2 xss (t : Int)).length ≤ 60) := by
    intro i hi h30 hno hr
    by_cases h20 : (xss.length : Int) > 20
    · refine ⟨true, Ev.step (f := fun k => entrepotlaw04_long.j1 k xss ((tot (xss.take i) : Nat) : Int) (i : Int) false) (fun k => ?_) (Ev.one fun k => ?_), fun h => by cases h⟩
      · simp only [entrepotlaw04_long.l0]
        by_cases h : (i : Int) < (xss.length : Int)
        · rw [if_pos h, decide_eq_false (show ¬ (i : Int) < 30 by omega)]
        · rw [if_neg h]
      · simp only [entrepotlaw04_long.j1]
        rw [if_neg (by simp), if_pos h20]
    · have hii : i = xss.length := by omega
      refine ⟨decide (((tot (xss.take i) : Nat) : Int) > 200), Ev.step (f := fun k => entrepotlaw04_long.j1 k xss ((tot (xss.take i) : Nat) : Int) (i : Int) false) (fun k => ?_) (Ev.one fun k => ?_), fun h => ?_⟩
      · simp only [entrepotlaw04_long.l0]
        rw [if_neg (by omega)]
      · simp only [entrepotlaw04_long.j1]
        rw [if_neg (by simp), if_neg h20]
      · rw [decide_eq_false_iff_not] at h
        rw [hii, List.take_length] at h
        rw [hii] at hr
        exact ⟨by omega, by omega, hr⟩
  induction j with
  | zero => intro i hi h30 hj hr; exact stop i hi h30 (by omega) hr
  | succ j ih =>
    intro i hi h30 hj hr
    by_cases hc : i < xss.length ∧ i < 30
    · have hj1 : ∀ k, entrepotlaw04_long.l0 (k + 1) xss ((tot (xss.take i) : Nat) : Int) (i : Int) = entrepotlaw04_long.j1 k xss ((tot (xss.take i) : Nat) : Int) (i : Int) true := fun k => by
        simp only [entrepotlaw04_long.l0]
        rw [if_pos (by omega), decide_eq_true (show (i : Int) < 30 by omega)]
      by_cases h60 : ((rd_L2 xss (i : Int)).length : Int) > 60
      · refine ⟨true, Ev.step hj1 (Ev.one fun k => ?_), fun h => by cases h⟩
        simp only [entrepotlaw04_long.j1]
        rw [if_pos trivial, if_pos (by omega), if_pos (by omega), if_pos h60]
      · obtain ⟨B, hB, hB2⟩ := ih (i + 1) (by omega) (by omega) (by omega) fun t ht => by
          rcases Nat.lt_or_ge t i with h | h
          · exact hr t h
          · obtain rfl : t = i := by omega
            omega
        have hbd := bound i hi hr
        rw [tot_next xss i hc.1] at hB
        refine ⟨B, Ev.step hj1 (Ev.step (fun k => ?_) hB), hB2⟩
        simp only [entrepotlaw04_long.j1]
        rw [if_pos trivial, if_pos (by omega), if_pos (by omega), if_neg h60, nx i (by omega), w64 _ (by omega) (by omega)]
        rfl
    · exact stop i hi h30 hc hr
theorem long_ (xss : List (List S25)) : ∃ B, Ev (fun k => entrepotlaw04_long.f k xss) B ∧ (B = false → xss.length ≤ 20 ∧ tot xss ≤ 200 ∧ ∀ t : Nat, t < xss.length → (rd_L2 xss (t : Int)).length ≤ 60) := by
  unfold entrepotlaw04_long.f
  exact long_ev xss 30 0 (Nat.zero_le _) (by omega) (by omega) (fun t h => by omega)
/-- First, of the code and of the reference; Sorted of both. -/
theorem firstBoth (l : List S25) (hl : l.length ≤ 1000) : ∃ r, Ev (fun k => diag_First.f k l) r ∧ entrepotref04_First.f l = some r := by
  unfold entrepotref04_First.f
  cases l with
  | nil =>
    refine ⟨(0, 0, false), Ev.one fun k => ?_, rfl⟩
    unfold diag_First.f
    simp only [diag_First.l0]; rfl
  | cons a l =>
    refine ⟨((rd_T25 (a :: l) 0).f0, (rd_T25 (a :: l) 0).f1, true), Ev.one fun k => ?_, ?_⟩
    · unfold diag_First.f
      simp only [diag_First.l0]
      rw [if_pos (by rw [List.length_cons]; omega), if_pos (by omega), if_pos (by rw [List.length_cons]; omega)]
    · rw [if_neg (by rw [List.length_cons]; omega), if_pos (by rw [List.length_cons]; omega)]
theorem bothSorted (l : List S25) (hl : l.length ≤ 60) : ∃ r, diag_Sorted.f l = some r ∧ Ev (fun k => entrepotref04_Sorted.f k l) r := by
  refine ⟨decide (l.length ≤ 16) && strictS l, ?_, ?_⟩
  · unfold diag_Sorted.f; rw [if_pos (by omega)]
  · by_cases h : l.length ≤ 20
    · exact refSorted l h
    · exact refSorted' l hl
theorem puts_l0 (xss : List (List S25)) (hx : xss.length ≤ 20) (hrow : ∀ i : Nat, i < xss.length → (rd_L2 xss (i : Int)).length ≤ 60) (j : Nat) : ∀ (i : Nat), i + j = xss.length → Ev (fun k => entrepotlaw04_DiagPuts.l0 k xss (i : Int)) true := by
  induction j with
  | zero =>
    intro i hi
    refine Ev.one fun k => ?_
    simp only [entrepotlaw04_DiagPuts.l0]
    rw [if_neg (by omega)]
  | succ j ih =>
    intro i hi
    obtain ⟨r, h1, h2⟩ := firstBoth (rd_L2 xss (i : Int)) (by have := hrow i (by omega); omega)
    obtain ⟨q, h3, h4⟩ := bothSorted (rd_L2 xss (i : Int)) (hrow i (by omega))
    refine Ev.later ?_
    simp only [entrepotlaw04_DiagPuts.l0]
    refine Ev.pos (by omega) (Ev.pos (by omega) ?_)
    refine Ev.bind h1 ?_
    simp only [h2, h3, Option.bind_some]
    refine Ev.bind h4 ?_
    simp only [bne_self_eq_false, BEq.rfl, Bool.not_true, Bool.or_self, Bool.false_eq_true, if_false, nx i (show i ≤ 1000 by omega)]
    exact ih (i + 1) (by omega)
theorem DiagPuts (xss : List (List S25)) (a b : Int) : ∃ k, entrepotlaw04_DiagPuts.f k xss a b = some true := by
  have hj : Ev (fun k => entrepotlaw04_DiagPuts.j0 k xss true a b) true := by
    refine Ev.step (f := fun k => (entrepotlaw04_shown.f k).bind fun t208 => (some t208)) (fun k => ?_) (Ev.bind shown_ev (Ev.now _))
    simp only [entrepotlaw04_DiagPuts.j0]
    rw [if_pos trivial]
  refine Ev.rounds (g := fun k => entrepotlaw04_DiagPuts.f k xss a b) ?_
  unfold entrepotlaw04_DiagPuts.f
  obtain ⟨B, hB, hB2⟩ := long_ xss
  refine Ev.bind hB ?_
  cases B with
  | true => simp only [if_true]; exact hj
  | false =>
    obtain ⟨hx, ht, hrow⟩ := hB2 rfl
    simp only [Bool.false_eq_true, if_false]
    refine Ev.bind shown_ev ?_
    have hAll : diag_All.f xss = some ((allD (xss.flatten.map toD)).map toS) := by unfold diag_All.f; rw [if_pos ⟨by omega, by omega⟩]
    have hlen : (allD (xss.flatten.map toD)).length ≤ 16 := by unfold allD; rw [List.length_take]; omega
    have hstr : Dg.strict (allD (xss.flatten.map toD)) = true := by
      rw [allD_eq, show Dg.putAll16 [] (xss.flatten.map toD) = (Dg.putAll [] (xss.flatten.map toD)).take 16 from Dg.putAll16_eq _ []]
      exact Dg.strict_take (Dg.putAll_ok _ [] rfl).1 16
    have hrA := refAll xss hx hrow
    obtain ⟨L, hL⟩ : ∃ L, allD (xss.flatten.map toD) = L := ⟨_, rfl⟩
    rw [hL] at hAll hlen hstr hrA
    have hDl : Dl (L.map toS) = L := Dl_toS L
    have hSrt : diag_Sorted.f (L.map toS) = some true := by
      have e : strictS (L.map toS) = true := by show Dg.strict (Dl (L.map toS)) = true; rw [hDl]; exact hstr
      unfold diag_Sorted.f
      rw [if_pos (by rw [List.length_map]; omega), e, List.length_map, decide_eq_true hlen]; rfl
    have hPut : diag_Put.f (L.map toS) a b = some (((Dg.rput (a, b) L).take 16).map toS) := by
      have e : strictS (L.map toS) = true := by show Dg.strict (Dl (L.map toS)) = true; rw [hDl]; exact hstr
      unfold diag_Put.f
      rw [if_pos ⟨e, by rw [List.length_map]; omega⟩, show (L.map toS).map toD = L from hDl, Dg.rput_eq _ hstr]
    have hrP := refPut (L.map toS) (by rw [List.length_map]; omega) (a, b)
    rw [hDl] at hrP
    have hS1 := refSame (L.map toS) (by rw [List.length_map]; omega)
    have hS2 := refSame (((Dg.rput (a, b) L).take 16).map toS) (by rw [List.length_map, List.length_take]; omega)
    refine Ev.later ?_
    simp only [entrepotlaw04_DiagPuts.j0]
    simp only [Bool.not_true, Bool.false_eq_true, if_false, hAll, Option.bind_some]
    refine Ev.bind hrA ?_
    refine Ev.bind hS1 ?_
    simp only [if_true, hSrt, Option.bind_some, hPut]
    refine Ev.bind hrP ?_
    refine Ev.bind hS2 ?_
    refine Ev.later ?_
    simp only [entrepotlaw04_DiagPuts.j1, Bool.not_true, Bool.false_eq_true, if_false]
    exact puts_l0 xss hx hrow xss.length 0 (by omega)
end Go.Proofs.YtgphciopondlaaaDoor.Evs
