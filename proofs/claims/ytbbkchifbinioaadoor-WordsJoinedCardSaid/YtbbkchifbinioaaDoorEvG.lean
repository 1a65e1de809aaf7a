/- What the reference's words come to, in plain Lean. Conditions: texts of at most 1000000000 bytes. -/
import Derived.Test.YtbbkchifbinioaaDoorPAllx8
import Derived.Test.YtbbkchifbinioaaDoorEvB
namespace Go.Proofs.YtbbkchifbinioaaDoor.Evs
set_option linter.unusedVariables false
set_option linter.unusedSimpArgs false
open Go.RowKit Go.Proofs.YtbbkchifbinioaaDoor.PAll Go.Proofs.YtbbkchifbinioaaDoorW.PrintWords Go.Proofs.YtbbkchifbinioaaDoorW.PrintLast

def toR (x : Wd.Wo) : S27 := ⟨x.f, x.t⟩
theorem rd27 (xs : List Wd.Wo) (i : Nat) (h : i < xs.length) : rd_T27 (xs.map toR) (i : Int) = toR xs[i] := by
  unfold rd_T27
  rw [Int.toNat_natCast, List.getD_eq_getElem?_getD, List.getElem?_map, List.getElem?_eq_getElem h]; rfl
theorem rd24 (xs : List Wd.Wo) (i : Nat) (h : i < xs.length) : rd_T24 (xs.map toS) (i : Int) = toS xs[i] := by
  unfold rd_T24
  rw [Int.toNat_natCast, List.getD_eq_getElem?_getD, List.getElem?_map, List.getElem?_eq_getElem h]; rfl
theorem wordsF (s : ByteArray) (hs : s.size ≤ 1000000000) (a b : Nat) (hab : a ≤ b) (hb : b ≤ s.size) : words_Fields.f s (a : Int) (b : Int) = some ((Wd.words s.data.toList a b).map toS) := by
  unfold words_Fields.f wordsV
  rw [if_pos hs, if_pos (by omega), Int.toNat_natCast, Int.toNat_natCast]
theorem wordsF_not (s : ByteArray) (hs : s.size ≤ 1000000000) (a b : Int) (h : ¬ (0 ≤ a ∧ a ≤ b ∧ b ≤ (s.size : Int))) : words_Fields.f s a b = some [] := by
  unfold words_Fields.f wordsV
  rw [if_pos hs, if_neg h]; rfl
theorem refPlaces_not (s : ByteArray) (a b : Int) (h : ¬ (0 ≤ a ∧ a ≤ b ∧ b ≤ (s.size : Int))) : entrepotref03_places.f s a b = some false := by
  unfold entrepotref03_places.f
  by_cases h1 : a ≥ 0
  · rw [if_pos h1]
    by_cases h2 : a ≤ b
    · rw [if_pos h2, decide_eq_false (by omega)]
    · rw [if_neg h2]
  · rw [if_neg h1]
theorem placesW (s : ByteArray) (a b : Int) : words_places.f s a b = entrepotref03_places.f s a b := rfl
theorem textF (s : ByteArray) (a b : Int) : words_Text.f s a b = entrepotref03_Text.f s a b := rfl
theorem refTextF_not (s : ByteArray) (a b : Int) (h : ¬ (0 ≤ a ∧ a ≤ b ∧ b ≤ (s.size : Int))) : entrepotref03_Text.f s a b = some ⟨#[]⟩ := by
  unfold entrepotref03_Text.f
  rw [refPlaces_not s a b h]; rfl
/-- The words so far: the open one ends here. -/
def sofar (done : List Wd.Wo) (o : Option Nat) (i : Nat) : List Wd.Wo := done ++ (match o with | some x => [⟨x, i⟩] | none => [])
theorem refFields_l0 (s : ByteArray) (hs : s.size ≤ 1000000000) (a b : Nat) (hb : b ≤ s.size) (d : Nat) : ∀ (i : Nat) (done : List Wd.Wo) (o : Option Nat), i + d = b → a ≤ i → done.length ≤ i →
    (o = none → i = a ∨ Wd.isB (s.data.toList.getD (i - 1) 0) = true) → (o ≠ none → a < i ∧ Wd.isB (s.data.toList.getD (i - 1) 0) = false) →
    Ev (fun k => entrepotref03_Fields.l0 k s (a : Int) (b : Int) ((sofar done o i).map toR) (i : Int)) ((done ++ Wd.wd o i (Wd.part s.data.toList i b)).map toR) := by
  induction d with
  | zero =>
    intro i done o hi ha hd h1 h2
    rw [Wd.part_nil _ _ _ (by omega)]
    refine Ev.one fun k => ?_
    simp only [entrepotref03_Fields.l0]
    rw [if_neg (by omega)]
    cases o <;> rfl
  | succ d ih =>
    intro i done o hi ha hd h1 h2
    obtain ⟨c, hc⟩ : ∃ c, s.data.toList.getD i 0 = c := ⟨_, rfl⟩
    have hbt := bt_is s i c hc
    have hbl := blankF c
    have hw := next_ i (by omega)
    have hsl : (sofar done o i).length ≤ i + 1 := by unfold sofar; cases o <;> simp <;> omega
    rw [Wd.part_cons _ _ _ (by omega) (show b ≤ s.size from hb), hc]
    cases hB : Wd.isB c with
    | true =>
      rw [hB] at hbl
      have hnext := ih (i + 1) (sofar done o i) none (by omega) (by omega) hsl (fun _ => .inr (by rw [Nat.add_sub_cancel, hc]; exact hB)) (fun h => absurd rfl h)
      have e : done ++ Wd.wd o i (c :: Wd.part s.data.toList (i + 1) b) = sofar done o i ++ Wd.wd none (i + 1) (Wd.part s.data.toList (i + 1) b) := by
        rw [Wd.wd_blank _ _ _ _ hB]
        unfold sofar; cases o <;> simp
      rw [e]
      have e2 : sofar (sofar done o i) none (i + 1) = sofar done o i := by simp [sofar]
      rw [e2] at hnext
      refine Ev.step (fun k => ?_) hnext
      simp only [entrepotref03_Fields.l0]
      rw [if_pos (by omega), if_pos (by omega), if_pos (by omega), hbt, hbl, hw]; rfl
    | false =>
      rw [hB] at hbl
      rw [Wd.wd_sign _ _ _ _ hB]
      cases o with
      | none =>
        have hnext := ih (i + 1) done (some i) (by omega) (by omega) (by omega) (fun h => by cases h) (fun _ => ⟨by omega, by rw [Nat.add_sub_cancel, hc]; exact hB⟩)
        have e2 : (sofar done (some i) (i + 1)).map toR = (sofar done none i).map toR ++ [(⟨(i : Int), ((i + 1 : Nat) : Int)⟩ : S27)] := by simp [sofar, toR]
        rw [e2] at hnext
        rw [Option.getD_none]
        have hlen : ((sofar done none i).map toR).length < 8796093022208 := by rw [List.length_map]; omega
        refine Ev.step (fun k => ?_) hnext
        simp only [entrepotref03_Fields.l0]
        rw [if_pos (by omega), if_pos (by omega), if_pos (by omega), hbt, hbl, hw]
        simp only [Option.bind_some, Bool.false_eq_true, if_false]
        by_cases hia : a < i
        · have hp := (h1 rfl).resolve_left (by omega)
          have hw1 : wrap64 ((i : Int) - 1) = ((i - 1 : Nat) : Int) := by rw [w64 _ (by omega) (by omega)]; omega
          obtain ⟨c', hc'⟩ : ∃ c, s.data.toList.getD (i - 1) 0 = c := ⟨_, rfl⟩
          rw [hc'] at hp
          have hbl' := blankF c'
          rw [hp] at hbl'
          rw [if_pos (by omega), hw1, if_pos (by omega), if_pos (by omega), bt_is s (i - 1) c' hc', hbl']
          simp only [Option.bind_some, if_true]
          rw [if_pos hlen]
        · rw [if_neg (by omega), if_pos hlen]
      | some x =>
        obtain ⟨hia, hp⟩ := h2 (by simp)
        have hnext := ih (i + 1) done (some x) (by omega) (by omega) (by omega) (fun h => by cases h) (fun _ => ⟨by omega, by rw [Nat.add_sub_cancel, hc]; exact hB⟩)
        rw [Option.getD_some]
        have hlen : ((sofar done (some x) i).map toR).length = done.length + 1 := by simp [sofar]
        have hw1 : wrap64 ((i : Int) - 1) = ((i - 1 : Nat) : Int) := by rw [w64 _ (by omega) (by omega)]; omega
        have hw2 : wrap64 ((((sofar done (some x) i).map toR).length : Int) - 1) = (done.length : Int) := by rw [hlen, w64 _ (by omega) (by omega)]; omega
        have hrd : rd_T27 ((sofar done (some x) i).map toR) (done.length : Int) = ⟨(x : Int), (i : Int)⟩ := by
          rw [rd27 _ _ (by simp [sofar])]
          simp [sofar, toR]
        have e2 : (sofar done (some x) (i + 1)).map toR = ((sofar done (some x) i).map toR).set done.length (⟨(x : Int), ((i + 1 : Nat) : Int)⟩ : S27) := by simp [sofar, toR, List.set_append]
        rw [e2] at hnext
        obtain ⟨c', hc'⟩ : ∃ c, s.data.toList.getD (i - 1) 0 = c := ⟨_, rfl⟩
        rw [hc'] at hp
        have hbl' := blankF c'
        rw [hp] at hbl'
        refine Ev.step (fun k => ?_) hnext
        simp only [entrepotref03_Fields.l0]
        rw [if_pos (by omega), if_pos (by omega), if_pos (by omega), hbt, hbl, hw]
        simp only [Option.bind_some, Bool.false_eq_true, if_false]
        rw [if_pos (by omega), hw1, if_pos (by omega), if_pos (by omega), bt_is s (i - 1) c' hc', hbl']
        simp only [Option.bind_some, Bool.false_eq_true, if_false]
        rw [hw2, if_pos (by omega), if_pos (by rw [hlen]; omega), hrd, Int.toNat_natCast]
theorem refFields (s : ByteArray) (hs : s.size ≤ 1000000000) (a b : Nat) (hab : a ≤ b) (hb : b ≤ s.size) : Ev (fun k => entrepotref03_Fields.f k s (a : Int) (b : Int)) ((Wd.words s.data.toList a b).map toR) := by
  have h := refFields_l0 s hs a b hb (b - a) a [] none (by omega) (Nat.le_refl _) (by simp) (fun _ => .inl rfl) (fun h => absurd rfl h)
  refine Ev.congr (fun k => ?_) h
  unfold entrepotref03_Fields.f
  rw [Option.bind_some, placesF s a b hab hb, Option.bind_some, if_pos rfl]; rfl
theorem refFields_not (s : ByteArray) (a b : Int) (h : ¬ (0 ≤ a ∧ a ≤ b ∧ b ≤ (s.size : Int))) (k : Nat) : entrepotref03_Fields.f k s a b = some [] := by
  unfold entrepotref03_Fields.f
  rw [Option.bind_some, refPlaces_not s a b h]; rfl
theorem its_l0 (xs : List Wd.Wo) (hl : xs.length ≤ 1000000000) (j : Nat) : ∀ i : Nat, i + j = xs.length → Ev (fun k => entrepotlaw03_its.l0 k (xs.map toS) ((xs.take i).map toR) (i : Int)) (xs.map toR) := by
  induction j with
  | zero =>
    intro i hi
    refine Ev.one fun k => ?_
    simp only [entrepotlaw03_its.l0]
    rw [if_neg (by rw [List.length_map]; omega), List.take_of_length_le (by omega)]
  | succ j ih =>
    intro i hi
    have hnext := ih (i + 1) (by omega)
    rw [List.take_succ_eq_append_getElem (by omega), List.map_append, List.map_singleton] at hnext
    refine Ev.step (fun k => ?_) hnext
    simp only [entrepotlaw03_its.l0]
    rw [if_pos (by rw [List.length_map]; omega), if_pos (by omega), if_pos (by rw [List.length_map, List.length_take]; omega), rd24 xs i (by omega), next_ i (by omega)]; rfl
theorem its (xs : List Wd.Wo) (hl : xs.length ≤ 1000000000) : Ev (fun k => entrepotlaw03_its.f k (xs.map toS)) (xs.map toR) := by
  have := its_l0 xs hl xs.length 0 (by omega)
  exact this
theorem refSame_l0 (xs : List Wd.Wo) (hl : xs.length ≤ 1000000000) (j : Nat) : ∀ i : Nat, i + j = xs.length → Ev (fun k => entrepotref03_Same.l0 k (xs.map toR) (xs.map toR) (i : Int)) true := by
  induction j with
  | zero =>
    intro i hi
    refine Ev.one fun k => ?_
    simp only [entrepotref03_Same.l0]
    rw [if_neg (by rw [List.length_map]; omega)]
  | succ j ih =>
    intro i hi
    refine Ev.step (fun k => ?_) (ih (i + 1) (by omega))
    simp only [entrepotref03_Same.l0]
    rw [if_pos (by rw [List.length_map]; omega), if_pos (by omega), if_pos (by rw [List.length_map]; omega), if_neg (by simp), next_ i (by omega)]
theorem refSame (xs : List Wd.Wo) (hl : xs.length ≤ 1000000000) : Ev (fun k => entrepotref03_Same.f k (xs.map toR) (xs.map toR)) true := by
  have := refSame_l0 xs hl xs.length 0 (by omega)
  unfold entrepotref03_Same.f
  simp only [if_true]
  exact this
theorem words_len (s : ByteArray) (a b : Nat) (hb : b ≤ s.size) : (Wd.words s.data.toList a b).length ≤ s.size + 1 := by
  have h := wd_len (Wd.part s.data.toList a b) none a
  rw [Wd.part_len _ _ _ (show b ≤ s.size from hb)] at h
  unfold Wd.words; omega
theorem textSome (s : ByteArray) (a b : Int) : ∃ t, entrepotref03_Text.f s a b = some t := by
  by_cases hp : 0 ≤ a ∧ a ≤ b ∧ b ≤ (s.size : Int)
  · obtain ⟨a, rfl⟩ := Int.eq_ofNat_of_zero_le hp.1
    obtain ⟨b, rfl⟩ := Int.eq_ofNat_of_zero_le (show 0 ≤ b by omega)
    exact ⟨_, refTextF s a b (by omega) (by omega)⟩
  · exact ⟨_, refTextF_not s a b hp⟩
end Go.Proofs.YtbbkchifbinioaaDoor.Evs
