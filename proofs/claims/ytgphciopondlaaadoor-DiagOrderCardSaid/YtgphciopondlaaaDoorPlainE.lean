/- The plain law of layer 4, more: putting many together. Conditions: none. -/
import Derived.Test.YtgphciopondlaaaDoorPlain
import Derived.Lib.SlicesCompact
namespace Dg
/-- How many pairs agree. -/
def nb (l q : List D) : Nat := (l.map (fun x => q.count x)).sum
theorem nb_nil (l : List D) : nb l [] = 0 := by
  unfold nb
  induction l with
  | nil => rfl
  | cons a l ih => rw [List.map_cons, List.sum_cons, ih]; rfl
theorem nb_cons (l : List D) (y : D) (q : List D) : nb l (y :: q) = nb l q + l.count y := by
  unfold nb
  induction l with
  | nil => rfl
  | cons a l ih =>
    rw [List.map_cons, List.sum_cons, ih, List.map_cons, List.sum_cons, List.count_cons, List.count_cons]
    have e : (y == a) = (a == y) := by rw [Bool.eq_iff_iff, beq_iff_eq, beq_iff_eq]; exact eq_comm
    rw [e]; omega
theorem nb_take (l q : List D) (i : Nat) (h : i < l.length) : nb (l.take (i + 1)) q = nb (l.take i) q + q.count (l.getD i (0, 0)) := by
  unfold nb
  rw [List.take_add_one, List.map_append, List.sum_append, List.getD_eq_getElem?_getD, List.getElem?_eq_getElem h]
  simp
theorem take_next (l : List D) (i : Nat) (h : i < l.length) : l.take (i + 1) = l.take i ++ [l.getD i (0, 0)] := by
  rw [List.take_add_one, List.getD_eq_getElem?_getD, List.getElem?_eq_getElem h]; rfl
theorem count_strict {l : List D} (h : strict l = true) {x : D} (hx : x ∈ l) : l.count x = 1 := by
  induction l with
  | nil => cases hx
  | cons a l ih =>
    have hc := strict_cons h
    rw [List.count_cons]
    by_cases e : a = x
    · subst e
      have : l.count a = 0 := List.count_eq_zero.2 fun hm => by have := hc.2 a hm; rw [less_irrefl] at this; cases this
      rw [this]; simp
    · rw [if_neg (by simpa using e), ih hc.1 (by rcases List.mem_cons.1 hx with rfl | h; exact absurd rfl e; exact h)]
theorem nb_of {l : List D} (hl : strict l = true) {d : D} (hd : d ∉ l) : ∀ q : List D, (∀ x ∈ q, x ∈ l ∨ x = d) → nb l q + q.count d = q.length := by
  intro q
  induction q with
  | nil => intro _; rw [nb_nil]; rfl
  | cons y q ih =>
    intro h
    have := ih fun x hx => h x (List.mem_cons_of_mem _ hx)
    rw [nb_cons, List.count_cons, List.length_cons]
    rcases h y List.mem_cons_self with hh | hh
    · have e : ¬ (y == d) = true := by rw [beq_iff_eq]; intro e; exact hd (e ▸ hh)
      rw [count_strict hl hh, if_neg e]; omega
    · rw [hh, List.count_eq_zero.2 hd]; simp; omega
theorem put_mem {l : List D} (h : strict l = true) {d : D} (hd : d ∈ l) : put l d = l := by
  unfold put
  rw [if_pos]
  obtain ⟨i, hi, rfl⟩ := List.getElem_of_mem hd
  have hp := pos_eq h l[i] i (by omega) (fun t ht hlt => strict_get h t i hlt hi) (fun t ht hle => by
    rcases Nat.lt_or_ge i t with c | c
    · exact less_asymm (strict_get h i t c ht)
    · obtain rfl : t = i := by omega
      exact less_irrefl _)
  rw [hp, List.getElem?_eq_getElem hi]
theorem put_new {l : List D} {d : D} (hd : d ∉ l) : put l d = l.take (pos l d) ++ d :: l.drop (pos l d) := by
  unfold put
  rw [if_neg]
  intro h
  exact hd (List.mem_of_getElem? h)
/-- What is kept of it. -/
def kept (l : List D) (d : D) : List D := (put l d).take 16
theorem kept_mem {l : List D} (h : strict l = true) (hl : l.length ≤ 16) {d : D} (hd : d ∈ l) : kept l d = l := by
  unfold kept; rw [put_mem h hd, List.take_of_length_le hl]
theorem kept_new {l : List D} (h : strict l = true) (hl : l.length ≤ 16) {d : D} (hd : d ∉ l) :
    (d ∈ kept l d ↔ pos l d < 16) ∧ (kept l d).length = min (l.length + 1) 16 ∧ (nb l (kept l d) = l.length ∨ nb l (kept l d) + 1 = l.length ∧ l.length = 16) := by
  have hp := pos_le l d
  have hlen : (put l d).length = l.length + 1 := by rw [put_new hd, List.length_append, List.length_cons, List.length_take, List.length_drop]; omega
  have hkl : (kept l d).length = min (l.length + 1) 16 := by unfold kept; rw [List.length_take, hlen]; omega
  have hsub : ∀ x ∈ kept l d, x ∈ l ∨ x = d := by
    intro x hx
    have hx := List.mem_of_mem_take hx
    rw [put_new hd, List.mem_append, List.mem_cons] at hx
    rcases hx with h | h | h
    · exact .inl (List.mem_of_mem_take h)
    · exact .inr h
    · exact .inl (List.mem_of_mem_drop h)
  have hnb := nb_of h hd (kept l d) hsub
  have ht : ∀ n, d ∉ (l.take n) := fun n hm => hd (List.mem_of_mem_take hm)
  have hdr : ∀ n m, d ∉ (l.drop n).take m := fun n m hm => hd (List.mem_of_mem_drop (List.mem_of_mem_take hm))
  by_cases c : pos l d < 16
  · have e : kept l d = l.take (pos l d) ++ d :: (l.drop (pos l d)).take (16 - pos l d - 1) := by
      unfold kept
      rw [put_new hd, List.take_append, List.length_take, Nat.min_eq_left hp, List.take_of_length_le (by rw [List.length_take]; omega)]
      congr 1
      obtain ⟨m, hm⟩ : ∃ m, 16 - pos l d = m + 1 := ⟨16 - pos l d - 1, by omega⟩
      rw [hm, List.take_succ_cons]; rfl
    have hc : (kept l d).count d = 1 := by
      rw [e, List.count_append, List.count_cons, List.count_eq_zero.2 (ht _), List.count_eq_zero.2 (hdr _ _)]; simp
    refine ⟨⟨fun _ => c, fun _ => by rw [e]; simp⟩, hkl, ?_⟩
    rw [hc, hkl] at hnb
    omega
  · have e : kept l d = l := by
      unfold kept
      rw [put_new hd, List.take_append, List.length_take, Nat.min_eq_left hp, List.take_of_length_le (show (l.take (pos l d)).length ≤ 16 by rw [List.length_take]; omega), show 16 - pos l d = 0 by omega, List.take_zero, List.append_nil, List.take_of_length_le (by omega)]
    refine ⟨⟨fun hm => absurd (e ▸ hm) hd, fun hc => absurd hc c⟩, hkl, ?_⟩
    rw [hkl] at hnb
    have : (kept l d).count d = 0 := by rw [e]; exact List.count_eq_zero.2 hd
    omega
end Dg

namespace Dg
open Go.Lib
def rput (d : D) : List D → List D
  | [] => [d]
  | a :: l => if less a d = true then a :: rput d l else if a = d then d :: l else d :: a :: l
theorem pos_cons (a : D) (l : List D) (d : D) : pos (a :: l) d = pos l d + if less a d = true then 1 else 0 := by
  unfold pos; rw [List.countP_cons]
theorem pos_zero {a : D} {l : List D} (h : strict (a :: l) = true) {d : D} (hd : less a d = false) : pos (a :: l) d = 0 := by
  unfold pos
  rw [List.countP_eq_zero]
  intro x hx hxd
  rcases List.mem_cons.1 hx with rfl | hx
  · rw [hd] at hxd; cases hxd
  · have := less_trans ((strict_cons h).2 x hx) hxd
    rw [hd] at this; cases this
theorem rput_eq (d : D) : ∀ {l : List D}, strict l = true → put l d = rput d l := by
  intro l
  induction l with
  | nil => intro _; rfl
  | cons a l ih =>
    intro h
    have ih := ih (strict_cons h).1
    unfold put at ih ⊢
    by_cases c : less a d = true
    · rw [rput, if_pos c, ← ih, pos_cons, if_pos c, List.getElem?_cons_succ, List.take_succ_cons, List.drop_succ_cons]
      split <;> rfl
    · have c' : less a d = false := by simpa using c
      rw [rput, if_neg c, pos_zero h c']
      by_cases e : a = d
      · subst e; simp
      · rw [if_neg (by simpa using e), if_neg e]; rfl
theorem rput_mem (d : D) (l : List D) (x : D) : x ∈ rput d l ↔ x = d ∨ x ∈ l := by
  induction l with
  | nil => simp [rput]
  | cons a l ih =>
    rw [rput]
    split
    · rw [List.mem_cons, ih, List.mem_cons]
      constructor
      · rintro (h | h | h)
        · exact .inr (.inl h)
        · exact .inl h
        · exact .inr (.inr h)
      · rintro (h | h | h)
        · exact .inr (.inl h)
        · exact .inl h
        · exact .inr (.inr h)
    · split
      · rename_i e; subst e
        rw [List.mem_cons]
        constructor
        · rintro (h | h)
          · exact .inl h
          · exact .inr (.inr h)
        · rintro (h | h | h)
          · exact .inl h
          · exact .inl h
          · exact .inr h
      · rw [List.mem_cons]
theorem rput_strict (d : D) : ∀ {l : List D}, strict l = true → strict (rput d l) = true := by
  intro l
  induction l with
  | nil => intro _; rfl
  | cons a l ih =>
    intro h
    have hc := strict_cons h
    rw [rput]
    split
    · rename_i c
      refine strict_mk (ih hc.1) fun x hx => ?_
      rcases (rput_mem d l x).1 hx with rfl | hx
      · exact c
      · exact hc.2 x hx
    · split
      · rename_i e; subst e; exact h
      · rename_i c e
        have c2 : less d a = true := by
          cases h2 : less d a with
          | true => rfl
          | false => exact absurd (less_total (by simpa using c) h2) e
        refine strict_mk h fun x hx => ?_
        rcases List.mem_cons.1 hx with rfl | hx
        · exact c2
        · exact less_trans c2 (hc.2 x hx)
theorem rput_take (d : D) : ∀ (l : List D) (n : Nat), (rput d l).take n = (rput d (l.take n)).take n := by
  intro l
  induction l with
  | nil => intro n; simp
  | cons a l ih =>
    intro n
    cases n with
    | zero => simp
    | succ n =>
      rw [List.take_succ_cons, rput, rput]
      split
      · rw [List.take_succ_cons, List.take_succ_cons, ih]
      · split
        · rw [List.take_succ_cons, List.take_succ_cons, List.take_take, Nat.min_self]
        · rw [List.take_succ_cons, List.take_succ_cons]
          cases n with
          | zero => rfl
          | succ n => rw [List.take_succ_cons, List.take_succ_cons, List.take_take, Nat.min_eq_left (by omega)]
def putAll (acc : List D) (l : List D) : List D := l.foldl (fun acc d => rput d acc) acc
def putAll16 (acc : List D) (l : List D) : List D := l.foldl (fun acc d => (rput d acc).take 16) acc
theorem putAll16_eq : ∀ (l acc : List D), putAll16 (acc.take 16) l = (putAll acc l).take 16 := by
  intro l
  induction l with
  | nil => intro acc; rfl
  | cons d l ih =>
    intro acc
    have := ih (rput d acc)
    unfold putAll putAll16 at *
    rw [List.foldl_cons, List.foldl_cons, ← rput_take]
    exact this
theorem putAll_ok : ∀ (l acc : List D), strict acc = true → strict (putAll acc l) = true ∧ ∀ x, x ∈ putAll acc l ↔ x ∈ acc ∨ x ∈ l := by
  intro l
  induction l with
  | nil => intro acc h; exact ⟨h, fun x => by simp [putAll]⟩
  | cons d l ih =>
    intro acc h
    have := ih (rput d acc) (rput_strict d h)
    refine ⟨this.1, fun x => ?_⟩
    have h2 := this.2 x
    rw [rput_mem] at h2
    show x ∈ putAll (rput d acc) l ↔ _
    rw [h2, List.mem_cons]
    constructor
    · rintro ((h | h) | h)
      · exact .inr (.inl h)
      · exact .inl h
      · exact .inr (.inr h)
    · rintro (h | h | h)
      · exact .inl (.inr h)
      · exact .inl (.inl h)
      · exact .inr h
theorem strict_ext : ∀ {l m : List D}, strict l = true → strict m = true → (∀ x, x ∈ l ↔ x ∈ m) → l = m := by
  intro l
  induction l with
  | nil =>
    intro m _ _ h
    cases m with
    | nil => rfl
    | cons b m => exact absurd ((h b).2 List.mem_cons_self) (by simp)
  | cons a l ih =>
    intro m hl hm h
    cases m with
    | nil => exact absurd ((h a).1 List.mem_cons_self) (by simp)
    | cons b m =>
      have h1 := strict_cons hl
      have h2 := strict_cons hm
      have e : a = b := by
        rcases List.mem_cons.1 ((h a).1 List.mem_cons_self) with e | e
        · exact e
        · rcases List.mem_cons.1 ((h b).2 List.mem_cons_self) with e2 | e2
          · exact e2.symm
          · have := less_asymm (h2.2 a e)
            rw [h1.2 b e2] at this; cases this
      subst e
      congr 1
      refine ih h1.1 h2.1 fun x => ⟨fun hx => ?_, fun hx => ?_⟩
      · rcases List.mem_cons.1 ((h x).1 (List.mem_cons_of_mem _ hx)) with e | e
        · subst e
          have := h1.2 x hx
          rw [less_irrefl] at this; cases this
        · exact e
      · rcases List.mem_cons.1 ((h x).2 (List.mem_cons_of_mem _ hx)) with e | e
        · subst e
          have := h2.2 x hx
          rw [less_irrefl] at this; cases this
        · exact e
theorem strict_snoc {l : List D} {x : D} (h : strict l = true) (hx : ∀ y ∈ l, less y x = true) : strict (l ++ [x]) = true := by
  induction l with
  | nil => rfl
  | cons a l ih =>
    have hc := strict_cons h
    refine strict_mk (ih hc.1 fun y hy => hx y (List.mem_cons_of_mem _ hy)) fun y hy => ?_
    rcases List.mem_append.1 hy with hy | hy
    · exact hc.2 y hy
    · obtain rfl := List.mem_singleton.1 hy
      exact hx a List.mem_cons_self
theorem get_bang (l : List D) (i : Nat) (h : i < l.length) : l.toArray[i]! = l[i] := by
  rw [getElem!_pos l.toArray i (by simpa using h)]; rfl
theorem compact_ok (l : List D) (hs : ∀ i (h : i + 1 < l.length), less l[i + 1] (l[i]'(by omega)) = false) : ∀ m, m ≤ l.length →
    strict (compactUpTo l.toArray m) = true ∧ (∀ x, x ∈ compactUpTo l.toArray m ↔ x ∈ l.take m) ∧ (∀ _ : 0 < m, ∀ (_ : m - 1 < l.length), ∀ x ∈ compactUpTo l.toArray m, x = l[m - 1] ∨ less x l[m - 1] = true) := by
  intro m
  induction m with
  | zero => intro _; exact ⟨rfl, fun x => by simp [compactUpTo], fun h => absurd h (Nat.lt_irrefl 0)⟩
  | succ m ih =>
    intro hm
    obtain ⟨h1, h2, h3⟩ := ih (by omega)
    have hml : m < l.length := by omega
    rw [compactUpTo_succ, get_bang l m hml]
    have htake : l.take (m + 1) = l.take m ++ [l[m]] := by
      rw [List.take_add_one, List.getElem?_eq_getElem hml]; rfl
    by_cases hk : keeps l.toArray m = true
    · rw [if_pos hk]
      have hall : ∀ y ∈ compactUpTo l.toArray m, less y l[m] = true := by
        intro y hy
        have hm0 : 0 < m := by
          rcases Nat.eq_zero_or_pos m with e | e
          · subst e; simp [compactUpTo] at hy
          · exact e
        have hne : l[m] ≠ l[m - 1] := by
          unfold keeps at hk
          rw [decide_eq_true_eq] at hk
          rcases hk with e | e
          · omega
          · rw [get_bang l m hml, get_bang l (m - 1) (by omega)] at e; exact e
        have hd := hs (m - 1) (by omega)
        simp only [show m - 1 + 1 = m by omega] at hd
        have hlt : less l[m - 1] l[m] = true := by
          cases h : less l[m - 1] l[m] with
          | true => rfl
          | false => exact absurd (less_total hd h) hne
        rcases h3 hm0 (by omega) y hy with e | e
        · rw [e]; exact hlt
        · exact less_trans e hlt
      refine ⟨strict_snoc h1 hall, fun x => ?_, fun _ _ x hx => ?_⟩
      · rw [htake, List.mem_append, List.mem_append, h2]
      · simp only [Nat.add_sub_cancel]
        rcases List.mem_append.1 hx with hx | hx
        · exact .inr (hall x hx)
        · exact .inl (List.mem_singleton.1 hx)
    · have hm0 : 0 < m := by
        rcases Nat.eq_zero_or_pos m with e | e
        · subst e; exact absurd (keeps_lt_one _ 0 (by omega)) hk
        · exact e
      have he : l[m] = l[m - 1] := by
        by_cases e : l[m] = l[m - 1]
        · exact e
        · refine absurd (keeps_pos ?_) hk
          rw [get_bang l m hml, get_bang l (m - 1) (by omega)]; exact e
      rw [if_neg hk, List.append_nil]
      refine ⟨h1, fun x => ?_, fun _ _ x hx => ?_⟩
      · rw [htake, List.mem_append, h2, List.mem_singleton]
        refine ⟨fun h => .inl h, fun h => ?_⟩
        rcases h with h | h
        · exact h
        · rw [h, he]
          have : l[m - 1] ∈ l.take m := by
            rw [List.mem_take_iff_getElem]
            exact ⟨m - 1, by omega, rfl⟩
          exact this
      · simp only [Nat.add_sub_cancel]
        rw [he]
        exact h3 hm0 (by omega) x hx
theorem strict_take : ∀ {l : List D}, strict l = true → ∀ n, strict (l.take n) = true := by
  intro l
  induction l with
  | nil => intro _ n; simp [strict]
  | cons a l ih =>
    intro h n
    cases n with
    | zero => rfl
    | succ n =>
      rw [List.take_succ_cons]
      exact strict_mk (ih (strict_cons h).1 n) fun x hx => (strict_cons h).2 x (List.mem_of_mem_take hx)
theorem all_eq (l : List D) : (compact (l.mergeSort fun x y => !less y x)).take 16 = putAll16 [] l := by
  have hp : (l.mergeSort fun x y => !less y x).Pairwise (fun x y => (!less y x) = true) := List.pairwise_mergeSort (fun a b c h1 h2 => by
    rw [Bool.not_eq_true'] at *
    rw [less_iff'] at *; omega) (fun a b => by
    cases h1 : less b a with
    | false => rfl
    | true => rw [less_asymm h1]; rfl) l
  have hmem : ∀ x, x ∈ (l.mergeSort fun x y => !less y x) ↔ x ∈ l := fun x => (List.mergeSort_perm l _).mem_iff
  generalize (l.mergeSort fun x y => !less y x) = s at hp hmem ⊢
  have hs : ∀ i (h : i + 1 < s.length), less s[i + 1] (s[i]'(by omega)) = false := fun i h => by
    have := List.pairwise_iff_getElem.1 hp i (i + 1) (by omega) h (by omega)
    simpa using this
  obtain ⟨h1, h2, _⟩ := compact_ok s hs s.length (Nat.le_refl _)
  have hA := putAll_ok l [] rfl
  have e : compact s = putAll [] l := strict_ext h1 hA.1 fun x => by
    have h3 := h2 x
    rw [List.take_length, hmem] at h3
    have h4 := hA.2 x
    simp only [List.not_mem_nil, false_or] at h4
    rw [h4]; exact h3
  rw [e, ← putAll16_eq]; rfl
end Dg
