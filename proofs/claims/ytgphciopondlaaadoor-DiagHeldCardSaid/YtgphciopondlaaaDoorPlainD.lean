/- The plain law of layer 4, more: putting in, and how many pairs agree. Conditions: none. -/
import Derived.Test.YtgphciopondlaaaDoorPlain
namespace Dg
/-- How many pairs agree. -/
def nb (l q : List D) : Nat := (l.map (fun x => q.count x)).sum
theorem nb_nil (l : List D) : nb l [] = 0 := by
  unfold nb
  induction l with
  | nil => rfl
  | cons a l ih => rw [List.map_cons, List.sum_cons, ih]; rfl
theorem nb_cons (l : List D) (y : D) (q : List D) : nb l (y :: q) = nb l q + l.count y := by
  unfold nb
  induction l with
  | nil => rfl
  | cons a l ih =>
    rw [List.map_cons, List.sum_cons, ih, List.map_cons, List.sum_cons, List.count_cons, List.count_cons]
    have e : (y == a) = (a == y) := by rw [Bool.eq_iff_iff, beq_iff_eq, beq_iff_eq]; exact eq_comm
    rw [e]; omega
theorem nb_take (l q : List D) (i : Nat) (h : i < l.length) : nb (l.take (i + 1)) q = nb (l.take i) q + q.count (l.getD i (0, 0)) := by
  unfold nb
  rw [List.take_add_one, List.map_append, List.sum_append, List.getD_eq_getElem?_getD, List.getElem?_eq_getElem h]
  simp
theorem take_next (l : List D) (i : Nat) (h : i < l.length) : l.take (i + 1) = l.take i ++ [l.getD i (0, 0)] := by
  rw [List.take_add_one, List.getD_eq_getElem?_getD, List.getElem?_eq_getElem h]; rfl
theorem count_strict {l : List D} (h : strict l = true) {x : D} (hx : x ∈ l) : l.count x = 1 := by
  induction l with
  | nil => cases hx
  | cons a l ih =>
    have hc := strict_cons h
    rw [List.count_cons]
    by_cases e : a = x
    · subst e
      have : l.count a = 0 := List.count_eq_zero.2 fun hm => by have := hc.2 a hm; rw [less_irrefl] at this; cases this
      rw [this]; simp
    · rw [if_neg (by simpa using e), ih hc.1 (by rcases List.mem_cons.1 hx with rfl | h; exact absurd rfl e; exact h)]
theorem nb_of {l : List D} (hl : strict l = true) {d : D} (hd : d ∉ l) : ∀ q : List D, (∀ x ∈ q, x ∈ l ∨ x = d) → nb l q + q.count d = q.length := by
  intro q
  induction q with
  | nil => intro _; rw [nb_nil]; rfl
  | cons y q ih =>
    intro h
    have := ih fun x hx => h x (List.mem_cons_of_mem _ hx)
    rw [nb_cons, List.count_cons, List.length_cons]
    rcases h y List.mem_cons_self with hh | hh
    · have e : ¬ (y == d) = true := by rw [beq_iff_eq]; intro e; exact hd (e ▸ hh)
      rw [count_strict hl hh, if_neg e]; omega
    · rw [hh, List.count_eq_zero.2 hd]; simp; omega
theorem put_mem {l : List D} (h : strict l = true) {d : D} (hd : d ∈ l) : put l d = l := by
  unfold put
  rw [if_pos]
  obtain ⟨i, hi, rfl⟩ := List.getElem_of_mem hd
  have hp := pos_eq h l[i] i (by omega) (fun t ht hlt => strict_get h t i hlt hi) (fun t ht hle => by
    rcases Nat.lt_or_ge i t with c | c
    · exact less_asymm (strict_get h i t c ht)
    · obtain rfl : t = i := by omega
      exact less_irrefl _)
  rw [hp, List.getElem?_eq_getElem hi]
theorem put_new {l : List D} {d : D} (hd : d ∉ l) : put l d = l.take (pos l d) ++ d :: l.drop (pos l d) := by
  unfold put
  rw [if_neg]
  intro h
  exact hd (List.mem_of_getElem? h)
/-- What is kept of it. -/
def kept (l : List D) (d : D) : List D := (put l d).take 16
theorem kept_mem {l : List D} (h : strict l = true) (hl : l.length ≤ 16) {d : D} (hd : d ∈ l) : kept l d = l := by
  unfold kept; rw [put_mem h hd, List.take_of_length_le hl]
theorem kept_new {l : List D} (h : strict l = true) (hl : l.length ≤ 16) {d : D} (hd : d ∉ l) :
    (d ∈ kept l d ↔ pos l d < 16) ∧ (kept l d).length = min (l.length + 1) 16 ∧ (nb l (kept l d) = l.length ∨ nb l (kept l d) + 1 = l.length ∧ l.length = 16) := by
  have hp := pos_le l d
  have hlen : (put l d).length = l.length + 1 := by rw [put_new hd, List.length_append, List.length_cons, List.length_take, List.length_drop]; omega
  have hkl : (kept l d).length = min (l.length + 1) 16 := by unfold kept; rw [List.length_take, hlen]; omega
  have hsub : ∀ x ∈ kept l d, x ∈ l ∨ x = d := by
    intro x hx
    have hx := List.mem_of_mem_take hx
    rw [put_new hd, List.mem_append, List.mem_cons] at hx
    rcases hx with h | h | h
    · exact .inl (List.mem_of_mem_take h)
    · exact .inr h
    · exact .inl (List.mem_of_mem_drop h)
  have hnb := nb_of h hd (kept l d) hsub
  have ht : ∀ n, d ∉ (l.take n) := fun n hm => hd (List.mem_of_mem_take hm)
  have hdr : ∀ n m, d ∉ (l.drop n).take m := fun n m hm => hd (List.mem_of_mem_drop (List.mem_of_mem_take hm))
  by_cases c : pos l d < 16
  · have e : kept l d = l.take (pos l d) ++ d :: (l.drop (pos l d)).take (16 - pos l d - 1) := by
      unfold kept
      rw [put_new hd, List.take_append, List.length_take, Nat.min_eq_left hp, List.take_of_length_le (by rw [List.length_take]; omega)]
      congr 1
      obtain ⟨m, hm⟩ : ∃ m, 16 - pos l d = m + 1 := ⟨16 - pos l d - 1, by omega⟩
      rw [hm, List.take_succ_cons]; rfl
    have hc : (kept l d).count d = 1 := by
      rw [e, List.count_append, List.count_cons, List.count_eq_zero.2 (ht _), List.count_eq_zero.2 (hdr _ _)]; simp
    refine ⟨⟨fun _ => c, fun _ => by rw [e]; simp⟩, hkl, ?_⟩
    rw [hc, hkl] at hnb
    omega
  · have e : kept l d = l := by
      unfold kept
      rw [put_new hd, List.take_append, List.length_take, Nat.min_eq_left hp, List.take_of_length_le (show (l.take (pos l d)).length ≤ 16 by rw [List.length_take]; omega), show 16 - pos l d = 0 by omega, List.take_zero, List.append_nil, List.take_of_length_le (by omega)]
    refine ⟨⟨fun hm => absurd (e ▸ hm) hd, fun hc => absurd hc c⟩, hkl, ?_⟩
    rw [hkl] at hnb
    have : (kept l d).count d = 0 := by rw [e]; exact List.count_eq_zero.2 hd
    omega
end Dg
