/- The plain law of layer 4: the order of diagnostics, sorted lists, putting in, putting together. Conditions: none. -/
namespace Dg
/-- A diagnostic: its place, its code. -/
abbrev D := Int × Int
def less (a b : D) : Bool := decide (a.1 < b.1) || (decide (a.1 = b.1) && decide (a.2 < b.2))
def cmpI (x y : Int) : Int := if x < y then -1 else if y < x then 1 else 0
def cmpD (a b : D) : Int := if cmpI a.1 b.1 ≠ 0 then cmpI a.1 b.1 else cmpI a.2 b.2
theorem less_iff (a b : D) : less a b = true ↔ a.1 < b.1 ∨ (a.1 = b.1 ∧ a.2 < b.2) := by
  unfold less; simp only [Bool.or_eq_true, Bool.and_eq_true, decide_eq_true_eq]
theorem less_iff' (a b : D) : less a b = false ↔ b.1 < a.1 ∨ (a.1 = b.1 ∧ b.2 ≤ a.2) := by
  rw [← Bool.not_eq_true, less_iff]; omega
theorem eq_of (a b : D) (h1 : a.1 = b.1) (h2 : a.2 = b.2) : a = b := Prod.ext h1 h2
theorem cmpD_neg (a b : D) : cmpD a b < 0 ↔ less a b = true := by
  rw [less_iff]; unfold cmpD cmpI
  split <;> split at * <;> (try split at *) <;> (try split) <;> omega
theorem cmpD_zero (a b : D) : cmpD a b = 0 ↔ a = b := by
  constructor
  · intro h
    unfold cmpD cmpI at h
    refine eq_of a b ?_ ?_ <;> (split at h <;> split at * <;> (try split at *) <;> omega)
  · rintro rfl
    unfold cmpD cmpI; simp
theorem less_irrefl (a : D) : less a a = false := by rw [less_iff']; omega
theorem less_trans {a b c : D} (h1 : less a b = true) (h2 : less b c = true) : less a c = true := by
  rw [less_iff] at *; omega
theorem less_asymm {a b : D} (h : less a b = true) : less b a = false := by
  rw [less_iff] at h; rw [less_iff']; omega
theorem less_total {a b : D} (h1 : less a b = false) (h2 : less b a = false) : a = b := by
  rw [less_iff'] at *; exact eq_of a b (by omega) (by omega)
/-- Strictly sorted. -/
def strict : List D → Bool
  | a :: b :: r => less a b && strict (b :: r)
  | _ => true
theorem strict_cons {a : D} {l : List D} (h : strict (a :: l) = true) : strict l = true ∧ ∀ x ∈ l, less a x = true := by
  induction l generalizing a with
  | nil => exact ⟨rfl, fun x hx => by cases hx⟩
  | cons b r ih =>
    simp only [strict, Bool.and_eq_true] at h
    refine ⟨h.2, fun x hx => ?_⟩
    rcases List.mem_cons.1 hx with rfl | hx
    · exact h.1
    · exact less_trans h.1 ((ih h.2).2 x hx)
theorem strict_mk {a : D} {l : List D} (h : strict l = true) (ha : ∀ x ∈ l, less a x = true) : strict (a :: l) = true := by
  cases l with
  | nil => rfl
  | cons b r => simp only [strict, Bool.and_eq_true]; exact ⟨ha b (List.mem_cons_self), h⟩
theorem strict_get {l : List D} (h : strict l = true) : ∀ i j (hi : i < j) (hj : j < l.length), less (l[i]'(by omega)) l[j] = true := by
  induction l with
  | nil => intro i j hi hj; simp at hj
  | cons a l ih =>
    intro i j hi hj
    have hc := strict_cons h
    cases j with
    | zero => omega
    | succ j =>
      cases i with
      | zero => exact hc.2 _ (List.getElem_mem _)
      | succ i => exact ih hc.1 i j (by omega) (by simpa using hj)
theorem strict_of_get {l : List D} (h : ∀ i (hi : i + 1 < l.length), less (l[i]'(by omega)) l[i + 1] = true) : strict l = true := by
  induction l with
  | nil => rfl
  | cons a l ih =>
    cases l with
    | nil => rfl
    | cons b r =>
      simp only [strict, Bool.and_eq_true]
      refine ⟨h 0 (by simp), ih fun i hi => ?_⟩
      have := h (i + 1) (by simpa using hi)
      simpa using this
/-- Where one is put: how many are below it. -/
def pos (l : List D) (d : D) : Nat := l.countP (fun x => less x d)
def put (l : List D) (d : D) : List D := if l[pos l d]? = some d then l else l.take (pos l d) ++ d :: l.drop (pos l d)
theorem pos_le (l : List D) (d : D) : pos l d ≤ l.length := List.countP_le_length
/-- Below the place all are below it; from the place on none is. -/
theorem pos_of {l : List D} (h : strict l = true) (d : D) : (∀ i (hi : i < l.length), i < pos l d → less l[i] d = true) ∧ (∀ i (hi : i < l.length), pos l d ≤ i → less l[i] d = false) := by
  induction l with
  | nil => exact ⟨fun i hi => by simp at hi, fun i hi => by simp at hi⟩
  | cons a l ih =>
    have hc := strict_cons h
    have ih := ih hc.1
    unfold pos at ih ⊢
    rw [List.countP_cons]
    cases ha : less a d with
    | true =>
      simp only [if_true]
      refine ⟨fun i hi h2 => ?_, fun i hi h2 => ?_⟩
      · cases i with
        | zero => exact ha
        | succ i => exact ih.1 i (by simpa using hi) (by omega)
      · cases i with
        | zero => omega
        | succ i => exact ih.2 i (by simpa using hi) (by omega)
    | false =>
      have hz : l.countP (fun x => less x d) = 0 := by
        rw [List.countP_eq_zero]
        intro x hx hxd
        have := less_trans (hc.2 x hx) hxd
        rw [ha] at this; cases this
      rw [hz]
      refine ⟨fun i hi h2 => by simp at h2, fun i hi h2 => ?_⟩
      cases i with
      | zero => exact ha
      | succ i =>
        cases hx : less ((a :: l)[i + 1]) d with
        | false => rfl
        | true =>
          have := less_trans (hc.2 _ (List.getElem_mem (by simpa using hi))) hx
          rw [ha] at this; cases this
theorem pos_eq {l : List D} (h : strict l = true) (d : D) (i : Nat) (hi : i ≤ l.length) (h1 : ∀ t (ht : t < l.length), t < i → less l[t] d = true) (h2 : ∀ t (ht : t < l.length), i ≤ t → less l[t] d = false) : pos l d = i := by
  have hp := pos_of h d
  have hl := pos_le l d
  rcases Nat.lt_trichotomy (pos l d) i with hlt | heq | hgt
  · have a := h1 (pos l d) (by omega) hlt
    have b := hp.2 (pos l d) (by omega) (Nat.le_refl _)
    rw [a] at b; cases b
  · exact heq
  · have a := h2 i (by omega) (Nat.le_refl _)
    have b := hp.1 i (by omega) hgt
    rw [a] at b; cases b
/-- Never down. -/
def noDown : List D → Bool
  | a :: b :: r => !less b a && noDown (b :: r)
  | _ => true
theorem noDown_iff (l : List D) : noDown l = true ↔ ∀ t (ht : t + 1 < l.length), less l[t + 1] (l[t]'(by omega)) = false := by
  induction l with
  | nil => simp [noDown]
  | cons a l ih =>
    cases l with
    | nil => simp [noDown]
    | cons b r =>
      simp only [noDown, Bool.and_eq_true, Bool.not_eq_true']
      rw [ih]
      constructor
      · rintro ⟨h1, h2⟩ t ht
        cases t with
        | zero => exact h1
        | succ t => exact h2 t (by simpa using ht)
      · intro h
        exact ⟨h 0 (by simp), fun t ht => h (t + 1) (by simpa using ht)⟩
end Dg
