/- The plain law of layer 1: lines of a text, and places. Conditions: none. -/
namespace Cur

/-- A line: its first byte, the place behind its last one, where the next one begins. -/
structure Ln where
  f : Nat
  t : Nat
  n : Nat
deriving DecidableEq

/-- The lines of what is left: where the line began, where we are, whether the byte ahead (of this line) is a carriage return. -/
def ln (from_ at_ : Nat) (cr : Bool) : List UInt8 → List Ln
  | [] => if from_ < at_ then [⟨from_, at_, at_⟩] else []
  | c :: l => if c = 10 then ⟨from_, if cr then at_ - 1 else at_, at_ + 1⟩ :: ln (at_ + 1) (at_ + 1) false l else ln from_ (at_ + 1) (c == 13) l
def lines (l : List UInt8) : List Ln := ln 0 0 false l

/-- Line and column behind some bytes. -/
def wh (line col : Nat) : List UInt8 → Nat × Nat
  | [] => (line, col)
  | c :: l => if c = 10 then wh (line + 1) 1 l else wh line (col + 1) l

theorem wh_append (a b : List UInt8) : ∀ line col, wh line col (a ++ b) = wh (wh line col a).1 (wh line col a).2 b := by
  induction a with
  | nil => intro line col; rfl
  | cons c a ih => intro line col; simp only [List.cons_append, wh]; split <;> exact ih _ _

theorem wh_no10 (a : List UInt8) (h : (10 : UInt8) ∉ a) : ∀ line col, wh line col a = (line, col + a.length) := by
  induction a with
  | nil => intro line col; rfl
  | cons c a ih =>
    intro line col
    have h1 : ¬ c = 10 := fun e => h (by simp [e])
    have h2 : (10 : UInt8) ∉ a := fun e => h (by simp [e])
    simp only [wh, if_neg h1, ih h2, List.length_cons]
    rw [Nat.add_assoc, Nat.add_comm 1]

theorem wh_line_le (a : List UInt8) : ∀ line col, line ≤ (wh line col a).1 := by
  induction a with
  | nil => intro line col; exact Nat.le_refl _
  | cons c a ih =>
    intro line col
    simp only [wh]; split
    · exact Nat.le_trans (Nat.le_succ _) (ih _ _)
    · exact ih _ _
theorem wh_col_pos (a : List UInt8) : ∀ line col, 1 ≤ col → 1 ≤ (wh line col a).2 := by
  induction a with
  | nil => intro line col h; exact h
  | cons c a ih =>
    intro line col h
    simp only [wh]; split
    · exact ih _ _ (Nat.le_refl _)
    · exact ih _ _ (by omega)
/-- Further on is a later line, or a later column of the same one. -/
theorem wh_later (a : List UInt8) : ∀ line col, 1 ≤ a.length → line < (wh line col a).1 ∨ line = (wh line col a).1 ∧ col < (wh line col a).2 := by
  induction a with
  | nil => intro line col h; simp at h
  | cons c a ih =>
    intro line col h
    simp only [wh]
    split
    · left
      have := wh_line_le a (line + 1) 1
      omega
    · by_cases e : a = []
      · subst e; right; simp [wh]
      · have := ih line (col + 1) (by cases a <;> simp_all)
        omega

/-- Where a place is. -/
def at_ (l : List UInt8) (i : Nat) : Nat × Nat := wh 1 1 (l.take i)
theorem at_later (l : List UInt8) (i k : Nat) (h : i < k) (hk : k ≤ l.length) : (at_ l i).1 < (at_ l k).1 ∨ (at_ l i).1 = (at_ l k).1 ∧ (at_ l i).2 < (at_ l k).2 := by
  unfold at_
  have e : l.take k = l.take i ++ (l.take k).drop i := by
    have e := List.take_append_drop i (l.take k)
    rw [List.take_take, Nat.min_eq_left (by omega)] at e
    exact e.symm
  rw [e, wh_append]
  refine wh_later _ _ _ ?_
  simp; omega
theorem at_inj (l : List UInt8) (i k : Nat) (hi : i ≤ l.length) (hk : k ≤ l.length) (h : at_ l i = at_ l k) : i = k := by
  rcases Nat.lt_trichotomy i k with c | c | c
  · have := at_later l i k c hk
    rw [h] at this; omega
  · exact c
  · have := at_later l k i c hi
    rw [h] at this; omega
theorem at_pos (l : List UInt8) (i : Nat) : 1 ≤ (at_ l i).1 ∧ 1 ≤ (at_ l i).2 := ⟨wh_line_le _ _ _, wh_col_pos _ _ _ (Nat.le_refl _)⟩

/-- The place of a line and a column, if there is one. -/
def isPlace (l : List UInt8) (line col : Int) (i : Nat) : Bool := decide (((at_ l i).1 : Int) = line) && decide (((at_ l i).2 : Int) = col)
def place (l : List UInt8) (line col : Int) : Option Nat := (List.range (l.length + 1)).find? (isPlace l line col)

theorem place_of {l : List UInt8} {line col : Int} {i : Nat} (hi : i ≤ l.length) (h : isPlace l line col i = true) : place l line col = some i := by
  unfold place
  cases e : (List.range (l.length + 1)).find? (isPlace l line col) with
  | none =>
    have := List.find?_eq_none.1 e i (by simp; omega)
    exact absurd h this
  | some k =>
    have hk := List.find?_some e
    have hm := List.mem_of_find?_eq_some e
    have hk' : k ≤ l.length := by simp at hm; omega
    congr 1
    refine at_inj l k i hk' hi ?_
    simp only [isPlace, Bool.and_eq_true, decide_eq_true_eq] at h hk
    refine Prod.ext ?_ ?_ <;> omega
theorem place_none {l : List UInt8} {line col : Int} (h : ∀ i, i ≤ l.length → isPlace l line col i = false) : place l line col = none := by
  unfold place
  rw [List.find?_eq_none]
  intro i hi
  rw [h i (by simp at hi; omega)]; simp
theorem place_at (l : List UInt8) (i : Nat) (hi : i ≤ l.length) : place l (at_ l i).1 (at_ l i).2 = some i :=
  place_of hi (by simp [isPlace])

/-! Lines, one by one. -/
theorem ln_no10 (t : List UInt8) (h : (10 : UInt8) ∉ t) : ∀ from_ a cr (r : List UInt8),
    ln from_ a cr (t ++ r) = ln from_ (a + t.length) (if t = [] then cr else t.getLast? == some 13) r := by
  induction t with
  | nil => intro from_ a cr r; simp
  | cons c t ih =>
    intro from_ a cr r
    have h1 : ¬ c = 10 := fun e => h (by simp [e])
    have h2 : (10 : UInt8) ∉ t := fun e => h (by simp [e])
    simp only [List.cons_append, ln, if_neg h1, ih h2, List.length_cons]
    rw [show a + 1 + t.length = a + (t.length + 1) by omega]
    congr 1
    by_cases e : t = []
    · subst e; simp
    · rw [if_neg e, if_neg (by simp), List.getLast?_cons]
      cases ht : t.getLast? with
      | none => simp at ht; exact absurd ht e
      | some x => simp

/-- A line that ends with a line feed. -/
def cut (t : List UInt8) : Nat := if t.getLast? = some 13 then 1 else 0
theorem cut_le (t : List UInt8) : cut t ≤ t.length := by
  unfold cut; split
  · rename_i h; cases t <;> simp_all
  · omega
theorem ln_feed (t r : List UInt8) (h : (10 : UInt8) ∉ t) (a : Nat) :
    ln a a false (t ++ 10 :: r) = ⟨a, a + t.length - cut t, a + t.length + 1⟩ :: ln (a + t.length + 1) (a + t.length + 1) false r := by
  rw [ln_no10 t h]
  simp only [ln, if_true]
  congr 2
  unfold cut
  by_cases e : t = []
  · subst e; simp
  · rw [if_neg e]
    by_cases k : t.getLast? = some 13
    · rw [if_pos k, if_pos (by simp [k])]
    · rw [if_neg k, if_neg (by simpa using k)]; rfl
theorem ln_last (t : List UInt8) (h : (10 : UInt8) ∉ t) (a : Nat) : ln a a false t = if t = [] then [] else [⟨a, a + t.length, a + t.length⟩] := by
  have := ln_no10 t h a a false []
  rw [List.append_nil] at this
  rw [this]
  simp only [ln]
  cases t with
  | nil => simp
  | cons c t => rw [if_pos (by simp), if_neg (by simp)]

theorem ln_shift (l : List UInt8) (n : Nat) : ∀ from_ a cr, (cr = true → 1 ≤ a) → ln (from_ + n) (a + n) cr l = (ln from_ a cr l).map fun x => ⟨x.f + n, x.t + n, x.n + n⟩ := by
  induction l with
  | nil =>
    intro from_ a cr _
    simp only [ln]
    by_cases h : from_ < a
    · rw [if_pos h, if_pos (by omega)]; rfl
    · rw [if_neg h, if_neg (by omega)]; rfl
  | cons c l ih =>
    intro from_ a cr hcr
    simp only [ln]
    split
    · simp only [List.map_cons]
      have := ih (a + 1) (a + 1) false (by simp)
      rw [show a + n + 1 = a + 1 + n by omega, this]
      congr 2
      cases cr
      · rfl
      · have := hcr rfl
        simp only [if_true]; omega
    · have := ih from_ (a + 1) (c == 13) (by omega)
      rw [show a + n + 1 = a + 1 + n by omega, this]

/-- The lines of a text, a line feed, and another text. -/
theorem ln_join (a b : List UInt8) : ∀ from_ k cr, from_ ≤ k →
    ln from_ k cr (a ++ 10 :: b) = ln from_ k cr (a ++ [10]) ++ ln (k + a.length + 1) (k + a.length + 1) false b := by
  induction a with
  | nil => intro from_ k cr _; simp [ln]
  | cons c a ih =>
    intro from_ k cr hk
    simp only [List.cons_append, ln]
    split
    · rw [ih _ _ _ (Nat.le_refl _), List.cons_append, List.length_cons]
      rw [show k + 1 + a.length + 1 = k + (a.length + 1) + 1 by omega]
    · rw [ih _ _ _ (by omega), List.length_cons]
      rw [show k + 1 + a.length + 1 = k + (a.length + 1) + 1 by omega]
theorem lines_join (a b : List UInt8) : lines (a ++ 10 :: b) = lines (a ++ [10]) ++ (lines b).map fun x => ⟨x.f + (a.length + 1), x.t + (a.length + 1), x.n + (a.length + 1)⟩ := by
  unfold lines
  rw [ln_join _ _ _ _ _ (Nat.le_refl _), ← ln_shift b (a.length + 1) 0 0 false (by simp)]
  simp

/-! Line by line. -/
theorem split10 (r : List UInt8) : (10 : UInt8) ∉ r ∨ ∃ t r', r = t ++ 10 :: r' ∧ (10 : UInt8) ∉ t := by
  induction r with
  | nil => left; simp
  | cons c r ih =>
    by_cases h : c = 10
    · right; exact ⟨[], r, by simp [h], by simp⟩
    · rcases ih with ih | ⟨t, r', e, ht⟩
      · left; simp only [List.mem_cons, not_or]; exact ⟨fun e => h e.symm, ih⟩
      · right; exact ⟨c :: t, r', by simp [e], by simp only [List.mem_cons, not_or]; exact ⟨fun e => h e.symm, ht⟩⟩

theorem take_pre {l a b : List UInt8} (h : l = a ++ b) (j : Nat) : l.take (a.length + j) = a ++ b.take j := by
  subst h; rw [List.take_length_add_append]

/-- In a line: the columns. -/
theorem at_in {l pre t r : List UInt8} {n : Nat} (h : l = pre ++ (t ++ r)) (ht : (10 : UInt8) ∉ t) (hn : at_ l pre.length = (n, 1)) (j : Nat) (hj : j ≤ t.length) :
    at_ l (pre.length + j) = (n, j + 1) := by
  unfold at_ at hn ⊢
  have h0 := take_pre h 0
  rw [Nat.add_zero, List.take_zero, List.append_nil] at h0
  rw [h0] at hn
  rw [take_pre h, wh_append, hn]
  have e : (t ++ r).take j = t.take j := List.take_append_of_le_length hj
  have h10 : (10 : UInt8) ∉ t.take j := fun m => ht (List.mem_of_mem_take m)
  rw [e, wh_no10 _ h10, List.length_take, Nat.min_eq_left hj, Nat.add_comm]
theorem at_next {l pre t r : List UInt8} {n : Nat} (h : l = pre ++ (t ++ 10 :: r)) (ht : (10 : UInt8) ∉ t) (hn : at_ l pre.length = (n, 1)) :
    at_ l (pre.length + t.length + 1) = (n + 1, 1) := by
  unfold at_ at hn ⊢
  have h0 := take_pre h 0
  rw [Nat.add_zero, List.take_zero, List.append_nil] at h0
  rw [h0] at hn
  rw [show pre.length + t.length + 1 = pre.length + (t.length + 1) by omega, take_pre h, wh_append, hn]
  have e : (t ++ 10 :: r).take (t.length + 1) = t ++ [10] := by
    rw [List.take_length_add_append]; rfl
  rw [e, wh_append, wh_no10 t ht]
  simp [wh]

/-- The lines from a place on: chained, each in the first column of its own row. -/
def chain (l : List UInt8) (a i : Nat) : List Ln → Prop
  | [] => a = l.length
  | x :: xs => x.f = a ∧ x.f ≤ x.t ∧ x.t ≤ x.n ∧ x.n ≤ x.t + 2 ∧ x.f < x.n ∧ x.n ≤ l.length ∧ at_ l x.f = (i + 1, 1) ∧
      (∀ k, x.f ≤ k → k < x.t → l[k]? ≠ some 10) ∧ chain l x.n (i + 1) xs

theorem no10_at {l pre t r : List UInt8} (h : l = pre ++ (t ++ r)) (ht : (10 : UInt8) ∉ t) (k : Nat) (h1 : pre.length ≤ k) (h2 : k < pre.length + t.length) : l[k]? ≠ some 10 := by
  subst h
  rw [List.getElem?_append_right h1, List.getElem?_append_left (by omega)]
  intro e
  exact ht (List.mem_of_getElem? e)

theorem chain_ln (m : Nat) : ∀ (l pre r : List UInt8) (i : Nat), r.length ≤ m → l = pre ++ r → at_ l pre.length = (i + 1, 1) →
    chain l pre.length i (ln pre.length pre.length false r) := by
  induction m with
  | zero =>
    intro l pre r i hm h _
    have : r = [] := by cases r <;> simp_all
    subst this
    simp only [ln, Nat.lt_irrefl, if_false, chain]
    rw [h]; simp
  | succ m ih =>
    intro l pre r i hm h hn
    rcases split10 r with ht | ⟨t, r', e, ht⟩
    · rw [ln_last r ht]
      by_cases e : r = []
      · rw [if_pos e]; subst e; simp only [chain]; rw [h]; simp
      · rw [if_neg e]
        have hl : l.length = pre.length + r.length := by rw [h, List.length_append]
        have hr : 0 < r.length := by cases r <;> simp_all
        simp only [chain]
        exact ⟨trivial, by omega, by omega, by omega, by omega, by omega, hn, fun k h1 h2 => no10_at (r := []) (by simpa using h) ht k h1 h2, by omega⟩
    · subst e
      rw [ln_feed t r' ht]
      have hl : l.length = pre.length + t.length + 1 + r'.length := by rw [h]; simp; omega
      have hc := cut_le t
      have hc2 : cut t ≤ 1 := by unfold cut; split <;> omega
      have := ih l (pre ++ t ++ [10]) r' (i + 1) (by simp at hm; omega) (by rw [h]; simp) (by
        have := at_next h ht hn
        simpa [Nat.add_assoc] using this)
      simp only [chain]
      refine ⟨trivial, by omega, by omega, by omega, by omega, by omega, hn, fun k h1 h2 => no10_at h ht k h1 (by omega), ?_⟩
      simpa [Nat.add_assoc] using this
theorem chain_lines (l : List UInt8) : chain l 0 0 (lines l) := chain_ln l.length l [] l 0 (Nat.le_refl _) rfl (by simp [at_, wh])

/-! The place of a line and a column, by its line. -/
theorem place_here {l pre t r : List UInt8} {n : Nat} (h : l = pre ++ (t ++ r)) (ht : (10 : UInt8) ∉ t) (hr : r = [] ∨ ∃ r', r = 10 :: r') (hn : at_ l pre.length = (n, 1)) (col : Int) :
    place l n col = if 1 ≤ col ∧ col ≤ t.length + 1 then some (pre.length + (col - 1).toNat) else none := by
  have hl : l.length = pre.length + t.length + r.length := by rw [h]; simp; omega
  split
  · rename_i hc
    refine place_of (by omega) ?_
    rw [isPlace, at_in h ht hn _ (by omega)]
    simp; omega
  · rename_i hc
    refine place_none fun i hi => ?_
    by_cases c1 : i < pre.length
    · have := at_later l i pre.length c1 (by omega)
      have hp := at_pos l i
      rw [hn] at this
      simp only [isPlace, Bool.and_eq_false_iff, decide_eq_false_iff_not]
      left; omega
    · by_cases c2 : i ≤ pre.length + t.length
      · have := at_in h ht hn (i - pre.length) (by omega)
        rw [show pre.length + (i - pre.length) = i by omega] at this
        simp only [isPlace, this, Bool.and_eq_false_iff, decide_eq_false_iff_not]
        right; omega
      · rcases hr with hr | ⟨r', hr⟩
        · subst hr; simp at hl; omega
        · subst hr
          have hx := at_next h ht hn
          simp only [isPlace, Bool.and_eq_false_iff, decide_eq_false_iff_not]
          left
          by_cases c3 : i = pre.length + t.length + 1
          · rw [c3, hx]; simp only; omega
          · have := at_later l (pre.length + t.length + 1) i (by omega) hi
            rw [hx] at this; simp only at this; omega
/-- No place is in a line behind the last one's. -/
theorem place_beyond {l : List UInt8} {n : Nat} (line col : Int) (hn : ∀ i, i ≤ l.length → (at_ l i).1 ≤ n) (h : line < 1 ∨ (n : Int) < line) : place l line col = none :=
  place_none fun i hi => by
    have := hn i hi
    have := at_pos l i
    simp only [isPlace, Bool.and_eq_false_iff, decide_eq_false_iff_not]
    left; omega
theorem line_le_last (l : List UInt8) (i : Nat) (hi : i ≤ l.length) : (at_ l i).1 ≤ (at_ l l.length).1 := by
  by_cases e : i = l.length
  · rw [e]; exact Nat.le_refl _
  · have := at_later l i l.length (by omega) (Nat.le_refl _); omega

/-- A line with either end. -/
theorem lines_one (s : List UInt8) (h10 : (10 : UInt8) ∉ s) (h13 : (13 : UInt8) ∉ s) :
    lines (s ++ [10]) = [⟨0, s.length, s.length + 1⟩] ∧ lines (s ++ [13, 10]) = [⟨0, s.length, s.length + 2⟩] ∧ lines s = if s = [] then [] else [⟨0, s.length, s.length⟩] := by
  refine ⟨?_, ?_, ?_⟩
  · unfold lines
    rw [ln_feed s [] h10]
    have : cut s = 0 := by
      unfold cut; rw [if_neg]; intro e; exact h13 (List.mem_of_getLast? e)
    simp [ln, this]
  · unfold lines
    have : (10 : UInt8) ∉ s ++ [13] := by simp [h10]
    rw [show s ++ [13, 10] = (s ++ [13]) ++ 10 :: [] by simp, ln_feed _ [] this]
    simp [ln, cut]
  · unfold lines
    rw [ln_last s h10]; simp


/-! Byte by byte. -/
theorem at_zero (l : List UInt8) : at_ l 0 = (1, 1) := by simp [at_, wh]
theorem at_succ (l : List UInt8) (p : Nat) (c : UInt8) (h : l[p]? = some c) : at_ l (p + 1) = if c = 10 then ((at_ l p).1 + 1, 1) else ((at_ l p).1, (at_ l p).2 + 1) := by
  have hl : p < l.length := (List.getElem?_eq_some_iff.1 h).1
  have hc : l[p] = c := (List.getElem?_eq_some_iff.1 h).2
  unfold at_
  rw [List.take_succ_eq_append_getElem hl, hc, wh_append]
  simp only [wh]
theorem at_on (l : List UInt8) (p w : Nat) (h : ∀ j, j < w → ∃ c, l[p + j]? = some c ∧ c ≠ 10) : at_ l (p + w) = ((at_ l p).1, (at_ l p).2 + w) := by
  induction w with
  | zero => rfl
  | succ w ih =>
    have h1 := ih (fun j hj => h j (by omega))
    obtain ⟨c, hc, hne⟩ := h w (by omega)
    rw [show p + (w + 1) = p + w + 1 by omega, at_succ l (p + w) c hc, if_neg hne, h1]
    rfl
/-- Is a part of a text blank? -/
def isB (c : UInt8) : Bool := c == 32 || c == 9
def blank (l : List UInt8) (a b : Nat) : Bool := ((l.drop a).take (b - a)).all isB

end Cur
