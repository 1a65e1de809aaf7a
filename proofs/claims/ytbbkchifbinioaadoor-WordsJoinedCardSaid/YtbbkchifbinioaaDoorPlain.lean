/- The plain law of layer 3: classes of bytes, capitals, keys, words. Conditions: none. -/
namespace Wd

def isB (c : UInt8) : Bool := c == 32 || c == 9
def cap (n : Nat) : Bool := (65 ≤ n && n ≤ 90) || (48 ≤ n && n ≤ 57) || n == 95
def nam (n : Nat) : Bool := cap n || (97 ≤ n && n ≤ 122) || n == 46 || n == 45
def pln (n : Nat) : Bool := 32 ≤ n && n ≤ 126
def allOf (K : Nat → Bool) (l : List UInt8) : Bool := l.all (fun c => K c.toNat)
def okName (K : Nat → Bool) (l : List UInt8) : Bool := allOf K l && !l.isEmpty && decide (l.length ≤ 40)
def up (c : UInt8) : UInt8 := if 97 ≤ c.toNat ∧ c.toNat ≤ 122 then UInt8.ofNat (c.toNat - 32) else c
def upper (l : List UInt8) : List UInt8 := l.map up

theorem split58 (r : List UInt8) : (58 : UInt8) ∉ r ∨ ∃ t r', r = t ++ 58 :: r' ∧ (58 : UInt8) ∉ t := by
  induction r with
  | nil => left; simp
  | cons c r ih =>
    by_cases h : c = 58
    · right; exact ⟨[], r, by simp [h], by simp⟩
    · rcases ih with ih | ⟨t, r', e, ht⟩
      · left; simp only [List.mem_cons, not_or]; exact ⟨fun e => h e.symm, ih⟩
      · right; exact ⟨c :: t, r', by simp [e], by simp only [List.mem_cons, not_or]; exact ⟨fun e => h e.symm, ht⟩⟩
def part (l : List UInt8) (a b : Nat) : List UInt8 := (l.drop a).take (b - a)
def tL (l : List UInt8) : List UInt8 := l.dropWhile isB
def tR (l : List UInt8) : List UInt8 := (l.reverse.dropWhile isB).reverse
def tB (l : List UInt8) : List UInt8 := tL (tR l)
theorem drop_len {p : UInt8 → Bool} (l : List UInt8) : (l.dropWhile p).length ≤ l.length := by
  induction l with
  | nil => simp
  | cons c l ih => rw [List.dropWhile_cons]; split <;> simp <;> omega
theorem tL_len (l : List UInt8) : (tL l).length ≤ l.length := drop_len l
theorem tR_len (l : List UInt8) : (tR l).length ≤ l.length := by
  unfold tR; rw [List.length_reverse]; have := drop_len (p := isB) l.reverse; rwa [List.length_reverse] at this
def value (b : Nat) (v : List UInt8) : Nat × Nat := if tL v = [] then (b, b) else (b - (tL v).length, b - (tL v).length + (tR (tL v)).length)
/-- A part ahead of the first colon, and what is behind it. -/
def cutK (p : List UInt8) : List UInt8 × List UInt8 := (p.takeWhile (· != 58), (p.dropWhile (· != 58)).drop 1)
theorem cutK_of (t r : List UInt8) (is : Bool) (ht : (58 : UInt8) ∉ t) (hr : is = false → r = []) : cutK (if is = true then t ++ 58 :: r else t) = (t, r) := by
  have h2 : ∀ c ∈ t, (c != 58) = true := fun c hc => by simp only [bne_iff_ne]; exact fun e => ht (e ▸ hc)
  unfold cutK
  cases is with
  | true =>
    simp only [if_true]
    rw [List.takeWhile_append_of_pos h2, List.dropWhile_append_of_pos h2]
    simp
  | false =>
    obtain rfl := hr rfl
    simp only [Bool.false_eq_true, if_false]
    have e1 := List.takeWhile_append_of_pos (p := (· != 58)) (l₂ := []) h2
    have e2 := List.dropWhile_append_of_pos (p := (· != 58)) (l₂ := []) h2
    rw [List.append_nil] at e1 e2
    rw [e1, e2]
    simp
def key (l : List UInt8) (a b : Nat) : List UInt8 × Nat × Nat × Bool :=
  if okName cap (tB (cutK (part l a b)).1) = true then (tB (cutK (part l a b)).1, (value b (cutK (part l a b)).2).1, (value b (cutK (part l a b)).2).2, true) else ([], 0, 0, false)

/-! Words. -/
structure Wo where
  f : Nat
  t : Nat
deriving DecidableEq
/-- The words of what is left: where the open word began, where we are. -/
def wd (b : Option Nat) (at_ : Nat) : List UInt8 → List Wo
  | [] => match b with | some x => [⟨x, at_⟩] | none => []
  | c :: l => if isB c then (match b with | some x => ⟨x, at_⟩ :: wd none (at_ + 1) l | none => wd none (at_ + 1) l) else wd (some (b.getD at_)) (at_ + 1) l
def words (l : List UInt8) (a b : Nat) : List Wo := wd none a (part l a b)
theorem wd_blank (b : Option Nat) (n : Nat) (c : UInt8) (l : List UInt8) (h : isB c = true) : wd b n (c :: l) = (match b with | some x => [⟨x, n⟩] | none => []) ++ wd none (n + 1) l := by
  simp only [wd, h, if_true]
  cases b <;> rfl
theorem wd_sign (b : Option Nat) (n : Nat) (c : UInt8) (l : List UInt8) (h : isB c = false) : wd b n (c :: l) = wd (some (b.getD n)) (n + 1) l := by
  simp only [wd, h, Bool.false_eq_true, if_false]
/-- Several signs that are no blanks. -/
theorem wd_many (l : List UInt8) : ∀ (k : Nat) (b : Option Nat) (n p : Nat), (∀ j, j < k → ∃ c, l[p + j]? = some c ∧ isB c = false) → 1 ≤ k → wd b n (l.drop p) = wd (some (b.getD n)) (n + k) (l.drop (p + k)) := by
  intro k
  induction k with
  | zero => intro b n p _ h; omega
  | succ k ih =>
    intro b n p h _
    obtain ⟨c, hc, hb⟩ := h 0 (by omega)
    rw [Nat.add_zero] at hc
    have hlt : p < l.length := (List.getElem?_eq_some_iff.1 hc).1
    have e : l.drop p = c :: l.drop (p + 1) := by
      rw [List.drop_eq_getElem_cons hlt]
      congr 1
      have := List.getElem?_eq_getElem hlt
      rw [hc] at this
      exact (Option.some.inj this).symm
    rw [e, wd_sign _ _ _ _ hb]
    by_cases hk : k = 0
    · subst hk; rfl
    · have := ih (some (b.getD n)) (n + 1) (p + 1) (fun j hj => by
        have := h (j + 1) (by omega)
        rwa [show p + 1 + j = p + (j + 1) by omega]) (by omega)
      rw [this, show n + 1 + k = n + (k + 1) by omega, show p + 1 + k = p + (k + 1) by omega]
      rfl
end Wd
