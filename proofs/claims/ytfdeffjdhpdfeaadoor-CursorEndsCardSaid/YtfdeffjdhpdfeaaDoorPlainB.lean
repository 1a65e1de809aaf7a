/- The plain law of layer 1, second part: the lines ahead of a place. Conditions: none. -/
import Derived.Test.YtfdeffjdhpdfeaaDoorPlain
namespace Cur

def lastN (xs : List Ln) : Nat := (xs.getLast?.map (·.n)).getD 0
theorem lastN_snoc (xs : List Ln) (x : Ln) : lastN (xs ++ [x]) = x.n := by simp [lastN]
/-- A line that is the last one, and has no line feed. -/
def bad (l : List UInt8) (x : Ln) : Bool := x.n == l.length && l[l.length - 1]? != some 10

theorem last_of (l : List UInt8) (c : UInt8) (t : List UInt8) (h : l = t ++ [c]) : l[l.length - 1]? = some c := by subst h; simp

theorem walk_pre (l : List UInt8) : ∀ (m : Nat) (pre rest : List Ln), pre.length = m → lines l = pre ++ rest → (∀ x ∈ pre, bad l x = false) →
    ∃ P R, l = P ++ R ∧ P.length = lastN pre ∧ rest = ln P.length P.length false R ∧ at_ l P.length = (pre.length + 1, 1) := by
  intro m
  induction m with
  | zero =>
    intro pre rest hm h _
    obtain rfl : pre = [] := List.length_eq_zero_iff.1 hm
    exact ⟨[], l, rfl, rfl, by simpa [lines] using h.symm, by simp [at_, wh]⟩
  | succ m ih =>
    intro pre rest hm h hb
    rcases List.eq_nil_or_concat pre with rfl | ⟨p0, x, rfl⟩
    · simp at hm
    · rw [List.concat_eq_append] at *
      obtain ⟨P, R, e, hP, hR, hat⟩ := ih p0 (x :: rest) (by simpa using hm) (by rw [h]; simp) (fun y hy => hb y (by simp [hy]))
      rcases split10 R with h10 | ⟨t, r, e2, h10⟩
      · exfalso
        rw [ln_last R h10] at hR
        by_cases hn : R = []
        · rw [if_pos hn] at hR; cases hR
        · rw [if_neg hn] at hR
          injection hR with hx _
          have hbx := hb x (by simp)
          rcases List.eq_nil_or_concat R with rfl | ⟨R0, c, rfl⟩
          · exact hn rfl
          · rw [List.concat_eq_append] at *
            have hl : l.length = P.length + (R0 ++ [c]).length := by rw [e, List.length_append]
            have hlast := last_of l c (P ++ R0) (by rw [e]; simp)
            unfold bad at hbx
            rw [hlast, hx] at hbx
            simp only [hl, BEq.rfl, Bool.true_and, bne_eq_false_iff_eq, Option.some.injEq] at hbx
            exact h10 (by simp [hbx])
      · subst e2
        rw [ln_feed t r h10] at hR
        injection hR with hx hrest
        refine ⟨P ++ t ++ [10], r, by rw [e]; simp, ?_, ?_, ?_⟩
        · rw [lastN_snoc, hx]; simp; omega
        · rw [hrest]; simp [Nat.add_assoc]
        · have := at_next e h10 hat
          have e3 : (P ++ t ++ [(10 : UInt8)]).length = P.length + t.length + 1 := by simp; omega
          rw [e3, this]
          simp

/-- All lines are gone through: the place is in the empty line behind the last one, or there is none. -/
theorem done_all (l : List UInt8) (h : ∀ x ∈ lines l, bad l x = false) : lastN (lines l) = l.length ∧ at_ l l.length = ((lines l).length + 1, 1) := by
  obtain ⟨P, R, e, hP, hR, hat⟩ := walk_pre l _ (lines l) [] rfl (by simp) h
  have : R = [] := by
    rcases split10 R with h10 | ⟨t, r, e2, h10⟩
    · rw [ln_last R h10] at hR
      by_cases hn : R = []
      · exact hn
      · rw [if_neg hn] at hR; cases hR
    · rw [e2, ln_feed t r h10] at hR; cases hR
  subst this
  rw [List.append_nil] at e
  rw [← e] at hP hat
  exact ⟨hP.symm, hat⟩
/-- The last line has no line feed: no line behind it. -/
theorem bad_last (l : List UInt8) (pre : List Ln) (x : Ln) (hp : pre ++ [x] <+: lines l) (h : ∀ y ∈ pre, bad l y = false) (hx : bad l x = true) (i : Nat) (hi : i ≤ l.length) : (at_ l i).1 ≤ pre.length + 1 := by
  obtain ⟨rest, hrest⟩ := hp
  obtain ⟨P, R, e, hP, hR, hat⟩ := walk_pre l _ pre (x :: rest) rfl (by rw [← hrest]; simp) h
  have hl : l.length = P.length + R.length := by rw [e, List.length_append]
  have h10 : (10 : UInt8) ∉ R := by
    rcases split10 R with h10 | ⟨t, r, e2, h10⟩
    · exact h10
    · exfalso
      rw [e2, ln_feed t r h10] at hR
      injection hR with hxx _
      unfold bad at hx
      rw [Bool.and_eq_true] at hx
      have hn : P.length + t.length + 1 = l.length := by have := beq_iff_eq.1 hx.1; rw [hxx] at this; exact this
      rw [hl, e2] at hn
      simp at hn
      have : r = [] := List.length_eq_zero_iff.1 (by omega)
      subst this
      have := last_of l 10 (P ++ t) (by rw [e, e2]; simp)
      rw [this] at hx
      simp at hx
  have := at_in (r := []) (by rw [List.append_nil]; exact e) h10 hat R.length (Nat.le_refl _)
  have h2 := line_le_last l i hi
  rw [hl, this] at h2
  exact h2
theorem room (l : List UInt8) (F N : Nat) (hF : F ≤ l.length) (hat : at_ l F = (N, 1)) (col : Int) (rm : Int) (hrm : ∀ t r, l.drop F = t ++ r → (10 : UInt8) ∉ t → (r = [] ∨ ∃ r', r = 10 :: r') → rm = t.length) :
    place l N col = if 1 ≤ col ∧ col ≤ rm + 1 then some (F + (col - 1).toNat) else none := by
  have hp : (l.take F).length = F := by rw [List.length_take]; omega
  obtain ⟨t, r, e, h10, hr⟩ : ∃ t r, l.drop F = t ++ r ∧ (10 : UInt8) ∉ t ∧ (r = [] ∨ ∃ r', r = 10 :: r') := by
    rcases split10 (l.drop F) with h | ⟨t, r, e, h⟩
    · exact ⟨_, [], by simp, h, .inl rfl⟩
    · exact ⟨t, _, e, h, .inr ⟨r, rfl⟩⟩
  rw [hrm t r e h10 hr]
  have := place_here (l := l) (pre := l.take F) (t := t) (r := r) (n := N) (by rw [← e, List.take_append_drop]) h10 hr (by rw [hp]; exact hat) col
  rw [hp] at this
  exact this
end Cur
