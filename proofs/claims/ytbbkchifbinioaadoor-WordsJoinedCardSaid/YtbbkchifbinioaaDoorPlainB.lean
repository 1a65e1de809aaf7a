/- Further plain laws of layer 3: parts of a text, trims, words and what lies between them. Conditions: none. -/
import Derived.Test.YtbbkchifbinioaaDoorPlain
namespace Wd

theorem part_len (l : List UInt8) (a b : Nat) (h : b ≤ l.length) : (part l a b).length = b - a := by
  unfold part; rw [List.length_take, List.length_drop]; omega
theorem part_nil (l : List UInt8) (a b : Nat) (h : b ≤ a) : part l a b = [] := by
  unfold part; rw [show b - a = 0 by omega, List.take_zero]
theorem part_all (l : List UInt8) : part l 0 l.length = l := by
  unfold part; rw [List.drop_zero, Nat.sub_zero, List.take_length]
theorem drop_c (l : List UInt8) (i : Nat) (h : i < l.length) : l.drop i = l.getD i 0 :: l.drop (i + 1) := by
  rw [List.drop_eq_getElem_cons h, List.getD_eq_getElem?_getD, List.getElem?_eq_getElem h]; rfl
theorem part_cons (l : List UInt8) (a b : Nat) (h : a < b) (hb : b ≤ l.length) : part l a b = l.getD a 0 :: part l (a + 1) b := by
  unfold part
  rw [drop_c l a (by omega), show b - a = (b - (a + 1)) + 1 by omega, List.take_succ_cons]
theorem part_snoc (l : List UInt8) (a b : Nat) (h : a ≤ b) (hb : b < l.length) : part l a (b + 1) = part l a b ++ [l.getD b 0] := by
  unfold part
  rw [show b + 1 - a = (b - a) + 1 by omega, List.take_add_one, List.getElem?_drop, show a + (b - a) = b by omega, List.getElem?_eq_getElem hb]
  simp [List.getD_eq_getElem?_getD, hb]
theorem part_drop (l : List UInt8) (a b n : Nat) : part l (a + n) b = (part l a b).drop n := by
  unfold part
  rw [List.drop_take, List.drop_drop, show b - (a + n) = b - a - n by omega]
theorem part_take (l : List UInt8) (a b n : Nat) (h : a + n ≤ b) : part l a (a + n) = (part l a b).take n := by
  unfold part
  rw [List.take_take, show a + n - a = n by omega, Nat.min_eq_left (by omega)]
theorem tL_cons (c : UInt8) (l : List UInt8) : tL (c :: l) = if isB c = true then tL l else c :: l := by
  unfold tL; rw [List.dropWhile_cons]
theorem tR_snoc (p : List UInt8) (c : UInt8) : tR (p ++ [c]) = if isB c = true then tR p else p ++ [c] := by
  unfold tR
  rw [List.reverse_append, List.reverse_singleton, List.singleton_append, List.dropWhile_cons]
  split
  · rfl
  · rw [List.reverse_cons, List.reverse_reverse]
theorem tR_nil : tR [] = [] := rfl
theorem tR_cons (x : UInt8) (m : List UInt8) : tR (x :: m) = if tR m = [] then (if isB x = true then [] else [x]) else x :: tR m := by
  have e : ∀ q : List UInt8, (q.reverse = []) ↔ q = [] := fun q => List.reverse_eq_nil_iff
  unfold tR
  rw [List.reverse_cons, List.dropWhile_append]
  by_cases h : (m.reverse.dropWhile isB) = []
  · rw [h]
    simp only [List.isEmpty_nil, if_true, List.reverse_nil, List.dropWhile_cons, List.dropWhile_nil]
    split <;> rfl
  · have h1 : (m.reverse.dropWhile isB).isEmpty = false := List.isEmpty_eq_false_iff.2 h
    rw [h1, if_neg (by simp), if_neg (by rw [e]; exact h), List.reverse_append]
    rfl
theorem tL_or (l : List UInt8) : tL l = [] ∨ ∃ c m, tL l = c :: m ∧ isB c = false := by
  induction l with
  | nil => left; rfl
  | cons c l ih =>
    rw [tL_cons]
    by_cases h : isB c = true
    · rw [if_pos h]; exact ih
    · rw [if_neg h]; right; exact ⟨c, l, rfl, by simpa using h⟩
theorem tR_ne (c : UInt8) (m : List UInt8) (h : isB c = false) : tR (c :: m) ≠ [] := by
  rw [tR_cons]
  split
  · rw [if_neg (by simp [h])]; simp
  · simp
theorem tR_tL_nil (l : List UInt8) : tR (tL l) = [] ↔ tL l = [] := by
  rcases tL_or l with h | ⟨c, m, h, hb⟩
  · rw [h]; simp [tR_nil]
  · rw [h]
    constructor
    · intro e; exact absurd e (tR_ne c m hb)
    · intro e; cases e
theorem trims (l : List UInt8) : tL (tR l) = tR (tL l) := by
  induction l with
  | nil => rfl
  | cons x m ih =>
    rw [tR_cons, tL_cons]
    by_cases hx : isB x = true
    · rw [if_pos hx, if_pos hx]
      by_cases hm : tR m = []
      · rw [if_pos hm, ← ih, hm]
      · rw [if_neg hm, tL_cons, if_pos hx, ih]
    · rw [if_neg hx, if_neg hx, tR_cons, if_neg hx]
      by_cases hm : tR m = []
      · rw [if_pos hm, tL_cons, if_neg hx]
      · rw [if_neg hm, tL_cons, if_neg hx]
theorem tL_suffix (l : List UInt8) : l.drop (l.length - (tL l).length) = tL l := by
  induction l with
  | nil => rfl
  | cons c l ih =>
    rw [tL_cons]
    have hl := tL_len l
    by_cases h : isB c = true
    · rw [if_pos h, List.length_cons, show l.length + 1 - (tL l).length = (l.length - (tL l).length) + 1 by omega, List.drop_succ_cons, ih]
    · rw [if_neg h, Nat.sub_self, List.drop_zero]
theorem tR_prefix (l : List UInt8) : l.take (tR l).length = tR l := by
  induction l with
  | nil => rfl
  | cons c l ih =>
    rw [tR_cons]
    by_cases h : tR l = []
    · rw [if_pos h]
      by_cases hc : isB c = true
      · rw [if_pos hc]; rfl
      · rw [if_neg hc]; rfl
    · rw [if_neg h, List.length_cons, List.take_succ_cons, ih]
/-- The place of a part without blanks ahead and behind. -/
def tw (l : List UInt8) (a b : Nat) : Nat × Nat := (b - (tL (part l a b)).length, b - (tL (part l a b)).length + (tR (tL (part l a b))).length)
theorem tw_le (l : List UInt8) (a b : Nat) (hab : a ≤ b) (hb : b ≤ l.length) : a ≤ (tw l a b).1 ∧ (tw l a b).1 ≤ (tw l a b).2 ∧ (tw l a b).2 ≤ b := by
  have h1 := tL_len (part l a b)
  have h2 := tR_len (tL (part l a b))
  rw [part_len l a b hb] at h1
  unfold tw
  simp only
  omega
theorem part_tL (l : List UInt8) (a b : Nat) (hab : a ≤ b) (hb : b ≤ l.length) : part l (b - (tL (part l a b)).length) b = tL (part l a b) := by
  have h1 := tL_len (part l a b)
  have h2 := tL_suffix (part l a b)
  rw [part_len l a b hb] at h1 h2
  rw [show b - (tL (part l a b)).length = a + (b - a - (tL (part l a b)).length) by omega, part_drop, h2]
theorem part_tw (l : List UInt8) (a b : Nat) (hab : a ≤ b) (hb : b ≤ l.length) : part l (tw l a b).1 (tw l a b).2 = tB (part l a b) := by
  have h := tw_le l a b hab hb
  have h1 := part_take l (b - (tL (part l a b)).length) b (tR (tL (part l a b))).length h.2.2
  have h2 := part_tL l a b hab hb
  unfold tw tB
  simp only
  rw [h1, h2, tR_prefix, trims]
theorem takeWhile_take (p : UInt8 → Bool) (l : List UInt8) : l.takeWhile p = l.take (l.takeWhile p).length := by
  induction l with
  | nil => rfl
  | cons c l ih =>
    rw [List.takeWhile_cons]
    split
    · rw [List.length_cons, List.take_succ_cons, ← ih]
    · rfl
theorem dropWhile_drop (p : UInt8 → Bool) (l : List UInt8) : l.dropWhile p = l.drop (l.takeWhile p).length := by
  induction l with
  | nil => rfl
  | cons c l ih =>
    rw [List.takeWhile_cons, List.dropWhile_cons]
    split
    · rw [List.length_cons, List.drop_succ_cons, ← ih]
    · rfl
/-- How many bytes are ahead of the first colon. -/
def colon (l : List UInt8) (a b : Nat) : Nat := ((part l a b).takeWhile (· != 58)).length
theorem colon_le (l : List UInt8) (a b : Nat) (hb : b ≤ l.length) : colon l a b ≤ b - a := by
  have h : ((part l a b).takeWhile (· != 58)).length ≤ (part l a b).length := (List.takeWhile_prefix _).length_le
  rw [part_len l a b hb] at h
  exact h
theorem cutK_part (l : List UInt8) (a b : Nat) (hab : a ≤ b) (hb : b ≤ l.length) : cutK (part l a b) = (part l a (a + colon l a b), part l (a + colon l a b + 1) b) := by
  have h := colon_le l a b hb
  rw [part_take l a b _ (by omega), show a + colon l a b + 1 = a + (colon l a b + 1) by omega, part_drop, cutK, dropWhile_drop, List.drop_drop]
  unfold colon
  rw [← takeWhile_take]
theorem colon_end (l : List UInt8) (a b : Nat) (hb : b ≤ a) : colon l a b = 0 := by
  unfold colon; rw [part_nil l a b hb]; rfl
theorem colon_here (l : List UInt8) (a b : Nat) (h : a < b) (hb : b ≤ l.length) (hc : l.getD a 0 = 58) : colon l a b = 0 := by
  unfold colon; rw [part_cons l a b h hb, hc]; rfl
theorem colon_on (l : List UInt8) (a b : Nat) (h : a < b) (hb : b ≤ l.length) (hc : l.getD a 0 ≠ 58) : colon l a b = colon l (a + 1) b + 1 := by
  unfold colon; rw [part_cons l a b h hb, List.takeWhile_cons, if_pos (by simpa using hc), List.length_cons]

/-! Words, and what lies between them. -/
/-- From a place on: the next word begins there or behind it (behind it, if another word ended there); what is ahead of it is blank, what is in it is not, and it is not empty; behind the last one all is blank. -/
def Cov (l : List UInt8) : Bool → Nat → List Wo → Prop
  | _, at_, [] => at_ ≤ l.length ∧ ∀ j, at_ ≤ j → j < l.length → isB (l.getD j 0) = true
  | first, at_, w :: ws => at_ ≤ w.f ∧ (first = false → at_ < w.f) ∧ w.f < w.t ∧ w.t ≤ l.length ∧ (∀ j, at_ ≤ j → j < w.f → isB (l.getD j 0) = true) ∧ (∀ j, w.f ≤ j → j < w.t → isB (l.getD j 0) = false) ∧ Cov l false w.t ws
theorem cov_wd (l : List UInt8) (d : Nat) : ∀ (n : Nat), n + d = l.length →
    (∀ (first : Bool) (at_ : Nat), at_ ≤ n → (first = false → at_ < n ∨ (at_ = n ∧ (d = 0 ∨ isB (l.getD n 0) = true))) → (∀ j, at_ ≤ j → j < n → isB (l.getD j 0) = true) → Cov l first at_ (wd none n (l.drop n))) ∧
    (∀ (first : Bool) (at_ x : Nat), at_ ≤ x → x < n → (first = false → at_ < x) → (∀ j, at_ ≤ j → j < x → isB (l.getD j 0) = true) → (∀ j, x ≤ j → j < n → isB (l.getD j 0) = false) → Cov l first at_ (wd (some x) n (l.drop n))) := by
  induction d with
  | zero =>
    intro n hn
    rw [List.drop_of_length_le (by omega)]
    refine ⟨fun first at_ h1 h2 h3 => ?_, fun first at_ x h1 h2 h3 h4 h5 => ?_⟩
    · exact ⟨by omega, fun j a b => h3 j a (by omega)⟩
    · exact ⟨h1, h3, h2, by show n ≤ l.length; omega, h4, h5, by show n ≤ l.length; omega, fun j a b => by have : n ≤ j := a; omega⟩
  | succ d ih =>
    intro n hn
    have ih := ih (n + 1) (by omega)
    rw [drop_c l n (by omega)]
    rcases Bool.eq_false_or_eq_true (isB (l.getD n 0)) with hc | hc
    · simp only [wd_blank _ _ _ _ hc, List.nil_append, List.singleton_append]
      refine ⟨fun first at_ h1 h2 h3 => ?_, fun first at_ x h1 h2 h3 h4 h5 => ?_⟩
      · refine ih.1 first at_ (by omega) (fun hf => by left; omega) (fun j a b => ?_)
        rcases Nat.lt_or_ge j n with h | h
        · exact h3 j a h
        · obtain rfl : j = n := by omega
          exact hc
      · refine ⟨h1, h3, h2, by show n ≤ l.length; omega, h4, h5, ?_⟩
        refine ih.1 false n (by omega) (fun _ => by left; omega) (fun j a b => ?_)
        obtain rfl : j = n := by omega
        exact hc
    · simp only [wd_sign _ _ _ _ hc, Option.getD_none, Option.getD_some]
      refine ⟨fun first at_ h1 h2 h3 => ?_, fun first at_ x h1 h2 h3 h4 h5 => ?_⟩
      · refine ih.2 first at_ n h1 (by omega) (fun hf => ?_) h3 (fun j a b => ?_)
        · rcases h2 hf with h | ⟨h, h | h⟩
          · exact h
          · omega
          · rw [hc] at h; cases h
        · obtain rfl : j = n := by omega
          exact hc
      · refine ih.2 first at_ x h1 (by omega) h3 h4 (fun j a b => ?_)
        rcases Nat.lt_or_ge j n with h | h
        · exact h5 j a h
        · obtain rfl : j = n := by omega
          exact hc
theorem cov_words (l : List UInt8) : Cov l true 0 (words l 0 l.length) := by
  unfold words
  rw [part_all]
  have h := (cov_wd l l.length 0 (by omega)).1 true 0 (Nat.le_refl _) (fun h => by cases h) (fun j _ h => by omega)
  rwa [List.drop_zero] at h
theorem cov_in (l : List UInt8) (ws : List Wo) : ∀ (first : Bool) (at_ : Nat), Cov l first at_ ws → ∀ w ∈ ws, w.f < w.t ∧ w.t ≤ l.length ∧ (∀ j, w.f ≤ j → j < w.t → isB (l.getD j 0) = false) := by
  induction ws with
  | nil => intro _ _ _ w hw; cases hw
  | cons v ws ih =>
    intro first at_ h w hw
    obtain ⟨_, _, h3, h4, _, h6, h7⟩ := h
    rcases List.mem_cons.1 hw with rfl | hw
    · exact ⟨h3, h4, h6⟩
    · exact ih _ _ h7 w hw
theorem cov_len (l : List UInt8) (ws : List Wo) : ∀ (first : Bool) (at_ : Nat), Cov l first at_ ws → at_ + ws.length ≤ l.length := by
  induction ws with
  | nil => intro _ _ h; have := h.1; simpa using this
  | cons v ws ih =>
    intro first at_ h
    obtain ⟨h1, _, h3, _, _, _, h7⟩ := h
    have := ih _ _ h7
    rw [List.length_cons]; omega

/-! Chunks with blanks between. -/
theorem wd_blanks (u : List UInt8) (h : ∀ c ∈ u, isB c = true) : ∀ (n : Nat) (r : List UInt8), wd none n (u ++ r) = wd none (n + u.length) r := by
  induction u with
  | nil => intro n r; simp
  | cons c u ih =>
    intro n r
    rw [List.cons_append, wd_blank _ _ _ _ (h c (List.mem_cons_self)), List.nil_append, ih (fun d hd => h d (List.mem_cons_of_mem _ hd)), List.length_cons]
    congr 1; omega
theorem wd_signs (u : List UInt8) (h : ∀ c ∈ u, isB c = false) : ∀ (x n : Nat) (r : List UInt8), wd (some x) n (u ++ r) = wd (some x) (n + u.length) r := by
  induction u with
  | nil => intro x n r; simp
  | cons c u ih =>
    intro x n r
    rw [List.cons_append, wd_sign _ _ _ _ (h c (List.mem_cons_self)), Option.getD_some, ih (fun d hd => h d (List.mem_cons_of_mem _ hd)), List.length_cons]
    congr 1; omega
theorem wd_chunk (u : List UInt8) (h : ∀ c ∈ u, isB c = false) (hu : u ≠ []) (n : Nat) (b : UInt8) (hb : isB b = true) (r : List UInt8) :
    wd none n (u ++ b :: r) = ⟨n, n + u.length⟩ :: wd none (n + u.length + 1) r := by
  cases u with
  | nil => exact absurd rfl hu
  | cons c u =>
    rw [List.cons_append, wd_sign _ _ _ _ (h c (List.mem_cons_self)), Option.getD_none, wd_signs u (fun d hd => h d (List.mem_cons_of_mem _ hd)), wd_blank _ _ _ _ hb, List.length_cons]
    rw [show n + 1 + u.length = n + (u.length + 1) by omega]
    rfl
/-- Each chunk, a blank behind it, and blanks of its own. -/
def joined (cs : List (List UInt8 × List UInt8)) : List UInt8 := cs.flatMap fun c => c.1 ++ [32] ++ c.2
theorem joined_cons (c : List UInt8 × List UInt8) (cs : List (List UInt8 × List UInt8)) : joined (c :: cs) = c.1 ++ 32 :: (c.2 ++ joined cs) := by
  simp [joined]
theorem joined_snoc (cs : List (List UInt8 × List UInt8)) (c : List UInt8 × List UInt8) : joined (cs ++ [c]) = joined cs ++ c.1 ++ [32] ++ c.2 := by
  simp [joined]
theorem part_mid (p u r : List UInt8) : part (p ++ u ++ r) p.length (p.length + u.length) = u := by
  unfold part
  rw [List.append_assoc, List.drop_left, show p.length + u.length - p.length = u.length by omega, List.take_left]
theorem wd_joined (cs : List (List UInt8 × List UInt8)) : ∀ (p : List UInt8), (∀ c ∈ cs, c.1 ≠ [] ∧ (∀ x ∈ c.1, isB x = false) ∧ (∀ x ∈ c.2, isB x = true)) →
    (wd none p.length (joined cs)).map (fun w => part (p ++ joined cs) w.f w.t) = cs.map (·.1) := by
  induction cs with
  | nil => intro p _; rfl
  | cons c cs ih =>
    intro p h
    obtain ⟨h1, h2, h3⟩ := h c (List.mem_cons_self)
    have hr := ih (p ++ c.1 ++ [32] ++ c.2) (fun d hd => h d (List.mem_cons_of_mem _ hd))
    rw [joined_cons, wd_chunk c.1 h2 h1 p.length 32 rfl, wd_blanks c.2 h3, List.map_cons, List.map_cons]
    have e : p ++ (c.1 ++ 32 :: (c.2 ++ joined cs)) = p ++ c.1 ++ [32] ++ c.2 ++ joined cs := by simp
    have el : (p ++ c.1 ++ [32] ++ c.2).length = p.length + c.1.length + 1 + c.2.length := by simp; omega
    congr 1
    · simp only
      rw [show p ++ (c.1 ++ 32 :: (c.2 ++ joined cs)) = p ++ c.1 ++ (32 :: (c.2 ++ joined cs)) by simp, part_mid]
    · rw [← el, e]; exact hr
/-! Blanks around. -/
theorem tL_blanks (g : List UInt8) (h : ∀ c ∈ g, isB c = true) (x : List UInt8) : tL (g ++ x) = tL x := by
  induction g with
  | nil => rfl
  | cons c g ih => rw [List.cons_append, tL_cons, if_pos (h c (List.mem_cons_self)), ih (fun d hd => h d (List.mem_cons_of_mem _ hd))]
theorem tR_blanks (g : List UInt8) (h : ∀ c ∈ g, isB c = true) (x : List UInt8) : tR (x ++ g) = tR x := by
  have : tR x = tR x := rfl
  unfold tR
  rw [List.reverse_append]
  have := tL_blanks g.reverse (fun c hc => h c (List.mem_reverse.1 hc)) x.reverse
  unfold tL at this
  rw [this]
theorem tL_signs (x : List UInt8) (h : ∀ c ∈ x, isB c = false) : tL x = x := by
  cases x with
  | nil => rfl
  | cons c x => rw [tL_cons, if_neg (by rw [h c (List.mem_cons_self)]; simp)]
theorem tR_last (x : List UInt8) (c : UInt8) (h : isB c = false) : tR (x ++ [c]) = x ++ [c] := by
  rw [tR_snoc, if_neg (by rw [h]; simp)]
theorem tR_signs (x : List UInt8) (h : ∀ c ∈ x, isB c = false) : tR x = x := by
  rcases List.eq_nil_or_concat x with rfl | ⟨y, c, rfl⟩
  · rfl
  · rw [List.concat_eq_append] at h ⊢
    exact tR_last y c (h c (by simp))
theorem tL_on (u x : List UInt8) (h : tL u = u) (hu : u ≠ []) : tL (u ++ x) = u ++ x := by
  rcases tL_or u with e | ⟨c, m, e, hb⟩
  · rw [h] at e; exact absurd e hu
  · rw [h] at e
    rw [e, List.cons_append, tL_cons, if_neg (by rw [hb]; simp)]
/-- Blanks ahead and behind are taken off. -/
theorem tB_around (g u k : List UInt8) (hg : ∀ c ∈ g, isB c = true) (hk : ∀ c ∈ k, isB c = true) (hl : tL u = u) (hr : tR u = u) : tB (g ++ u ++ k) = u := by
  unfold tB
  rw [tR_blanks k hk]
  by_cases hu : u = []
  · subst hu
    rw [List.append_nil, trims, show tL g = [] by have := tL_blanks g hg []; rwa [List.append_nil] at this]; rfl
  · rw [trims, tL_blanks g hg, hl, hr]
theorem value_around (b : Nat) (g u k : List UInt8) (hg : ∀ c ∈ g, isB c = true) (hk : ∀ c ∈ k, isB c = true) (hl : tL u = u) (hr : tR u = u) :
    value b (g ++ u ++ k) = if u = [] then (b, b) else (b - (u.length + k.length), b - (u.length + k.length) + u.length) := by
  unfold value
  by_cases hu : u = []
  · subst hu
    have e : tL (g ++ [] ++ k) = [] := by
      rw [List.append_nil, tL_blanks g hg]
      have := tL_blanks k hk []
      rwa [List.append_nil] at this
    rw [if_pos e, if_pos rfl]
  · have e : tL (g ++ u ++ k) = u ++ k := by
      rw [List.append_assoc, tL_blanks g hg, tL_on u k hl hu]
    rw [if_neg (by rw [e]; simp [hu]), if_neg hu, e, tR_blanks k hk, hr, List.length_append]
theorem value_part (p g u k : List UInt8) (hg : ∀ c ∈ g, isB c = true) (hk : ∀ c ∈ k, isB c = true) (hl : tL u = u) (hr : tR u = u) :
    part (p ++ (g ++ u ++ k)) (value (p ++ (g ++ u ++ k)).length (g ++ u ++ k)).1 (value (p ++ (g ++ u ++ k)).length (g ++ u ++ k)).2 = u ∧ (value (p ++ (g ++ u ++ k)).length (g ++ u ++ k)).1 ≤ (value (p ++ (g ++ u ++ k)).length (g ++ u ++ k)).2 ∧ (value (p ++ (g ++ u ++ k)).length (g ++ u ++ k)).2 ≤ (p ++ (g ++ u ++ k)).length := by
  rw [value_around _ g u k hg hk hl hr]
  by_cases hu : u = []
  · rw [if_pos hu]
    exact ⟨by rw [hu]; exact part_nil _ _ _ (Nat.le_refl _), Nat.le_refl _, Nat.le_refl _⟩
  · rw [if_neg hu]
    have e : (p ++ (g ++ u ++ k)).length = p.length + g.length + u.length + k.length := by simp; omega
    have e1 : (p ++ (g ++ u ++ k)).length - (u.length + k.length) = (p ++ g).length := by rw [e, List.length_append]; omega
    have e2 : p ++ (g ++ u ++ k) = (p ++ g) ++ u ++ k := by simp
    refine ⟨?_, by simp only; omega, by simp only; omega⟩
    simp only
    rw [e1]
    rw [e2, part_mid]
theorem part_mem (l : List UInt8) (a b : Nat) (c : UInt8) (h : c ∈ part l a b) : ∃ j, a ≤ j ∧ j < b ∧ l.getD j 0 = c := by
  unfold part at h
  obtain ⟨j, hj, e⟩ := List.getElem_of_mem h
  rw [List.length_take, List.length_drop] at hj
  refine ⟨a + j, by omega, by omega, ?_⟩
  rw [List.getElem_take, List.getElem_drop] at e
  rw [List.getD_eq_getElem?_getD, List.getElem?_eq_getElem (by omega), Option.getD_some, e]
theorem ends_of (l : List UInt8) (h0 : isB (l.getD 0 0) = false) (h1 : isB (l.getD (l.length - 1) 0) = false) (hl : l ≠ []) : tL l = l ∧ tR l = l := by
  constructor
  · cases l with
    | nil => exact absurd rfl hl
    | cons c l => rw [tL_cons, if_neg (by have e : isB c = false := h0; rw [e]; simp)]
  · rcases List.eq_nil_or_concat l with rfl | ⟨y, c, rfl⟩
    · exact absurd rfl hl
    · rw [List.concat_eq_append] at h1 ⊢
      refine tR_last y c ?_
      rw [List.length_append, List.length_singleton, Nat.add_sub_cancel] at h1
      simpa using h1
end Wd
