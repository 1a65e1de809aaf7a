/- The law CursorCover, in plain Lean. Conditions: none (beyond the printed law's own). -/
import Derived.Test.YtfdeffjdhpdfeaaDoorPAllx7
import Derived.Test.YtfdeffjdhpdfeaaDoorEvs
namespace Go.Proofs.YtfdeffjdhpdfeaaDoor.Evs
set_option linter.unusedVariables false
set_option linter.unusedSimpArgs false
open Go.RowKit Go.Proofs.YtfdeffjdhpdfeaaDoor.PAll Go.Proofs.YtfdeffjdhpdfeaaDoorW.PrintWords Go.Proofs.YtfdeffjdhpdfeaaDoorW.PrintLast

theorem chain_at (l : List UInt8) : ∀ (xs : List Cur.Ln) (a n : Nat), Cur.chain l a n xs → ∀ i, (h : i < xs.length) →
    xs[i].f ≤ xs[i].t ∧ xs[i].t ≤ xs[i].n ∧ xs[i].n ≤ xs[i].t + 2 ∧ xs[i].f < xs[i].n ∧ xs[i].n ≤ l.length ∧ Cur.at_ l xs[i].f = (n + i + 1, 1) ∧ (∀ k, xs[i].f ≤ k → k < xs[i].t → l[k]? ≠ some 10) ∧
    (xs[i].f = if i = 0 then a else (xs[i - 1]?.map (·.n)).getD 0)
  | [], _, _, _, i, h => absurd h (by simp)
  | x :: xs, a, n, hc, 0, _ => by
    obtain ⟨h1, h2, h3, h4, h5, h6, h7, h8, _⟩ := hc
    exact ⟨h2, h3, h4, h5, h6, h7, h8, h1⟩
  | x :: xs, a, n, hc, i + 1, h => by
    obtain ⟨_, _, _, _, _, _, _, _, h9⟩ := hc
    have := chain_at l xs x.n (n + 1) h9 i (by simpa using h)
    obtain ⟨h1, h2, h3, h4, h5, h6, h7, h8⟩ := this
    refine ⟨h1, h2, h3, h4, h5, by rw [show n + (i + 1) + 1 = n + 1 + i + 1 by omega]; exact h6, h7, ?_⟩
    rw [if_neg (by omega)]
    show (xs[i]'(by simpa using h)).f = _
    rw [h8]
    cases i with
    | zero => rw [if_pos rfl]; rfl
    | succ i => rw [if_neg (by omega)]; rfl
theorem chain_end (l : List UInt8) : ∀ (xs : List Cur.Ln) (a n : Nat), Cur.chain l a n xs → (if xs = [] then a else (xs.getLast?.map (·.n)).getD 0) = l.length
  | [], a, _, hc => hc
  | [x], a, n, hc => by obtain ⟨_, _, _, _, _, _, _, _, h9⟩ := hc; exact h9
  | x :: y :: xs, a, n, hc => by
    obtain ⟨_, _, _, _, _, _, _, _, h9⟩ := hc
    have := chain_end l (y :: xs) x.n (n + 1) h9
    rw [if_neg (by simp)] at this ⊢
    exact this
/-- The place behind the first i lines. -/
def behind (xs : List Cur.Ln) (i : Nat) : Nat := if i = 0 then 0 else (xs[i - 1]?.map (·.n)).getD 0
theorem coverIn (s : ByteArray) (hs : s.size ≤ 1000000000) (xs : List Cur.Ln) (i : Nat) (hi : i < xs.length) (ht : xs[i].t ≤ s.size) (h10 : ∀ k, xs[i].f ≤ k → k < xs[i].t → s.data.toList[k]? ≠ some 10)
    (next : Ev (fun k => entrepotlaw01_CursorCover.l0 k s (xs.map toS) (xs[i].n : Int) (wrap64 ((i : Int) + 1))) true) (j : Nat) : ∀ p : Nat, p + j = xs[i].t → xs[i].f ≤ p → Ev (fun k => entrepotlaw01_CursorCover.l1 k s (xs.map toS) (i : Int) (p : Int)) true := by
  induction j with
  | zero =>
    intro p hp hf
    refine Ev.step (fun k => ?_) next
    simp only [entrepotlaw01_CursorCover.l1]
    rw [if_pos (by omega), if_pos (by rw [List.length_map]; omega), rd31 xs i hi, if_neg (by show ¬ (p : Int) < (xs[i].t : Int); omega)]; rfl
  | succ j ih =>
    intro p hp hf
    have hb := bt_get s p
    have hne : s.data.toList.getD p 0 ≠ 10 := fun e => h10 p hf (by omega) (by
      rw [← e, List.getD_eq_getElem?_getD, List.getElem?_eq_getElem (show p < s.data.toList.length by rw [size_len]; omega)]; rfl)
    have hw : wrap64 ((p : Int) + 1) = ((p + 1 : Nat) : Int) := by rw [w64 _ (by omega) (by omega)]; omega
    refine Ev.step (fun k => ?_) (ih (p + 1) (by omega) (by omega))
    simp only [entrepotlaw01_CursorCover.l1]
    rw [if_pos (by omega), if_pos (by rw [List.length_map]; omega), rd31 xs i hi, if_pos (by show (p : Int) < (xs[i].t : Int); omega), if_pos (by omega), if_pos (by omega), if_neg (by rw [hb]; exact fun e => hne ((byte_is _ 10 (by omega)).1 e)), hw]
theorem coverLoop (s : ByteArray) (hs : s.size ≤ 1000000000) (xs : List Cur.Ln) (hl : xs.length ≤ 1000000000) (hc : Cur.chain s.data.toList 0 0 xs) (j : Nat) : ∀ i : Nat, i + j = xs.length →
    Ev (fun k => entrepotlaw01_CursorCover.l0 k s (xs.map toS) (behind xs i : Int) (i : Int)) true := by
  induction j with
  | zero =>
    intro i hi
    obtain rfl : i = xs.length := by omega
    refine ⟨1, fun k hk => ?_⟩
    obtain ⟨m, rfl⟩ : ∃ m, k = m + 1 := ⟨k - 1, by omega⟩
    simp only [entrepotlaw01_CursorCover.l0]
    have he := chain_end _ xs 0 0 hc
    have : behind xs xs.length = s.size := by
      rw [← size_len, ← he]
      unfold behind
      cases xs with
      | nil => rfl
      | cons x xs => rw [if_neg (by simp), if_neg (by simp), List.getLast?_eq_getElem?]
    rw [if_neg (by rw [List.length_map]; omega), this]
    simp
  | succ j ih =>
    intro i hi
    obtain ⟨h1, h2, h3, h4, h5, h6, h7, h8⟩ := chain_at _ xs 0 0 hc i (by omega)
    rw [size_len] at h5
    have hbe : behind xs i = xs[i].f := by unfold behind; exact h8.symm
    have hw : wrap64 ((i : Int) + 1) = ((i + 1 : Nat) : Int) := by rw [w64 _ (by omega) (by omega)]; omega
    have hnx : behind xs (i + 1) = xs[i].n := by unfold behind; rw [if_neg (by omega), Nat.add_sub_cancel, List.getElem?_eq_getElem (by omega)]; rfl
    have next := ih (i + 1) (by omega)
    rw [hnx, ← hw] at next
    have k3 : Ev (fun k => entrepotlaw01_CursorCover.j3 k s (xs.map toS) (i : Int) false) true := by
      refine Ev.step (fun k => ?_) (coverIn s hs xs i (by omega) (by omega) h7 next (xs[i].t - xs[i].f) xs[i].f (by omega) (Nat.le_refl _))
      simp only [entrepotlaw01_CursorCover.j3]
      rw [if_neg (by simp), if_pos (by omega), if_pos (by rw [List.length_map]; omega), rd31 xs i (by omega)]; rfl
    have k2 : Ev (fun k => entrepotlaw01_CursorCover.j2 k s (xs.map toS) (i : Int) false) true := by
      refine Ev.step (fun k => ?_) k3
      simp only [entrepotlaw01_CursorCover.j2]
      have hv : whereV s (xs[i].f : Int) = (((i + 1 : Nat) : Int), 1, 0) := by
        unfold whereV; rw [if_neg (by omega), Int.toNat_natCast, h6]; simp
      rw [if_neg (by simp), if_pos (by omega), if_pos (by rw [List.length_map]; omega), rd31 xs i (by omega)]
      show (cursor_Where.f s (xs[i].f : Int)).bind _ = _
      rw [whereF s hs, hv, Option.bind_some, hw]
      simp only [if_true, bne_self_eq_false]
    refine Ev.step (fun k => ?_) k2
    simp only [entrepotlaw01_CursorCover.l0]
    rw [if_pos (by rw [List.length_map]; omega), if_pos (by omega), rd31 xs i (by omega), hbe]
    show (if (xs[i].f : Int) = (xs[i].f : Int) then (if (xs[i].t : Int) < (xs[i].f : Int) then _ else (if (xs[i].n : Int) < (xs[i].t : Int) then _ else (if (xs[i].n : Int) ≤ (xs[i].f : Int) then _ else (if (xs[i].n : Int) > (s.size : Int) then _ else entrepotlaw01_CursorCover.j2 k s (xs.map toS) (i : Int) (decide (wrap64 ((xs[i].n : Int) - (xs[i].t : Int)) > 2)))))) else _) = _
    rw [if_pos rfl, if_neg (by omega), if_neg (by omega), if_neg (by omega), if_neg (by omega), w64 _ (by omega) (by omega), decide_eq_false (by omega)]
theorem CursorCover : entrepotlaw01_CursorCover.Pure := by
  intro s hs
  by_cases h : (s.size : Int) > 2000
  · refine ⟨1, ?_⟩
    unfold entrepotlaw01_CursorCover.f
    rw [if_pos h]
    simp only [entrepotlaw01_CursorCover.j0]
    rw [if_pos trivial, shown_ev]; rfl
  · have hs' : s.size ≤ 1000000000 := by omega
    have hl : (Cur.lines s.data.toList).length ≤ 1000000000 := Nat.le_trans (lines_len _) hs'
    refine Ev.rounds (g := fun k => entrepotlaw01_CursorCover.f k s) ?_
    unfold entrepotlaw01_CursorCover.f
    simp only [if_neg h, shown_ev, Option.bind_some, Bool.not_true]
    refine Ev.step (fun k => ?_) (coverLoop s hs' _ hl (Cur.chain_lines _) (Cur.lines s.data.toList).length 0 (by omega))
    simp only [entrepotlaw01_CursorCover.j0]
    rw [if_neg (by simp), linesF s hs', Option.bind_some]; rfl
end Go.Proofs.YtfdeffjdhpdfeaaDoor.Evs
