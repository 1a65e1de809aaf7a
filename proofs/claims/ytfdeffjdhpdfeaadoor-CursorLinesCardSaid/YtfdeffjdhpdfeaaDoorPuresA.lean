/- The law CursorLines, in plain Lean. Conditions: none (beyond the printed law's own). -/
import Derived.Test.YtfdeffjdhpdfeaaDoorPAllx5
import Derived.Test.YtfdeffjdhpdfeaaDoorEvs
namespace Go.Proofs.YtfdeffjdhpdfeaaDoor.Evs
set_option linter.unusedVariables false
set_option linter.unusedSimpArgs false
open Go.RowKit Go.Proofs.YtfdeffjdhpdfeaaDoor.PAll Go.Proofs.YtfdeffjdhpdfeaaDoorW.PrintWords Go.Proofs.YtfdeffjdhpdfeaaDoorW.PrintLast

theorem linesLoop (s : ByteArray) (hs : s.size ≤ 1000000000) (xs : List Cur.Ln) (hl : xs.length ≤ 1000000000) (hx : ∀ x ∈ xs, InText s x) (j : Nat) : ∀ i : Nat, i + j = xs.length →
    Ev (fun k => entrepotlaw01_CursorLines.l0 k s (xs.map toS) (xs.map toR) (i : Int)) true := by
  induction j with
  | zero =>
    intro i hi
    refine ⟨1, fun k hk => ?_⟩
    obtain ⟨m, rfl⟩ : ∃ m, k = m + 1 := ⟨k - 1, by omega⟩
    simp only [entrepotlaw01_CursorLines.l0]
    rw [if_neg (by rw [List.length_map]; omega)]
  | succ j ih =>
    intro i hi
    have hxi := hx xs[i] (List.getElem_mem (by omega))
    have hB := refBlank s hs xs[i].f xs[i].t xs[i].n hxi.1 (by have := hxi.2.1; have := hxi.2.2.2; omega)
    have hw : wrap64 ((i : Int) + 1) = ((i + 1 : Nat) : Int) := by rw [w64 _ (by omega) (by omega)]; omega
    have key : Ev (fun k => (cursor_Blank.f s ((rd_T31 (xs.map toS) (i : Int)).f0) ((rd_T31 (xs.map toS) (i : Int)).f1) ((rd_T31 (xs.map toS) (i : Int)).f2)).bind fun t177 => ((entrepotref01_Blank.f k s ((rd_T33 (xs.map toR) (i : Int)).f0) ((rd_T33 (xs.map toR) (i : Int)).f1) ((rd_T33 (xs.map toR) (i : Int)).f2)).bind fun t179 => (if (t177 != t179) = true then (some false) else (entrepotlaw01_CursorLines.l0 k s (xs.map toS) (xs.map toR) (wrap64 ((i : Int) + 1)))))) true := by
      rw [rd31 xs i (by omega), rd33 xs i (by omega)]
      have hBF : cursor_Blank.f s (toS xs[i]).f0 (toS xs[i]).f1 (toS xs[i]).f2 = some (Cur.blank s.data.toList xs[i].f xs[i].t) := blankF s hs xs[i].f xs[i].t xs[i].n hxi.1 (by have := hxi.2.1; have := hxi.2.2.2; omega)
      rw [hBF]
      simp only [Option.bind_some]
      refine Ev.bind hB ?_
      simp only [bne_self_eq_false, Bool.false_eq_true, if_false]
      rw [hw]
      exact ih (i + 1) (by omega)
    refine Ev.step (fun k => ?_) key
    simp only [entrepotlaw01_CursorLines.l0]
    rw [if_pos (by rw [List.length_map]; omega), if_pos (by omega), if_pos (by rw [List.length_map]; omega)]
theorem CursorLines : entrepotlaw01_CursorLines.Pure := by
  intro s hs
  have hj : ∀ k, entrepotlaw01_CursorLines.j0 (k + 1) s true = some true := fun k => by
    simp only [entrepotlaw01_CursorLines.j0]
    rw [if_pos trivial, shown_ev]; rfl
  by_cases h : (s.size : Int) > 2000
  · exact ⟨1, by unfold entrepotlaw01_CursorLines.f; rw [if_pos h]; exact hj 0⟩
  · have hs' : s.size ≤ 1000000000 := by omega
    have hl : (Cur.lines s.data.toList).length ≤ 1000000000 := Nat.le_trans (lines_len _) hs'
    have hl2 : (rw_ s (Cur.lines s.data.toList)).length ≤ 1000000000 := Nat.le_trans (rw_len _ _) hl
    have hl3 : ((Cur.lines s.data.toList).map toR).length ≤ 1000000000 := by rw [List.length_map]; exact hl
    have hl4 : ((rw_ s (Cur.lines s.data.toList)).map toR).length ≤ 1000000000 := by rw [List.length_map]; exact hl2
    refine Ev.rounds (g := fun k => entrepotlaw01_CursorLines.f k s) ?_
    unfold entrepotlaw01_CursorLines.f
    simp only [if_neg h, shown_ev, Option.bind_some, Bool.not_true]
    have key : Ev (fun k => ((cursor_Lines.f s).bind fun t156 => ((entrepotref01_Lines.f k s).bind fun t159 => ((entrepotlaw01_its.f k t156).bind fun t162 => ((entrepotref01_Same.f k t162 t159).bind fun t165 => (if t165 = true then ((cursor_Rows.f s).bind fun t166 => ((entrepotlaw01_its.f k t166).bind fun t169 => ((entrepotref01_Rows.f k s).bind fun t172 => ((entrepotref01_Same.f k t169 t172).bind fun t175 => (entrepotlaw01_CursorLines.j1 k s t156 t159 (!t175)))))) else (entrepotlaw01_CursorLines.j1 k s t156 t159 true))))))) true := by
      rw [linesF s hs', rowsF s hs']
      simp only [Option.bind_some]
      refine Ev.bind (refLines s hs') ?_
      refine Ev.bind (its _ hl) ?_
      refine Ev.bind (refSame _ hl3) ?_
      simp only [if_true]
      refine Ev.bind (its _ hl2) ?_
      refine Ev.bind (refRows s hs') ?_
      refine Ev.bind (refSame _ hl4) ?_
      refine Ev.step (fun k => ?_) (linesLoop s hs' _ hl (lines_in_text s) (Cur.lines s.data.toList).length 0 (by omega))
      simp only [entrepotlaw01_CursorLines.j1]
      rw [if_neg (by simp)]; rfl
    refine Ev.step (fun k => ?_) key
    simp only [entrepotlaw01_CursorLines.j0]
    rw [if_neg (by simp)]
end Go.Proofs.YtfdeffjdhpdfeaaDoor.Evs
