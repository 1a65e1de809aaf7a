/- The laws CursorWhere and CursorBack, in plain Lean. Conditions: none (beyond the printed laws' own). -/
import Derived.Test.YtfdeffjdhpdfeaaDoorPAllx6
import Derived.Test.YtfdeffjdhpdfeaaDoorEvs
import Derived.OpenShut
namespace Go.Proofs.YtfdeffjdhpdfeaaDoor.Evs
set_option linter.unusedVariables false
set_option linter.unusedSimpArgs false
open Go.RowKit Go.Proofs.YtfdeffjdhpdfeaaDoor.PAll Go.Proofs.YtfdeffjdhpdfeaaDoorW.PrintWords Go.Proofs.YtfdeffjdhpdfeaaDoorW.PrintLast

theorem CursorWhere : entrepotlaw01_CursorWhere.Pure := by
  intro s at_ line col hs h1 h2 h3
  have hc := bounds_i64 h3
  have hj : ∀ k, entrepotlaw01_CursorWhere.j0 (k + 1) s at_ line col true = some true := fun k => by
    simp only [entrepotlaw01_CursorWhere.j0]
    rw [if_pos trivial, shown_ev]; rfl
  by_cases h : (s.size : Int) > 500
  · exact ⟨1, by unfold entrepotlaw01_CursorWhere.f; rw [if_pos h]; exact hj 0⟩
  · have hs' : s.size ≤ 1000000000 := by omega
    refine Ev.rounds (g := fun k => entrepotlaw01_CursorWhere.f k s at_ line col) ?_
    unfold entrepotlaw01_CursorWhere.f
    simp only [if_neg h, shown_ev, Option.bind_some, Bool.not_true]
    have key : Ev (fun k => ((cursor_Where.f s at_).bind fun bt185 => ((entrepotref01_Where.f k s at_).bind fun bt188 => ((cursor_Place.f s line col).bind fun bt191 => ((entrepotref01_Place.f k s line col).bind fun bt193 => (if bt185.1 = bt188.1 then (if bt185.2.1 = bt188.2.1 then (if bt185.2.2 = bt188.2.2 then (if bt191.1 = bt193.1 then (some (bt191.2 == bt193.2)) else (some false)) else (some false)) else (some false)) else (some false))))))) true := by
      rw [whereF s hs', placeF s hs' line col hc.1 hc.2]
      simp only [Option.bind_some]
      refine Ev.bind (refWhere s hs' at_) ?_
      refine Ev.bind (refPlace s hs' line col) ?_
      simp only [if_true, BEq.rfl]
      exact Ev.now _
    refine Ev.step (fun k => ?_) key
    simp only [entrepotlaw01_CursorWhere.j0]
    rw [if_neg (by simp)]

theorem CursorBack : entrepotlaw01_CursorBack.Pure := by
  intro s a b hs h1 h2
  have ha := bounds_u16 h1
  have hb := bounds_u16 h2
  by_cases h : (s.size : Int) > 2000
  · refine ⟨1, ?_⟩
    unfold entrepotlaw01_CursorBack.f
    rw [if_pos h]
    simp only [entrepotlaw01_CursorBack.j0]
    rw [if_pos trivial, shown_ev]; rfl
  · have hs' : s.size ≤ 1000000000 := by omega
    obtain ⟨p, hp⟩ : ∃ p : Nat, mn a b = (p : Int) ∧ p ≤ 65535 := ⟨(mn a b).toNat, by unfold mn; split <;> omega⟩
    obtain ⟨q, hq⟩ : ∃ q : Nat, mx a b = (q : Int) ∧ q ≤ 65535 := ⟨(mx a b).toNat, by unfold mx; split <;> omega⟩
    have e1 := Aside0.mk (show wrap64 ((s.size : Int) + 1) = ((s.size + 1 : Nat) : Int) by rw [w64 _ (by omega) (by omega)]; omega)
    have e2 := Aside0.mk (show wrap64 (mn a b) = (p : Int) by rw [hp.1, w64 _ (by omega) (by omega)])
    have e3 := Aside0.mk (show wrap64 (mx a b) = (q : Int) by rw [hq.1, w64 _ (by omega) (by omega)])
    obtain ⟨i, hi⟩ : ∃ i : Nat, Aside0 (p % (s.size + 1) = i) := ⟨_, ⟨rfl⟩⟩
    have hil : i ≤ s.size := by rw [← hi.out]; exact Nat.le_of_lt_succ (Nat.mod_lt p (Nat.succ_pos _))
    have eI := Aside0.mk (show Int.tmod (p : Int) ((s.size + 1 : Nat) : Int) = (i : Int) by rw [← hi.out]; exact (Int.ofNat_tmod p (s.size + 1)).symm)
    have e4 := Aside0.mk (show wrap64 ((s.size : Int) - (i : Int)) = ((s.size - i : Nat) : Int) by rw [w64 _ (by omega) (by omega)]; omega)
    have e5 := Aside0.mk (show wrap64 (((s.size - i : Nat) : Int) + 1) = ((s.size - i + 1 : Nat) : Int) by rw [w64 _ (by omega) (by omega)]; omega)
    obtain ⟨d, hd⟩ : ∃ d : Nat, Aside0 (q % (s.size - i + 1) = d) := ⟨_, ⟨rfl⟩⟩
    have hdl : d ≤ s.size - i := by rw [← hd.out]; exact Nat.le_of_lt_succ (Nat.mod_lt q (Nat.succ_pos _))
    have eD := Aside0.mk (show Int.tmod (q : Int) ((s.size - i + 1 : Nat) : Int) = (d : Int) by rw [← hd.out]; exact (Int.ofNat_tmod q (s.size - i + 1)).symm)
    have eK := Aside0.mk (show wrap64 ((i : Int) + (d : Int)) = ((i + d : Nat) : Int) by rw [w64 _ (by omega) (by omega)]; omega)
    have hW : ∀ n : Nat, n ≤ s.size → whereV s (n : Int) = (((Cur.at_ s.data.toList n).1 : Int), ((Cur.at_ s.data.toList n).2 : Int), 0) := fun n hn => by unfold whereV; rw [if_neg (by omega), Int.toNat_natCast]
    have hle := at_le s.data.toList i (by rw [size_len]; exact hil)
    have hP : placeP s ((Cur.at_ s.data.toList i).1 : Int) ((Cur.at_ s.data.toList i).2 : Int) = ((i : Int), 0) := by unfold placeP; rw [Cur.place_at _ _ (by rw [size_len]; exact hil)]
    have hpos := Cur.at_pos s.data.toList i
    refine ⟨1, ?_⟩
    unfold entrepotlaw01_CursorBack.f
    rw [if_neg h, shown_ev, Option.bind_some]
    simp only [entrepotlaw01_CursorBack.j0, Bool.not_true]
    simp only [e1.out, e2.out, e3.out, eI.out, e4.out, e5.out, eD.out, eK.out]
    rw [if_neg (show ¬ false = true by decide), if_neg (show ¬ ((s.size + 1 : Nat) : Int) = 0 by omega), if_neg (show ¬ ((s.size - i + 1 : Nat) : Int) = 0 by omega), whereF s hs', Option.bind_some, whereF s hs', Option.bind_some, hW i hil, hW (i + d) (by omega)]
    rw [placeF s hs' _ _ (by show _ ≤ ((Cur.at_ s.data.toList i).2 : Int); omega) (by show ((Cur.at_ s.data.toList i).2 : Int) ≤ _; omega), Option.bind_some]
    show (if (0 : Int) = 0 then _ else _) = _
    rw [if_pos rfl]
    show (if (0 : Int) = 0 then _ else _) = _
    rw [if_pos rfl]
    show (if (placeP s ((Cur.at_ s.data.toList i).1 : Int) ((Cur.at_ s.data.toList i).2 : Int)).2 = 0 then _ else _) = _
    rw [hP, if_pos rfl, if_pos rfl]
    have r1 : ((Cur.at_ s.data.toList i).1 : Int) ≥ 1 := by omega
    have r2 : decide (((Cur.at_ s.data.toList i).2 : Int) ≥ 1) = true := decide_eq_true (by omega)
    by_cases hz : d = 0
    · rw [if_pos (by omega), if_pos r1]
      exact congrArg some r2
    · rw [if_neg (by omega)]
      have hlater := Cur.at_later s.data.toList i (i + d) (by omega) (by rw [size_len]; omega)
      by_cases c1 : (Cur.at_ s.data.toList i).1 < (Cur.at_ s.data.toList (i + d)).1
      · rw [if_pos (show ((Cur.at_ s.data.toList i).1 : Int) < ((Cur.at_ s.data.toList (i + d)).1 : Int) by omega), if_pos r1]
        exact congrArg some r2
      · have c2 : (Cur.at_ s.data.toList i).1 = (Cur.at_ s.data.toList (i + d)).1 := by omega
        have c3 : (Cur.at_ s.data.toList i).2 < (Cur.at_ s.data.toList (i + d)).2 := by omega
        rw [if_neg (show ¬ ((Cur.at_ s.data.toList i).1 : Int) < ((Cur.at_ s.data.toList (i + d)).1 : Int) by omega), if_pos (show ((Cur.at_ s.data.toList i).1 : Int) = ((Cur.at_ s.data.toList (i + d)).1 : Int) by omega), if_pos (show ((Cur.at_ s.data.toList i).2 : Int) < ((Cur.at_ s.data.toList (i + d)).2 : Int) by omega), if_pos r1]
        exact congrArg some r2
end Go.Proofs.YtfdeffjdhpdfeaaDoor.Evs
