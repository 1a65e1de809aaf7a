/- The law CursorJoin, in plain Lean. Conditions: none (beyond the printed law's own). -/
import Derived.Test.YtfdeffjdhpdfeaaDoorPAllx8
import Derived.Test.YtfdeffjdhpdfeaaDoorEvs
namespace Go.Proofs.YtfdeffjdhpdfeaaDoor.Evs
set_option linter.unusedVariables false
set_option linter.unusedSimpArgs false
open Go.RowKit Go.Proofs.YtfdeffjdhpdfeaaDoor.PAll Go.Proofs.YtfdeffjdhpdfeaaDoorW.PrintWords Go.Proofs.YtfdeffjdhpdfeaaDoorW.PrintLast

def shift (n : Nat) (x : Cur.Ln) : Cur.Ln := ⟨x.f + n, x.t + n, x.n + n⟩
theorem joinLoop (X Y : List Cur.Ln) (n : Nat) (hX : X.length ≤ 1000000) (hY : Y.length ≤ 1000000) (hn : n ≤ 1000000) (hy : ∀ y ∈ Y, y.f ≤ 1000000 ∧ y.t ≤ 1000000 ∧ y.n ≤ 1000000) (j : Nat) : ∀ i : Nat, i + j = X.length + Y.length →
    Ev (fun k => entrepotlaw01_CursorJoin.l0 k (X.map toS) (Y.map toS) ((X ++ Y.map (shift n)).map toS) (n : Int) (i : Int)) true := by
  have hlen : ((X ++ Y.map (shift n)).map toS).length = X.length + Y.length := by simp
  induction j with
  | zero =>
    intro i hi
    refine ⟨1, fun k hk => ?_⟩
    obtain ⟨m, rfl⟩ : ∃ m, k = m + 1 := ⟨k - 1, by omega⟩
    simp only [entrepotlaw01_CursorJoin.l0]
    rw [if_neg (by rw [hlen]; omega)]
  | succ j ih =>
    intro i hi
    have hw : wrap64 ((i : Int) + 1) = ((i + 1 : Nat) : Int) := by rw [w64 _ (by omega) (by omega)]; omega
    have next := ih (i + 1) (by omega)
    have hL := rd31 (X ++ Y.map (shift n)) i (by simp; omega)
    have k3 : Ev (fun k => entrepotlaw01_CursorJoin.j3 k (X.map toS) (Y.map toS) ((X ++ Y.map (shift n)).map toS) (n : Int) (i : Int) false) true := by
      refine Ev.step (fun k => ?_) next
      simp only [entrepotlaw01_CursorJoin.j3]
      rw [if_neg (by simp)]
      by_cases c : i < X.length
      · rw [if_neg (by rw [List.length_map]; omega), hw]
      · have hk : wrap64 ((i : Int) - ((X.map toS).length : Int)) = ((i - X.length : Nat) : Int) := by rw [List.length_map, w64 _ (by omega) (by omega)]; omega
        have hyk := hy Y[i - X.length] (List.getElem_mem (by omega))
        have hg : (X ++ Y.map (shift n))[i]'(by simp; omega) = shift n Y[i - X.length] := by
          rw [List.getElem_append_right (by omega), List.getElem_map]
        rw [if_pos (by rw [List.length_map]; omega), hk, if_pos (by omega), if_pos (by rw [List.length_map]; omega), if_pos (by omega), if_pos (by rw [hlen]; omega), hL, rd31 Y _ (by omega), hg, if_neg ?_, hw]
        show ¬ (!(((Y[i - X.length].f + n : Nat) : Int) == wrap64 ((Y[i - X.length].f : Int) + (n : Int))) || (!(((Y[i - X.length].t + n : Nat) : Int) == wrap64 ((Y[i - X.length].t : Int) + (n : Int))) || !(((Y[i - X.length].n + n : Nat) : Int) == wrap64 ((Y[i - X.length].n : Int) + (n : Int))))) = true
        rw [w64 _ (by omega) (by omega), w64 _ (by omega) (by omega), w64 _ (by omega) (by omega)]
        simp
    refine Ev.step (fun k => ?_) k3
    simp only [entrepotlaw01_CursorJoin.l0]
    rw [if_pos (by rw [hlen]; omega)]
    by_cases c : i < X.length
    · have hg : (X ++ Y.map (shift n))[i]'(by simp; omega) = X[i] := List.getElem_append_left c
      rw [if_pos (by rw [List.length_map]; omega), if_pos (by omega), hL, hg, rd31 X i c]
      simp
    · rw [if_neg (by rw [List.length_map]; omega)]
theorem CursorJoin : entrepotlaw01_CursorJoin.Pure := by
  intro a b ha hb
  have hj : ∀ k, entrepotlaw01_CursorJoin.j0 (k + 1) a b true = some true := fun k => by
    simp only [entrepotlaw01_CursorJoin.j0]
    rw [if_pos trivial, shown_ev]; rfl
  by_cases h : (a.size : Int) > 1000
  · exact ⟨1, by unfold entrepotlaw01_CursorJoin.f; rw [if_pos h]; exact hj 0⟩
  · by_cases h' : (b.size : Int) > 1000
    · exact ⟨1, by unfold entrepotlaw01_CursorJoin.f; rw [if_neg h, if_pos h']; exact hj 0⟩
    · have z1 : (a ++ (⟨#[10]⟩ : ByteArray)).size = a.size + 1 := by rw [ByteArray.size_append]; rfl
      have z2 : ((a ++ (⟨#[10]⟩ : ByteArray)) ++ b).size = a.size + 1 + b.size := by rw [ByteArray.size_append, z1]
      have d1 : (a ++ (⟨#[10]⟩ : ByteArray)).data.toList = a.data.toList ++ [10] := by rw [ByteArray.data_append, Array.toList_append]
      have d2 : ((a ++ (⟨#[10]⟩ : ByteArray)) ++ b).data.toList = a.data.toList ++ 10 :: b.data.toList := by rw [ByteArray.data_append, Array.toList_append, d1]; simp
      have l1 : (Cur.lines (a.data.toList ++ [10])).length ≤ 1000000 := Nat.le_trans (lines_len _) (by rw [List.length_append, size_len, List.length_singleton]; omega)
      have l2 : (Cur.lines b.data.toList).length ≤ 1000000 := Nat.le_trans (lines_len _) (by rw [size_len]; omega)
      have l0 : (Cur.lines (a.data.toList ++ [10])).length ≠ 0 := fun e => by
        have hc := Cur.chain_lines (a.data.toList ++ [10])
        rw [List.length_eq_zero_iff.1 e] at hc
        simp [Cur.chain] at hc
      have hy : ∀ y ∈ Cur.lines b.data.toList, y.f ≤ 1000000 ∧ y.t ≤ 1000000 ∧ y.n ≤ 1000000 := fun y hy => by
        have h := lines_in_text b y hy
        have h1 := h.1; have h2 := h.2.1; have h3 := h.2.2.2
        omega
      have hjoin := Cur.lines_join a.data.toList b.data.toList
      have hloop := joinLoop (Cur.lines (a.data.toList ++ [10])) (Cur.lines b.data.toList) (a.size + 1) l1 l2 (by omega) hy ((Cur.lines (a.data.toList ++ [10])).length + (Cur.lines b.data.toList).length) 0 (by omega)
      have hn : wrap64 ((a.size : Int) + 1) = ((a.size + 1 : Nat) : Int) := by rw [w64 _ (by omega) (by omega)]; omega
      refine Ev.rounds (g := fun k => entrepotlaw01_CursorJoin.f k a b) ?_
      unfold entrepotlaw01_CursorJoin.f
      simp only [if_neg h, if_neg h', shown_ev, Option.bind_some, Bool.not_true]
      have k1 : Ev (fun k => entrepotlaw01_CursorJoin.j1 k a ((Cur.lines (a.data.toList ++ [10])).map toS) ((Cur.lines b.data.toList).map toS) ((Cur.lines (a.data.toList ++ [10]) ++ (Cur.lines b.data.toList).map (shift (a.size + 1))).map toS) false) true := by
        refine Ev.step (fun k => ?_) hloop
        simp only [entrepotlaw01_CursorJoin.j1]
        rw [if_neg (by simp), hn]; rfl
      refine Ev.step (fun k => ?_) k1
      simp only [entrepotlaw01_CursorJoin.j0]
      rw [if_neg (by simp), if_pos (by omega), linesF _ (by rw [z1]; omega), Option.bind_some, linesF b (by omega), Option.bind_some, if_pos (by rw [z1]; omega), linesF _ (by rw [z2]; omega), Option.bind_some, d1, d2, hjoin]
      rw [if_pos (by rw [w64 _ (by simp only [List.length_map]; omega) (by simp only [List.length_map]; omega)]; simp)]
      rw [show ((((Cur.lines (a.data.toList ++ [10])).map toS).length : Int) == 0) = false by rw [List.length_map]; simp; exact fun e => l0 (by rw [e]; rfl)]
      rfl
end Go.Proofs.YtfdeffjdhpdfeaaDoor.Evs
