/- A slice of diagnostics that came in: what it reads as. Condition: none. -/
import Derived.Test.YtgphciopondlaaaDoorLaid
import Derived.Deep.SlicePairs
import Derived.Carry
namespace Go.Proofs.YtgphciopondlaaaDoor
open Go.RowKit Go.ChangeShapes Go.WideShapes Go.Proofs.YtgphciopondlaaaDoor.PAll Go.Proofs.YtgphciopondlaaaDoorW.PrintWords
theorem laidOut : laidOutB Tryd.prog = true := by kernel_rfl
theorem open_diags_cs {H : Type} {enc : TypeId × Value → H} {W : World} {base : Nat} {sp : Nat → Bool} {held : Bool} {fuel : Nat} {cs : List Value} {x : DataW H × List MemPlace} (h : DataW.trod enc Tryd.prog W base sp held fuel 22 cs = some x) :
    ∃ (A : Option Addr) (c : Nat) (l : List S25), cs = [.slice A l.length c] ∧ l.length ≤ c ∧ Kd.C k25 W A l.length l := by
  rcases Go.Deep.open_slice_pairs Tryd.underlying22 Tryd.underlying25 (by kernel_rfl) rfl rfl (by kernel_rfl) (by kernel_rfl) h with ⟨rfl, _⟩ | ⟨a, len, cap, m, n, V0, V1, D0, D1, P0, P1, rfl, hb, hl, hm, hmm, hx, hi⟩
  · exact ⟨none, 0, [], rfl, Nat.le_refl _, Kd.C_nil _ _⟩
  · have hlm : len ≤ m := by rw [hmm]; split <;> omega
    have each : ∀ i, i < len → ∃ q : S25, W.cell? (a.add (i * 2)) = some (.int .i64 q.f0) ∧ W.cell? (a.add (i * 2 + 1)) = some (.int .i64 q.f1) := by
      intro i hil
      obtain ⟨c0, c1, t0, t1⟩ := hi i (by omega)
      obtain ⟨z0, e0, _, _⟩ := DataW.trod_int (P := Tryd.prog) Tryd.underlying3 t0
      obtain ⟨z1, e1, _, _⟩ := DataW.trod_int (P := Tryd.prog) Tryd.underlying23 t1
      simp only [List.cons.injEq, and_true] at e0 e1
      exact ⟨⟨z0, z1⟩, by rw [c0, e0], by rw [c1, e1]⟩
    obtain ⟨q, hq⟩ : ∃ q : Nat → S25, ∀ i, i < len → W.cell? (a.add (i * 2)) = some (.int .i64 (q i).f0) ∧ W.cell? (a.add (i * 2 + 1)) = some (.int .i64 (q i).f1) := by
      refine ⟨fun i => if h : i < len then Classical.choose (each i h) else z25, fun i h => ?_⟩
      simp only [dif_pos h]
      exact Classical.choose_spec (each i h)
    have hmax : maxLen ≤ 9223372036854775807 := by decide
    refine ⟨some a, cap, (List.range len).map q, by simp, by simpa using hl, ?_⟩
    rw [List.length_map, List.length_range]
    refine ⟨by simp, by omega, fun _ => ⟨a, rfl, fun j p hp => ?_⟩⟩
    simp only [List.getElem?_map, Option.map_eq_some_iff] at hp
    obtain ⟨j', hj', rfl⟩ := hp
    obtain ⟨hjl, e⟩ := List.getElem?_eq_some_iff.1 hj'
    rw [List.getElem_range] at e
    subst e
    rw [List.length_range] at hjl
    refine ⟨_, rfl, k25_mk W (q j), fun i u hu => ?_⟩
    have := hq j hjl
    match i, hu with
    | 0, hu => simp at hu; rw [← hu]; exact this.1
    | 1, hu => simp at hu; rw [← hu]; exact this.2
end Go.Proofs.YtgphciopondlaaaDoor

namespace Go.Proofs.YtgphciopondlaaaDoor
open Go.RowKit Go.ChangeShapes Go.WideShapes Go.Proofs.YtgphciopondlaaaDoor.PAll Go.Proofs.YtgphciopondlaaaDoorW.PrintWords
theorem open_rows_cs {H : Type} {enc : TypeId × Value → H} {W : World} {base : Nat} {sp : Nat → Bool} {held : Bool} {fuel : Nat} {cs : List Value} {x : DataW H × List MemPlace} (h : DataW.trod enc Tryd.prog W base sp held fuel 37 cs = some x) :
    ∃ (A : Option Addr) (c : Nat) (l : List (List S25)), cs = [.slice A l.length c] ∧ l.length ≤ c ∧ Kd.C (Kd.slice 25 k25) W A l.length l := by
  rcases Go.Deep.open_slice1 Tryd.underlying37 (by kernel_rfl) h with ⟨rfl, _⟩ | ⟨a, len, cap, m, n, V, D, Pl, rfl, hb, hl, hm, hmm, hx, hi⟩
  · exact ⟨none, 0, [], rfl, Nat.le_refl _, Kd.C_nil _ _⟩
  · have hlm : len ≤ m := by rw [hmm]; split <;> omega
    have each : ∀ i, i < len → ∃ q : List S25, ∃ (A : Option Addr) (c : Nat), W.cell? (a.add i) = some (.slice A q.length c) ∧ q.length ≤ c ∧ Kd.C k25 W A q.length q := by
      intro i hil
      obtain ⟨c0, t0⟩ := hi i (by omega)
      obtain ⟨A, c, q, e, h1, h2⟩ := open_diags_cs t0
      simp only [List.cons.injEq, and_true] at e
      exact ⟨q, A, c, by rw [c0, e], h1, h2⟩
    obtain ⟨q, hq⟩ : ∃ q : Nat → List S25, ∀ i, i < len → ∃ (A : Option Addr) (c : Nat), W.cell? (a.add i) = some (.slice A (q i).length c) ∧ (q i).length ≤ c ∧ Kd.C k25 W A (q i).length (q i) := by
      refine ⟨fun i => if h : i < len then Classical.choose (each i h) else [], fun i h => ?_⟩
      simp only [dif_pos h]
      exact Classical.choose_spec (each i h)
    have hmax : maxLen ≤ 9223372036854775807 := by decide
    refine ⟨some a, cap, (List.range len).map q, by simp, by simpa using hl, ?_⟩
    rw [List.length_map, List.length_range]
    refine ⟨by simp, by omega, fun _ => ⟨a, rfl, fun j p hp => ?_⟩⟩
    simp only [List.getElem?_map, Option.map_eq_some_iff] at hp
    obtain ⟨j', hj', rfl⟩ := hp
    obtain ⟨hjl, e⟩ := List.getElem?_eq_some_iff.1 hj'
    rw [List.getElem_range] at e
    subst e
    rw [List.length_range] at hjl
    obtain ⟨A, c, h1, h2, h3⟩ := hq j hjl
    refine ⟨[.slice A (q j).length c], rfl, ⟨A, c, rfl, h2, h3⟩, fun i u hu => ?_⟩
    match i, hu with
    | 0, hu => simp at hu; rw [← hu]; show W.cell? (a.add (j * 1 + 0)) = _; rw [Nat.mul_one, Nat.add_zero]; exact h1
end Go.Proofs.YtgphciopondlaaaDoor
