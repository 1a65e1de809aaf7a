/- Rows of diagnostics of the call's own, and Clone. Conditions: lists of at most 1000000000. -/
import Derived.Test.YtgphciopondlaaaDoorGivenC
import Derived.Lib.OwnBridge
import Derived.Shelf.SlicesQ.Reverse
import Derived.OwnWalkIn
namespace Go.Proofs.YtgphciopondlaaaDoor
set_option linter.unusedVariables false
set_option linter.unusedSimpArgs false
open Go.RowKit Go.Sort Go.Lib Go.Proofs.YtgphciopondlaaaDoor.PAll Go.Proofs.YtgphciopondlaaaDoorW.PrintWords Go.Proofs.YtgphciopondlaaaDoorW.PrintLast

def flat (l : List Dg.D) : List Value := l.flatMap enc
theorem flat_len (l : List Dg.D) : (flat l).length = l.length * 2 := by
  induction l with
  | nil => rfl
  | cons x l ih => simp only [flat, List.flatMap_cons, List.length_append] at *; rw [ih]; simp [enc]; omega
theorem flat_append (a b : List Dg.D) : flat (a ++ b) = flat a ++ flat b := by simp [flat]
theorem flat_get (l : List Dg.D) : ∀ (i : Nat) (h : i < l.length), (flat l)[i * 2]? = some (.int .i64 l[i].1) ∧ (flat l)[i * 2 + 1]? = some (.int .i64 l[i].2) := by
  induction l with
  | nil => intro i h; simp at h
  | cons x l ih =>
    intro i h
    have e : flat (x :: l) = .int .i64 x.1 :: .int .i64 x.2 :: flat l := rfl
    rw [e]
    cases i with
    | zero => exact ⟨rfl, rfl⟩
    | succ i =>
      have := ih i (by simpa using h)
      rw [show (i + 1) * 2 = i * 2 + 1 + 1 by omega]
      simpa using this
theorem flat_one (l : List Dg.D) : ∀ u ∈ flat l, u.oneCell' = true := by
  intro u hu
  simp only [flat, List.mem_flatMap] at hu
  obtain ⟨x, _, hx⟩ := hu
  simp [enc] at hx
  rcases hx with rfl | rfl <;> rfl
theorem flat_take (l : List Dg.D) (m : Nat) : flat (l.take m) = (flat l).take (m * 2) := by
  induction l generalizing m with
  | nil => simp [flat]
  | cons x l ih =>
    cases m with
    | zero => simp [flat]
    | succ m =>
      have e : flat (x :: l) = .int .i64 x.1 :: .int .i64 x.2 :: flat l := rfl
      rw [e, List.take_succ_cons, show (m + 1) * 2 = m * 2 + 1 + 1 by omega, List.take_succ_cons, List.take_succ_cons, ← ih]
      rfl
/-- The flat row of an array, and of its list. -/
theorem flatK_flat (l : List Dg.D) : flatK enc 2 l.toArray = (flat l).toArray := by
  apply Array.ext
  · rw [size_flatK]; simp [flat_len]
  · intro t h1 h2
    rw [size_flatK] at h1
    have h1' : t < l.length * 2 := by simpa using h1
    have e := get_flatK enc 2 l.toArray t h1
    rw [getElem!_pos _ t (by rw [size_flatK]; exact h1)] at e
    rw [e]
    have hd : t / 2 < l.length := by omega
    have hg := flat_get l (t / 2) hd
    rw [getElem!_pos l.toArray (t / 2) (by simpa using hd)]
    rw [List.getElem_toArray, List.getElem_toArray]
    rcases (show t % 2 = 0 ∨ t % 2 = 1 by omega) with h | h
    · have ht : t = t / 2 * 2 := by omega
      have h3 : (flat l)[t]? = some (.int .i64 l[t / 2].1) := by
        have := hg.1; rw [← ht] at this; exact this
      rw [List.getElem?_eq_getElem (by rw [flat_len]; exact h1')] at h3
      rw [h, Option.some.inj h3]; rfl
    · have ht : t = t / 2 * 2 + 1 := by omega
      have h3 : (flat l)[t]? = some (.int .i64 l[t / 2].2) := by
        have := hg.2; rw [← ht] at this; exact this
      rw [List.getElem?_eq_getElem (by rw [flat_len]; exact h1')] at h3
      rw [h, Option.some.inj h3]; rfl
/-- DOWN: where a row of the call's own lies. -/
theorem holds_of_own {w : World} {base g n cap : Nat} {l : List Dg.D} (h : w.ownsRow base 25 2 (.slice (some ⟨g, 0, none⟩) n cap) n (flat l)) :
    HoldsK enc 2 w g 0 l.toArray ∧ base ≤ g ∧ g < w.heap.size ∧ l.length = n ∧ n ≤ cap ∧ cap ≤ maxLen := by
  have hl : l.length = n := by have := h.1; rw [flat_len] at this; omega
  rcases h.2 with ⟨e0, _⟩ | ⟨g', cap', cur, e0, hb, hg, hn, hm, hs, ht⟩
  · cases e0
  · injection e0 with e1 _ e3
    injection e1 with e1
    injection e1 with e1
    subst e1; subst e3
    have hlt : g < w.heap.size := by
      rcases Nat.lt_or_ge g w.heap.size with h' | h'
      · exact h'
      · rw [Array.getElem?_eq_none h'] at hg; cases hg
    refine ⟨?_, hb, hlt, hl, hn, hm⟩
    unfold HoldsK
    rw [flatK_flat]
    intro j hj
    have hj' : j < n * 2 := by have := flat_len l; simp at hj; omega
    refine ⟨?_, by simp [World.frozen?, hg]⟩
    have e1 : (cur.toList.take (n * 2))[j]? = (flat l)[j]? := by rw [ht]
    rw [List.getElem?_take, if_pos hj', Array.getElem?_toList] at e1
    simp only [World.cell?, hg, Nat.zero_add]
    simp only [Option.isSome_none, Bool.false_eq_true, if_false]
    rw [e1, List.getElem?_eq_getElem (by rw [flat_len]; omega)]
    simp [getElem!_pos, flat_len, show j < l.length * 2 by omega]
/-- UP: behind a walk in the sort's words the slice, cut to its first m elements, owns them. -/
theorem own_putRow {w : World} {base g n cap q m : Nat} {l ys : List Dg.D} (h : w.ownsRow base 25 2 (.slice (some ⟨g, 0, none⟩) n cap) n (flat l)) (hy : ys.length = n) (hm' : m ≤ n) :
    (putRowK enc 2 (Sort.ahead w q) g 0 ys.toArray).ownsRow base 25 2 (.slice (some ⟨g, 0, none⟩) m cap) m (flat (ys.take m)) := by
  rcases h.2 with ⟨e0, _⟩ | ⟨g', cap', cur, e0, hb, hg, hn, hm, hs, ht⟩
  · cases e0
  · injection e0 with e1 _ e3
    injection e1 with e1
    injection e1 with e1
    subst e1; subst e3
    unfold putRowK
    rw [flatK_flat]
    have hfl := flat_len ys
    refine ⟨by rw [flat_len, List.length_take]; omega, .inr ⟨g, cap, putCells id 0 (flat ys).toArray cur, rfl, hb, ?_, by omega, hm, by simpa [putCells] using hs, ?_⟩⟩
    · simp [putRow, mapBlock, Sort.ahead, Array.getElem?_modify, hg, onCells]
    · rw [flat_take]
      apply List.ext_getElem?
      intro j
      rw [List.getElem?_take, List.getElem?_take, Array.getElem?_toList]
      by_cases hj : j < m * 2
      · have hjc : j < cur.size := by omega
        have hjf : j < (flat ys).length := by omega
        simp only [if_pos hj, putCells, Array.getElem?_mapIdx, Array.getElem?_eq_getElem hjc, Option.map_some]
        rw [if_pos (by simp; omega), List.getElem?_eq_getElem hjf]
        simp [getElem!_pos, hjf]
      · simp [hj]
theorem below_putRowK {B : Nat} {w0 w : World} {g q : Nat} {d : Array Dg.D} (h : Below B w0 w) (hg : B ≤ g) : Below B w0 (putRowK enc 2 (Sort.ahead w q) g 0 d) := below_putRow h hg
/-- A row that is held may be read. -/
theorem rd_of_holds {w : World} {g : Nat} {l : List Dg.D} (h : HoldsK enc 2 w g 0 l.toArray) : Rd w (some ⟨g, 0, none⟩) l := fun i hi => by
  have hi' : i < l.toArray.size := by simpa using hi
  have h0 := (h.cell hi' (c := 0) (by omega)).1
  have h1 := (h.cell hi' (c := 1) (by omega)).1
  rw [getElem!_pos l.toArray i hi', List.getElem_toArray] at h0 h1
  refine ⟨_, rfl, ?_, ?_⟩
  · rw [Addr.add_lit]; simpa [enc] using h0
  · rw [Addr.add_lit]; simpa [enc] using h1
theorem rd_of_own {w : World} {base n : Nat} {v : Value} {l : List Dg.D} (h : w.ownsRow base 25 2 v n (flat l)) : ∃ A c, v = .slice A l.length c ∧ l.length = n ∧ Rd w A l := by
  have hl : l.length = n := by have := h.1; rw [flat_len] at this; omega
  rcases h.2 with ⟨rfl, h0⟩ | ⟨g, cap, cur, rfl, _⟩
  · exact ⟨none, 0, by rw [hl, h0], hl, fun i hi => by omega⟩
  · exact ⟨_, cap, by rw [hl], hl, rd_of_holds (holds_of_own h).1⟩
/-- The address of a row that is read, where it has an element. -/
theorem Rd.at0 {w : World} {A : Option Addr} {l : List Dg.D} (h : Rd w A l) (hl : 0 < l.length) : ∃ b off, A = some ⟨b, off, none⟩ := by
  obtain ⟨ad, e, h0, _⟩ := h 0 hl
  obtain ⟨b, off, sp⟩ := ad
  cases sp with
  | none => exact ⟨b, off, e⟩
  | some x =>
    exfalso
    rw [show (⟨b, off, some x⟩ : Addr).add (0 * 2) = ⟨b, off, some x⟩ from rfl] at h0
    simp [World.cell?] at h0
    split at h0 <;> cases h0
theorem Rd.cells {w : World} {b off : Nat} {l : List Dg.D} (h : Rd w (some ⟨b, off, none⟩) l) : ∀ j u, (flat l)[j]? = some u → w.cell? ⟨b, off + j, none⟩ = some u := by
  intro j u hj
  have hjl : j < l.length * 2 := by have := (List.getElem?_eq_some_iff.1 hj).1; rwa [flat_len] at this
  obtain ⟨ad, e, h0, h1⟩ := h (j / 2) (by omega)
  obtain rfl := Option.some.inj e
  rw [Addr.add_lit] at h0 h1
  have hg := flat_get l (j / 2) (by omega)
  rcases (show j % 2 = 0 ∨ j % 2 = 1 by omega) with hm | hm
  · have ht : j / 2 * 2 = j := by omega
    rw [ht] at h0 hg
    rw [hg.1] at hj
    rw [h0, ← hj]
  · have ht : j / 2 * 2 + 1 = j := by omega
    rw [ht] at hg
    rw [hg.2] at hj
    simp only [Nat.add_assoc, ht] at h1
    rw [h1, ← hj]

/-! Clone. -/
theorem info25 : (Tryd.prog.info? 25).map (fun i => (i.zero, i.size, i.bytes)) = some (some (.agg #[(.int .i64 0), (.int .i64 0)]), 2, 16) := by kernel_rfl
set_option maxRecDepth 100000 in
set_option maxHeartbeats 1000000 in
theorem clone_empty (A : Option Addr) (c : Nat) (w : World) : Calls Tryd.prog 23 #[.slice A 0 c] w fun e w' => ∃ v, e = .returned v ∧ w'.ownsRow w.heap.size 25 2 v 0 (flat []) ∧ Below w.heap.size w w' := by
  cases A with
  | none =>
    refine (AnyE.slices_Clone_nil Tryd.laysClone 0 c w).mono ?_
    rintro e w' ⟨rfl, rfl⟩
    exact ⟨_, rfl, World.ownsRow_nil _ _ _ _, Below.refl _ _⟩
  | some ad =>
    obtain ⟨i0, hi, hz0, hz1, hz2⟩ := info_parts info25
    have q22 : ∀ (w : World) (a : Option Addr) (n c n' c' : Nat), (binOp .eql 22 (.slice a n c) (.slice none n' c')).run Tryd.prog w = .ok (.bool a.isNone) w := fun w a n c n' c' => Lib.run_eql_slice_nil w _ _ a n c n' c' Tryd.underlying22
    go_enter Tryd.func23, Tryd.ntmps23
    go_wp2_with (at_builtin; refine wpList_append_own _ rfl _ _ 22 rfl w.heap.size 25 i0 (.agg #[.int .i64 0, .int .i64 0]) 2 16 Tryd.underlying22 hi hz0 hz1 hz2 rfl (by decide) _ _ _ rfl (World.ownsRow_made w #[] 0 (Nat.le_refl _) (Nat.zero_le _) (by simp)) ad 0 c [] rfl (by rfl) (fun j u hj => by simp at hj) (fun u hu => by cases hu) (by simp) (by simp) (by simp) ?_)
    intro v' w1 hown hgrow hnil
    go_wp2
    go_ret
    exact ⟨v', rfl, by simpa [flat] using hown, ((Below.refl _ w).alloc (Nat.le_refl _) _).grown hgrow (by simp) (by intro k hk; simp [Value.ownBlock] at hk; omega)⟩
theorem clone_calls (A : Option Addr) (c : Nat) (l : List Dg.D) (w : World) (hlen : l.length ≤ 1000000000) (hr : Rd w A l) :
    Calls Tryd.prog 23 #[.slice A l.length c] w fun e w' => ∃ v, e = .returned v ∧ w'.ownsRow w.heap.size 25 2 v l.length (flat l) ∧ Below w.heap.size w w' := by
  by_cases h0 : l.length = 0
  · have := clone_empty A c w
    rw [List.length_eq_zero_iff.1 h0]
    exact this
  · obtain ⟨b, off, rfl⟩ := hr.at0 (by omega)
    obtain ⟨i0, hi, hz0, hz1, hz2⟩ := info_parts info25
    have zof : ∀ w, (Go.sizeOf 25).run Tryd.prog w = .ok 2 w := fun w => by first | exact Tryd.sizeOf25 w | (simp [Go.sizeOf, hi, hz1])
    refine (AnyE.slices_Clone Tryd.laysClone i0 (.agg #[.int .i64 0, .int .i64 0]) 2 16 hi hz0 hz1 hz2 rfl (by decide) zof b off l.length c (flat l) w (flat_len l) (by simp only [maxLen]; omega) (by omega) hr.cells (flat_one l)).mono ?_
    rintro e w' ⟨v, rfl, ho, _, hb⟩
    exact ⟨v, rfl, ho, hb⟩
end Go.Proofs.YtgphciopondlaaaDoor
