/- Insert of one diagnostic where there is room, walked by hand. Conditions: lists of at most 1000000000, of the call's own. -/
import Derived.Test.YtgphciopondlaaaDoorGivenF
import Derived.Deep.RegionLaw
namespace Go.Proofs.YtgphciopondlaaaDoor
set_option linter.unusedVariables false
set_option linter.unusedSimpArgs false
open Go.RowKit Go.Sort Go.Lib Go.Proofs.YtgphciopondlaaaDoor.PAll Go.Proofs.YtgphciopondlaaaDoorW.PrintWords Go.Proofs.YtgphciopondlaaaDoorW.PrintLast

/-- The cells behind the shift and the store. -/
def shifted (F : Array Value) (l : List Dg.D) (d : Dg.D) (i : Nat) : Array Value := setMany (setMany F ((i + 1) * 2) (flat (l.drop i))) (i * 2) (enc d)
theorem shifted_size (F : Array Value) (l : List Dg.D) (d : Dg.D) (i : Nat) : (shifted F l d i).size = F.size := by unfold shifted; rw [size_setMany, size_setMany]
theorem shifted_is (F : Array Value) (l : List Dg.D) (d : Dg.D) (i : Nat) (hi : i ≤ l.length) (hF : (l.length + 1) * 2 ≤ F.size) (ht : F.toList.take (i * 2) = flat (l.take i)) :
    (shifted F l d i).toList.take ((l.length + 1) * 2) = flat (l.take i ++ d :: l.drop i) := by
  have hdl : (flat (l.drop i)).length = (l.length - i) * 2 := by rw [flat_len, List.length_drop]
  have htl : (flat (l.take i)).length = i * 2 := by rw [flat_len, List.length_take, Nat.min_eq_left hi]
  have hfa : flat (l.take i ++ d :: l.drop i) = flat (l.take i) ++ (enc d ++ flat (l.drop i)) := by simp [flat]
  have hel : (enc d).length = 2 := rfl
  apply List.ext_getElem?
  intro t
  rw [List.getElem?_take]
  by_cases htn : t < (l.length + 1) * 2
  · rw [if_pos htn, Array.getElem?_toList]
    have hts : t < F.size := by omega
    have e1 := get_setMany (enc d) (i * 2) (setMany F ((i + 1) * 2) (flat (l.drop i))) t (by rw [size_setMany]; exact hts)
    have e2 := get_setMany (flat (l.drop i)) ((i + 1) * 2) F t hts
    have hsz : (setMany (setMany F ((i + 1) * 2) (flat (l.drop i))) (i * 2) (enc d)).size = F.size := by rw [size_setMany, size_setMany]
    rw [getElem!_pos _ t (by rw [hsz]; exact hts)] at e1
    unfold shifted
    rw [Array.getElem?_eq_getElem (by rw [hsz]; exact hts)]
    rw [e1, e2, hfa, hel, hdl]
    by_cases hA : t < i * 2
    · rw [if_neg (by omega), if_neg (by omega), List.getElem?_append_left (by omega), getElem!_pos F t hts, ← ht, List.getElem?_take, if_pos hA, Array.getElem?_toList, Array.getElem?_eq_getElem hts]
    · rw [List.getElem?_append_right (by omega), htl]
      by_cases hB : t < i * 2 + 2
      · rw [if_pos (by omega), List.getElem?_append_left (by omega), getElem!_pos (enc d) (t - i * 2) (by omega), List.getElem?_eq_getElem (by omega)]
      · rw [if_neg (by omega), if_pos (by omega), List.getElem?_append_right (by omega), hel, getElem!_pos (flat (l.drop i)) (t - (i + 1) * 2) (by omega), List.getElem?_eq_getElem (by omega)]
        simp only [show t - i * 2 - 2 = t - (i + 1) * 2 by omega]
  · rw [if_neg htn, List.getElem?_eq_none (by rw [hfa, List.length_append, List.length_append, hel, hdl, htl]; omega)]
set_option maxRecDepth 100000 in
set_option maxHeartbeats 4000000 in
theorem insert_room (g c base vb i : Nat) (cur : Array Value) (l : List Dg.D) (d : Dg.D) (w : World) (hlen : l.length ≤ 1000000000) (hg : w.heap[g]? = some (.cells cur 25 (0, 0))) (hb : base ≤ g) (hs : cur.size = c * 2) (hm : c ≤ maxLen) (hroom : l.length + 1 ≤ c) (ht : cur.toList.take (l.length * 2) = flat l)
    (hi : i < l.length) (hvg : vb ≠ g) (hv : w.heap[vb]? = some (.cells #[.int .i64 d.1, .int .i64 d.2] 25 (0, 0))) :
    Calls Tryd.prog 26 #[.slice (some ⟨g, 0, none⟩) l.length c, .int .i64 i, .slice (some ⟨vb, 0, none⟩) 1 1] w fun e w' => ∃ v, e = .returned v ∧ w'.ownsRow base 25 2 v (l.length + 1) (flat (l.take i ++ d :: l.drop i)) ∧ Below base w w' := by
  obtain ⟨n, hn⟩ : ∃ n, l.length = n := ⟨_, rfl⟩
  have hov : ∀ lb cb, (callFunc 36 #[.slice (some ⟨vb, 0, none⟩) 1 1, .slice (some ⟨g, (i + 1) * 2, none⟩) lb cb]).run Tryd.prog w = .ok (.value (.bool false)) w := fun lb cb => by
    rw [run_callFunc_extern Tryd.func36 (by kernel_rfl) (by kernel_rfl) (by kernel_rfl) (e := Extern.SlicesOverlaps.overlaps #[22, 22] #[4]) (by kernel_rfl),
      Lib.run_overlaps_apart w 22 4 25 Tryd.underlying22 2 (fun w => Tryd.sizeOf25 w) ⟨vb, 0, none⟩ ⟨g, (i + 1) * 2, none⟩ 1 1 lb cb hvg 25 25 2 cur.size (by simp [World.shape?, hv]) (by simp [World.shape?, hg]) (by omega) (by simp [World.frozen?, hv]) (by simp [World.frozen?, hv])]
    rfl
  have HN := Aside0.mk hn
  have HT := Aside0.mk ht
  have HG := Aside0.mk hg
  have HV := Aside0.mk hv
  rw [hn] at hlen hroom hi ⊢
  clear hg hv hn ht
  have mixed := mixed_
  have hz1 : ¬ ((i : Int) = (n : Int)) := by omega
  have hz2 : ¬ ((c : Int) < (n : Int) + 1) := by omega
  have hb1 : (0 : Int) ≤ (i : Int) + 1 := by omega
  have htn : ((i : Int) + 1).toNat = i + 1 := by omega
  have hb2 : ¬ (c = i + 1) := by omega
  have hb4 : ¬ (c = i) := by omega
  have hb3 : (i : Int) ≤ (n : Int) + 1 := by omega
  have hb5 : (i : Int) + 1 ≤ (n : Int) + 1 := by omega
  have hc63 : c ≤ 9223372036854775807 := by unfold maxLen at hm; omega
  have hin : i ≤ n := by omega
  go_enter Tryd.func26, Tryd.ntmps26
  go_wp2_with (simp only [hov])
  clear hov
  have hdl : (flat (l.drop i)).length = (n - i) * 2 := by rw [flat_len, List.length_drop, HN.out]
  have hlt : g < w.heap.size := by
    rcases Nat.lt_or_ge g w.heap.size with h' | h'
    · exact h'
    · have := HG.out; rw [Array.getElem?_eq_none h'] at this; cases this
  have hcell : ∀ j, j < c * 2 → (w.cell? ⟨g, j, none⟩).isSome = true := fun j hj => by
    simp only [World.cell?, HG.out]; simp; omega
  have hfrz : ∀ j, w.frozen? ⟨g, j, none⟩ = false := fun j => by simp [World.frozen?, HG.out]
  have hsrc : ∀ j v, (flat (l.drop i))[j]? = some v → w.cell? ⟨g, i * 2 + j, none⟩ = some v := fun j v hj => by
    have hjl : j < (n - i) * 2 := by have := (List.getElem?_eq_some_iff.1 hj).1; rwa [hdl] at this
    have e : flat (l.drop i) = (flat l).drop (i * 2) := by
      have := flat_append (l.take i) (l.drop i)
      rw [List.take_append_drop] at this
      rw [this, List.drop_left' (by rw [flat_len, List.length_take, HN.out]; omega)]
    rw [e, List.getElem?_drop, ← HT.out, List.getElem?_take, if_pos (by rw [HN.out]; omega), Array.getElem?_toList] at hj
    simp only [World.cell?, HG.out]; simpa using hj
  have hcp1 : ∀ ty dc sc, (Builtin.copy_ #[22, 22] ty #[.slice (some ⟨g, (i + 1) * 2, none⟩) (n - i) dc, .slice (some ⟨g, i * 2, none⟩) (n + 1 - i) sc]).run Tryd.prog w.drew = .ok (goInt (Nat.min (n + 1 - i) (n - i))) (w.drew.setCells g ((i + 1) * 2) (flat (l.drop i))) := fun ty dc sc =>
    run_copy_two w.drew ty g ((i + 1) * 2) (n - i) dc ⟨g, i * 2, none⟩ (n + 1 - i) sc (flat (l.drop i)) (by rw [hdl]; simp only [Nat.min_def]; split <;> omega)
      (fun j v hj => by rw [Addr.add_lit]; exact hsrc j v hj) (fun j hj => hcell _ (by omega)) (fun j hj => hfrz _) (flat_one _)
  obtain ⟨W1, hW1⟩ : ∃ W1, w.drew.setCells g ((i + 1) * 2) (flat (l.drop i)) = W1 := ⟨_, rfl⟩
  rw [hW1] at hcp1
  have hin1 : ∀ j, j < c * 2 → (W1.cell? ⟨g, j, none⟩).isSome = true := fun j hj => by
    rw [← hW1]
    exact isSome_setCells g (flat (l.drop i)) ((i + 1) * 2) w.drew (fun t ht => hcell _ (by rw [hdl] at ht; omega)) j (hcell j hj)
  have hcp2 : ∀ ty dc, (Builtin.copy_ #[22, 22] ty #[.slice (some ⟨g, i * 2, none⟩) (n + 1 - i) dc, .slice (some ⟨vb, 0, none⟩) 1 1]).run Tryd.prog W1 = .ok (goInt (Nat.min 1 (n + 1 - i))) (W1.setCells g (i * 2) (enc d)) := fun ty dc =>
    run_copy_two W1 ty g (i * 2) (n + 1 - i) dc ⟨vb, 0, none⟩ 1 1 (enc d) (by show 2 = _; simp only [Nat.min_def]; split <;> omega)
      (fun j v hj => by
        rw [Addr.add_lit, ← hW1, World.cell?_setCells_out g _ _ _ _ (fun h _ => absurd h hvg)]
        simp only [World.drew, World.cell?, HV.out]
        match j, hj with
        | 0, hj => simp [enc] at hj; subst hj; rfl
        | 1, hj => simp [enc] at hj; subst hj; rfl
        | j + 2, hj => simp [enc] at hj)
      (fun j hj => hin1 _ (by have : j < 2 := hj; omega)) (fun j hj => by rw [← hW1, World.frozen?_setCells]; exact hfrz _) (by intro u hu; simp [enc] at hu; rcases hu with rfl | rfl <;> rfl)
  have hfin : (W1.setCells g (i * 2) (enc d)).ownsRow base 25 2 (.slice (some ⟨g, 0, none⟩) (n + 1) c) (n + 1) (flat (l.take i ++ d :: l.drop i)) ∧ Below base w (W1.setCells g (i * 2) (enc d)) := by
    have hH : Holds id w.drew g 0 cur := fun j hj => by
      refine ⟨?_, ?_⟩
      · simp only [World.drew, World.cell?, HG.out]; simp [getElem!_pos, hj]
      · have := hfrz (0 + j); exact this
    have hself := putRow_self id w.drew g 0 cur hH
    have h1 := setCells_putRow w.drew g 0 (flat (l.drop i)) ((i + 1) * 2) cur (by rw [hdl]; omega)
    rw [hself, Nat.zero_add, hW1] at h1
    have h2 := setCells_putRow w.drew g 0 (enc d) (i * 2) (setMany cur ((i + 1) * 2) (flat (l.drop i))) (by rw [size_setMany]; show i * 2 + 2 ≤ _; omega)
    rw [← h1, Nat.zero_add] at h2
    rw [h2]
    have ho := own_cells (w := w.drew) (base := base) (cap := c) (m := n + 1) (F := shifted cur l d i) HG.out hb hs hm (by rw [shifted_size]; exact Nat.le_refl _) (by rw [shifted_size]; omega)
    have hsi := shifted_is cur l d i (by rw [HN.out]; omega) (by rw [HN.out]; omega) (by
      rw [flat_take, ← HT.out, List.take_take, Nat.min_eq_left (by rw [HN.out]; omega)])
    rw [HN.out] at hsi
    rw [hsi] at ho
    exact ⟨ho, below_putRow (enc := id) (q := 1) (Below.refl base w) hb⟩
  have HF := Aside0.mk hfin
  replace hcp1 := Aside0.mk hcp1
  replace hcp2 := Aside0.mk hcp2
  clear hfin hin1 hW1 hsrc hfrz hcell hdl
  have hw1 : IntKind.i64.wrap ((i : Int) + 1) = (i : Int) + 1 := k64 _ (by omega) (by omega)
  refine wp_region_still_tail 8 (by kernel_rfl) (by kernel_rfl) ?_
  change wpStill _ _ w.drew (fun a' => wpList _ _ _ _ a' w.drew) _ _
  simp only [List.take_succ_cons, List.take_zero, List.drop_succ_cons, List.drop_zero]
  repeat still_step
  refine wpStill_nil ?_
  refine wpList_copy_runI _ rfl _ _ 22 22 rfl _ _ rfl rfl (hcp1.out _ _ _) ?_
  clear hw1
  go_wp2_with (with_reducible refine wpList_copy_runI _ rfl _ _ 22 22 rfl _ _ rfl rfl (hcp2.out _ _) ?_)
  go_ret
  exact ⟨_, rfl, HF.out⟩
end Go.Proofs.YtgphciopondlaaaDoor
