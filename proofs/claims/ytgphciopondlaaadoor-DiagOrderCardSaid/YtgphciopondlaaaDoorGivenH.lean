/- Insert of one diagnostic where there is no room, walked by hand, and all three roads together. Conditions: lists of at most 1000000000, of the call's own. -/
import Derived.Test.YtgphciopondlaaaDoorGivenG
namespace Go.Proofs.YtgphciopondlaaaDoor
set_option linter.unusedVariables false
set_option linter.unusedSimpArgs false
open Go.RowKit Go.Sort Go.Lib Go.Proofs.YtgphciopondlaaaDoor.PAll Go.Proofs.YtgphciopondlaaaDoorW.PrintWords Go.Proofs.YtgphciopondlaaaDoorW.PrintLast

/-- The cells behind the store and the copy. -/
def placed (F : Array Value) (l : List Dg.D) (d : Dg.D) (i : Nat) : Array Value := setMany (setMany F (i * 2) (enc d)) ((i + 1) * 2) (flat (l.drop i))
theorem placed_size (F : Array Value) (l : List Dg.D) (d : Dg.D) (i : Nat) : (placed F l d i).size = F.size := by unfold placed; rw [size_setMany, size_setMany]
theorem placed_eq (F : Array Value) (l : List Dg.D) (d : Dg.D) (i : Nat) (hi : i ≤ l.length) (hF : (l.length + 1) * 2 ≤ F.size) : placed F l d i = shifted F l d i := by
  have hdl : (flat (l.drop i)).length = (l.length - i) * 2 := by rw [flat_len, List.length_drop]
  have hel : (enc d).length = 2 := rfl
  apply Array.ext
  · rw [placed_size, shifted_size]
  · intro t h1 h2
    have hts : t < F.size := by rw [placed_size] at h1; exact h1
    have e1 := get_setMany (flat (l.drop i)) ((i + 1) * 2) (setMany F (i * 2) (enc d)) t (by rw [size_setMany]; exact hts)
    have e2 := get_setMany (enc d) (i * 2) F t hts
    have e3 := get_setMany (enc d) (i * 2) (setMany F ((i + 1) * 2) (flat (l.drop i))) t (by rw [size_setMany]; exact hts)
    have e4 := get_setMany (flat (l.drop i)) ((i + 1) * 2) F t hts
    have g1 : (placed F l d i)[t] = (placed F l d i)[t]! := (getElem!_pos _ t h1).symm
    have g2 : (shifted F l d i)[t] = (shifted F l d i)[t]! := (getElem!_pos _ t h2).symm
    rw [g1, g2]
    unfold placed shifted
    rw [e1, e2, e3, e4, hel, hdl]
    by_cases hA : i * 2 ≤ t ∧ t < i * 2 + 2
    · rw [if_neg (by omega), if_pos hA, if_pos hA]
    · rw [if_neg hA, if_neg hA]
set_option maxRecDepth 100000 in
set_option maxHeartbeats 4000000 in
theorem insert_grow (g c base vb i : Nat) (cur : Array Value) (l : List Dg.D) (d : Dg.D) (w : World) (hlen : l.length ≤ 1000000000) (hg : w.heap[g]? = some (.cells cur 25 (0, 0))) (hbase : base ≤ w.heap.size) (hs : cur.size = c * 2) (hroom : c = l.length) (ht : cur.toList.take (l.length * 2) = flat l)
    (hi : i < l.length) (hv : w.heap[vb]? = some (.cells #[.int .i64 d.1, .int .i64 d.2] 25 (0, 0))) :
    Calls Tryd.prog 26 #[.slice (some ⟨g, 0, none⟩) l.length c, .int .i64 i, .slice (some ⟨vb, 0, none⟩) 1 1] w fun e w' => ∃ v, e = .returned v ∧ w'.ownsRow base 25 2 v (l.length + 1) (flat (l.take i ++ d :: l.drop i)) ∧ Below base w w' := by
  obtain ⟨n, hn⟩ : ∃ n, l.length = n := ⟨_, rfl⟩
  obtain ⟨i0, hi0, hz0, hz1, hz2⟩ := info_parts info25
  have mixed := mixed_
  rw [hn] at hroom
  subst hroom
  have hlt : ∀ b, (∃ o : Obj, w.heap[b]? = some o) → b < w.heap.size := fun b ⟨o, h⟩ => by
    rcases Nat.lt_or_ge b w.heap.size with h' | h'
    · exact h'
    · rw [Array.getElem?_eq_none h'] at h; cases h
  have hgw := hlt g ⟨_, hg⟩
  have hvw := hlt vb ⟨_, hv⟩
  have hcell : ∀ j v, (flat l)[j]? = some v → w.cell? ⟨g, j, none⟩ = some v := fun j v hj => by
    have hjl : j < c * 2 := by have := (List.getElem?_eq_some_iff.1 hj).1; rw [flat_len, hn] at this; exact this
    rw [← ht, List.getElem?_take, if_pos (by rw [hn]; exact hjl), Array.getElem?_toList] at hj
    simp only [World.cell?, hg]; simpa using hj
  have htl : (flat (l.take i)).length = i * 2 := by rw [flat_len, List.length_take, hn]; omega
  have hdl : (flat (l.drop i)).length = (c - i) * 2 := by rw [flat_len, List.length_drop, hn]
  have e12 : flat l = flat (l.take i) ++ flat (l.drop i) := by rw [← flat_append, List.take_append_drop]
  have hold : (Builtin.firstCells i0.size i (.slice (some ⟨g, 0, none⟩) i c)).run Tryd.prog w.drew = .ok (flat (l.take i)).toArray w.drew := by
    rw [hz1]
    exact run_firstCells_some w.drew 2 i ⟨g, 0, none⟩ i c (flat (l.take i)) htl (fun j v hj => by
      rw [Addr.add_lit, Nat.zero_add]
      refine hcell j v ?_
      rw [e12, List.getElem?_append_left (by have := (List.getElem?_eq_some_iff.1 hj).1; exact this)]; exact hj)
  have hzc : ∀ k, (Builtin.zeroCells (Value.agg #[.int .i64 0, .int .i64 0]).cells k).size = k * 2 := fun k => by simp [Builtin.zeroCells, Value.cells]
  obtain ⟨G, hG⟩ : ∃ G, G = grownCap w (c + 1) c 25 := ⟨_, rfl⟩
  obtain ⟨ROW, hROW⟩ : ∃ ROW : Array Value, ROW = (flat (l.take i)).toArray ++ Builtin.zeroCells (Value.agg #[.int .i64 0, .int .i64 0]).cells (c + 1 - i) ++ Builtin.zeroCells (Value.agg #[.int .i64 0, .int .i64 0]).cells (G - (c + 1)) := ⟨_, rfl⟩
  have hrz : ∀ ty, (Builtin.append_ #[22, 3] ty #[.slice (some ⟨g, 0, none⟩) i c, .int .i64 ((c : Int) + 1 - (i : Int))]).run Tryd.prog w = .ok (.slice (some ⟨w.heap.size, 0, none⟩) (c + 1) G) (w.drew.alloc (.cells ROW 25)) := fun ty => by
    have hik : i + (c + 1 - i) = c + 1 := by omega
    have hkk : (c : Int) + 1 - (i : Int) = ((c + 1 - i : Nat) : Int) := by omega
    have h := Lib.run_append_grow_zeros w 22 3 ty 25 i0 (.agg #[.int .i64 0, .int .i64 0]) .i64 .i64 Tryd.underlying22 Tryd.underlying3 hi0 hz0 (some ⟨g, 0, none⟩) i c (flat (l.take i)) hold (c + 1 - i) (by omega) (by omega) (by omega) (by omega) (by rw [hz2]; omega) (by rw [hz2, hik]; exact growslice_fits (by omega) (by omega))
    rw [hik, ← hG, ← hROW] at h
    rw [hkk]
    exact h
  have hGn : c + 1 ≤ G := by rw [hG]; exact grownCap_ge w _ _ _
  have hGm : G ≤ maxLen := by
    rw [hG]
    exact grownCap_le_maxLen w (c + 1) c 25 (by unfold maxLen; omega)
  have hRs : ROW.size = G * 2 := by
    rw [hROW, Array.size_append, Array.size_append, hzc, hzc]
    simp only [List.size_toArray]
    rw [htl]; omega
  have hRt : ROW.toList.take (i * 2) = flat (l.take i) := by
    rw [hROW, Array.toList_append, Array.toList_append, List.append_assoc, List.take_left' (by simpa using htl)]
  obtain ⟨W1, hW1⟩ : ∃ W1, w.drew.alloc (.cells ROW 25) = W1 := ⟨_, rfl⟩
  have hWN : W1.heap[w.heap.size]? = some (.cells ROW 25 (0, 0)) := by rw [← hW1]; exact Array.getElem?_push_size
  have hWo : ∀ b, b < w.heap.size → W1.heap[b]? = w.heap[b]? := fun b hb => by rw [← hW1]; exact Below.heap_alloc w.drew _ b hb
  have hBW : Below base w W1 := by rw [← hW1]; exact ((Below.refl base w).drew).alloc hbase _
  rw [hW1] at hrz
  have hcp1 : ∀ ty dc, (Builtin.copy_ #[22, 22] ty #[.slice (some ⟨w.heap.size, i * 2, none⟩) (c + 1 - i) dc, .slice (some ⟨vb, 0, none⟩) 1 1]).run Tryd.prog W1 = .ok (goInt (Nat.min 1 (c + 1 - i))) (W1.setCells w.heap.size (i * 2) (enc d)) := fun ty dc =>
    run_copy_two W1 ty w.heap.size (i * 2) (c + 1 - i) dc ⟨vb, 0, none⟩ 1 1 (enc d) (by show 2 = _; simp only [Nat.min_def]; split <;> omega)
      (fun j v hj => by
        rw [Addr.add_lit]
        simp only [World.cell?, hWo vb hvw, hv]
        match j, hj with
        | 0, hj => simp [enc] at hj; subst hj; rfl
        | 1, hj => simp [enc] at hj; subst hj; rfl
        | j + 2, hj => simp [enc] at hj)
      (fun j hj => by have : j < 2 := hj; simp only [World.cell?, hWN]; simp; omega) (fun j hj => by simp [World.frozen?, hWN]) (by intro u hu; simp [enc] at hu; rcases hu with rfl | rfl <;> rfl)
  obtain ⟨W2, hW2⟩ : ∃ W2, W1.setCells w.heap.size (i * 2) (enc d) = W2 := ⟨_, rfl⟩
  rw [hW2] at hcp1
  have hs1 : ∀ j, j < G * 2 → (W1.cell? ⟨w.heap.size, j, none⟩).isSome = true := fun j hj => by simp only [World.cell?, hWN]; simp; omega
  have hs2 : ∀ j, j < G * 2 → (W2.cell? ⟨w.heap.size, j, none⟩).isSome = true := fun j hj => by
    rw [← hW2]
    exact isSome_setCells w.heap.size (enc d) (i * 2) W1 (fun t ht => hs1 _ (by have : t < 2 := ht; omega)) j (hs1 j hj)
  have hcp2 : ∀ ty dc sc, (Builtin.copy_ #[22, 22] ty #[.slice (some ⟨w.heap.size, (i + 1) * 2, none⟩) (c - i) dc, .slice (some ⟨g, i * 2, none⟩) (c - i) sc]).run Tryd.prog W2.drew = .ok (goInt (Nat.min (c - i) (c - i))) (W2.drew.setCells w.heap.size ((i + 1) * 2) (flat (l.drop i))) := fun ty dc sc =>
    run_copy_two W2.drew ty w.heap.size ((i + 1) * 2) (c - i) dc ⟨g, i * 2, none⟩ (c - i) sc (flat (l.drop i)) (by rw [hdl]; simp only [Nat.min_def]; split <;> omega)
      (fun j v hj => by
        rw [Addr.add_lit]
        show W2.cell? _ = _
        rw [← hW2, World.cell?_setCells_out w.heap.size _ _ _ _ (fun h _ => absurd h (by show g ≠ w.heap.size; omega))]
        have h := hcell (i * 2 + j) v (by rw [e12, List.getElem?_append_right (by omega), htl, show i * 2 + j - i * 2 = j by omega]; exact hj)
        simp only [World.cell?, hWo g hgw] at h ⊢
        exact h)
      (fun j hj => hs2 _ (by omega)) (fun j hj => by show W2.frozen? _ = _; rw [← hW2, World.frozen?_setCells]; simp [World.frozen?, hWN]) (flat_one _)
  have hfin : (W2.drew.setCells w.heap.size ((i + 1) * 2) (flat (l.drop i))).ownsRow base 25 2 (.slice (some ⟨w.heap.size, 0, none⟩) (c + 1) G) (c + 1) (flat (l.take i ++ d :: l.drop i)) ∧ Below base w (W2.drew.setCells w.heap.size ((i + 1) * 2) (flat (l.drop i))) := by
    have hH : Holds id W1 w.heap.size 0 ROW := fun j hj => by
      refine ⟨?_, by simp [World.frozen?, hWN]⟩
      simp only [World.cell?, hWN]; simp [getElem!_pos, hj]
    have hself := putRow_self id W1 w.heap.size 0 ROW hH
    have h1 := setCells_putRow W1 w.heap.size 0 (enc d) (i * 2) ROW (by show i * 2 + 2 ≤ _; omega)
    rw [hself, Nat.zero_add, hW2] at h1
    have hdr : W2.drew = putRow id (Sort.ahead W1 1) w.heap.size 0 (setMany ROW (i * 2) (enc d)) := by rw [h1]; rfl
    have h2 := setCells_putRow (Sort.ahead W1 1) w.heap.size 0 (flat (l.drop i)) ((i + 1) * 2) (setMany ROW (i * 2) (enc d)) (by rw [size_setMany, hdl]; omega)
    rw [← hdr, Nat.zero_add] at h2
    rw [h2]
    have ho := own_cells (w := Sort.ahead W1 1) (base := base) (cap := G) (m := c + 1) (F := placed ROW l d i) hWN hbase hRs hGm (by rw [placed_size]; exact Nat.le_refl _) (by rw [placed_size]; omega)
    have hpe := placed_eq ROW l d i (by omega) (by rw [hn]; omega)
    have hsi := shifted_is ROW l d i (by omega) (by rw [hn]; omega) hRt
    rw [hn] at hsi
    rw [hpe, hsi] at ho
    have hpp : putRow id (Sort.ahead W1 1) w.heap.size 0 (placed ROW l d i) = putRow id (Sort.ahead W1 1) w.heap.size 0 (setMany (setMany ROW (i * 2) (enc d)) ((i + 1) * 2) (flat (l.drop i))) := rfl
    rw [← hpp, hpe]
    exact ⟨ho, below_putRow (enc := id) (q := 1) hBW hbase⟩
  have HF := Aside0.mk hfin
  replace hcp1 := Aside0.mk hcp1
  replace hcp2 := Aside0.mk hcp2
  replace hrz := Aside0.mk hrz
  have hG63 : G ≤ 9223372036854775807 := by unfold maxLen at hGm; omega
  rw [hn] at hlen hi ⊢
  clear hfin hs1 hs2 hW1 hW2 hcell hdl htl e12 hold hzc hG hROW hRs hRt hWN hWo hBW hlt hg hv ht hn hi0 hz0 hz1 hz2 hGm
  have hz1 : ¬ ((i : Int) = (c : Int)) := by omega
  have hz3 : (c : Int) < (c : Int) + 1 := by omega
  have hb1 : (0 : Int) ≤ (i : Int) + 1 := by omega
  have htn : ((i : Int) + 1).toNat = i + 1 := by omega
  have hb2 : ¬ (G = i + 1) := by omega
  have hb4 : ¬ (G = i) := by omega
  have hb6 : ¬ (c = i) := by omega
  have hb3 : (i : Int) ≤ (c : Int) := by omega
  have hb5 : (i : Int) + 1 ≤ (c : Int) + 1 := by omega
  have hin : i ≤ c := by omega
  go_enter Tryd.func26, Tryd.ntmps26
  go_wp2_with (first
    | (at_builtin; refine Lib.wpList_append_run _ rfl _ _ _ _ rfl _ _ rfl rfl _ _ (hrz.out _) ?_)
    | (with_reducible refine wpList_copy_runI _ rfl _ _ 22 22 rfl _ _ rfl rfl (hcp1.out _ _) ?_))
  have hw1 : IntKind.i64.wrap ((i : Int) + 1) = (i : Int) + 1 := k64 _ (by omega) (by omega)
  refine wp_region_still_tail 8 (by kernel_rfl) (by kernel_rfl) ?_
  change wpStill _ _ W2.drew (fun a' => wpList _ _ _ _ a' W2.drew) _ _
  simp only [List.take_succ_cons, List.take_zero, List.drop_succ_cons, List.drop_zero]
  repeat still_step
  refine wpStill_nil ?_
  refine wpList_copy_runI _ rfl _ _ 22 22 rfl _ _ rfl rfl (hcp2.out _ _ _) ?_
  clear hw1
  go_wp2
  go_ret
  exact ⟨_, rfl, HF.out⟩
end Go.Proofs.YtgphciopondlaaaDoor
