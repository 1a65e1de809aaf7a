/- Insert of one diagnostic, walked by hand. Conditions: lists of at most 1000000000, of the call's own. -/
import Derived.Test.YtgphciopondlaaaDoorGivenE
import Derived.Lib.AppendZerosOnto
import Derived.Lib.Overlaps
import Derived.Laws.Externs
import Derived.Laws.IdiomCopy
import Derived.Laws.NewBlocks
import Derived.Shelf.Spec.SlicesInsertGrow
namespace Go.Proofs.YtgphciopondlaaaDoor
set_option linter.unusedVariables false
set_option linter.unusedSimpArgs false
open Go.RowKit Go.Sort Go.Lib Go.Proofs.YtgphciopondlaaaDoor.PAll Go.Proofs.YtgphciopondlaaaDoorW.PrintWords Go.Proofs.YtgphciopondlaaaDoorW.PrintLast

set_option maxRecDepth 100000 in
set_option maxHeartbeats 1000000 in
theorem insert_end (A : Option Addr) (c base vb : Nat) (l : List Dg.D) (d : Dg.D) (w : World) (hlen : l.length ≤ 1000000000) (ho : w.ownsRow base 25 2 (.slice A l.length c) l.length (flat l)) (hbase : base ≤ w.heap.size)
    (hv0 : w.cell? ⟨vb, 0, none⟩ = some (.int .i64 d.1)) (hv1 : w.cell? ⟨vb, 1, none⟩ = some (.int .i64 d.2)) :
    Calls Tryd.prog 26 #[.slice A l.length c, .int .i64 l.length, .slice (some ⟨vb, 0, none⟩) 1 1] w fun e w' => ∃ v, e = .returned v ∧ w'.ownsRow base 25 2 v (l.length + 1) (flat (l ++ [d])) ∧ Below base w w' := by
  obtain ⟨i0, hi, hz0, hz1, hz2⟩ := info_parts info25
  have hO := Aside0.mk ho
  have hC : Aside0 (∀ j u, (enc d)[j]? = some u → w.cell? ((⟨vb, 0, none⟩ : Addr).add j) = some u) := ⟨by
    intro j u hj
    match j, hj with
    | 0, hj => simp [enc] at hj; subst hj; exact hv0
    | 1, hj => simp [enc] at hj; subst hj; rw [Addr.add_lit]; exact hv1
    | j + 2, hj => simp [enc] at hj⟩
  obtain ⟨n, hn⟩ : ∃ n, l.length = n := ⟨_, rfl⟩
  have HN := Aside0.mk hn
  have hcn : n ≤ c := by
    rcases ho.2 with ⟨e0, h0⟩ | ⟨g, cap, cur, e0, _, _, h1, _⟩
    · injection e0 with _ _ e3; omega
    · injection e0 with _ _ e3; omega
  have hAn : A = none → c = 0 := by
    intro hA
    rcases ho.2 with ⟨e0, h0⟩ | ⟨g, cap, cur, e0, _, _, h1, _⟩
    · injection e0 with _ _ e3
    · injection e0 with e1; rw [hA] at e1; cases e1
  clear ho hv0 hv1
  rw [hn] at hlen hO ⊢
  clear hn
  have hfin : ∀ v w1, w1.ownsRow base 25 2 v (n + 1) (flat l ++ enc d) → w.grownBy w1 (Value.slice A n c).ownBlock → w1.ownsRow base 25 2 v (n + 1) (flat (l ++ [d])) ∧ Below base w w1 := by
    intro v w1 h1 h2
    refine ⟨by rw [flat_append]; simpa [flat] using h1, (Below.refl base w).grown h2 hbase ?_⟩
    intro k hk
    rcases hO.out.2 with ⟨e0, h0⟩ | ⟨g, cap, cur, e0, hb, _⟩
    · injection e0 with e1; rw [e1] at hk; simp [Value.ownBlock] at hk
    · injection e0 with e1; rw [e1] at hk; simp [Value.ownBlock] at hk; omega
  replace hfin := Aside0.mk hfin
  have hbl : (enc d).length = 1 * 2 := rfl
  by_cases hcn' : c = n
  · subst hcn'
    go_enter Tryd.func26, Tryd.ntmps26
    go_wp2_with (at_builtin; refine wpList_append_own _ rfl _ _ 22 rfl base 25 i0 (.agg #[.int .i64 0, .int .i64 0]) 2 16 Tryd.underlying22 hi hz0 hz1 hz2 rfl (by decide) _ _ _ rfl hO.out ⟨vb, 0, none⟩ 1 1 (enc d) rfl hbl hC.out (by intro u hu; simp [enc] at hu; rcases hu with rfl | rfl <;> rfl) (by simp only [maxLen]; omega) (by omega) hbase ?_)
    intro v' w1 hown hgrow hnil
    go_wp2
    go_ret
    exact ⟨v', rfl, hfin.out v' w1 hown hgrow⟩
  · have hcn2 : ¬ ((c : Int) = (n : Int)) := by omega
    go_enter Tryd.func26, Tryd.ntmps26
    go_wp2_with (at_builtin; refine wpList_append_own _ rfl _ _ 22 rfl base 25 i0 (.agg #[.int .i64 0, .int .i64 0]) 2 16 Tryd.underlying22 hi hz0 hz1 hz2 rfl (by decide) _ _ _ rfl hO.out ⟨vb, 0, none⟩ 1 1 (enc d) rfl hbl hC.out (by intro u hu; simp [enc] at hu; rcases hu with rfl | rfl <;> rfl) (by simp only [maxLen]; omega) (by omega) hbase ?_)
    intro v' w1 hown hgrow hnil
    go_wp2
    go_ret
    exact ⟨v', rfl, hfin.out v' w1 hown hgrow⟩

/-- A row of cells, laid: the slice owns it. -/
theorem own_cells {w : World} {base g cap m : Nat} {cur F : Array Value} (hg : w.heap[g]? = some (.cells cur 25 (0, 0))) (hb : base ≤ g) (hs : cur.size = cap * 2) (hm : cap ≤ maxLen) (hF : F.size ≤ cur.size) (hmF : m * 2 ≤ F.size) :
    (putRow id w g 0 F).ownsRow base 25 2 (.slice (some ⟨g, 0, none⟩) m cap) m (F.toList.take (m * 2)) := by
  refine ⟨by rw [List.length_take]; simp; omega, .inr ⟨g, cap, putCells id 0 F cur, rfl, hb, ?_, by omega, hm, by simpa [putCells] using hs, ?_⟩⟩
  · simp [putRow, mapBlock, Array.getElem?_modify, hg, onCells]
  · apply List.ext_getElem?
    intro j
    rw [List.getElem?_take, List.getElem?_take, Array.getElem?_toList, Array.getElem?_toList]
    by_cases hj : j < m * 2
    · have hjc : j < cur.size := by omega
      have hjf : j < F.size := by omega
      simp only [if_pos hj, putCells, Array.getElem?_mapIdx, Array.getElem?_eq_getElem hjc, Option.map_some]
      rw [if_pos (by simp; omega), Array.getElem?_eq_getElem hjf]
      simp [getElem!_pos, hjf]
    · simp [hj]
theorem run_copy_two (w : World) (ty : TypeId) (b o dLen dCap : Nat) (a : Addr) (sLen sCap : Nat) (cs : List Value) (hn : cs.length = Nat.min sLen dLen * 2)
    (hsrc : ∀ j v, cs[j]? = some v → w.cell? (a.add j) = some v) (hc : ∀ j, j < cs.length → (w.cell? ⟨b, o + j, none⟩).isSome = true) (hf : ∀ j, j < cs.length → w.frozen? ⟨b, o + j, none⟩ = false) (h1 : ∀ v ∈ cs, v.oneCell' = true) :
    (Builtin.copy_ #[22, 22] ty #[.slice (some ⟨b, o, none⟩) dLen dCap, .slice (some a) sLen sCap]).run Tryd.prog w = .ok (goInt (Nat.min sLen dLen)) (w.setCells b o cs) := by
  have hl := run_loadCells_list (P := Tryd.prog) w a cs hsrc
  have hst := run_storeCells_cells (P := Tryd.prog) b o cs 0 w (by simpa using hc) (by simpa using hf) h1
  obtain ⟨i0, hq, _, hi, _⟩ := info_parts info25
  simp [Builtin.copy_, run_underlying Tryd.underlying22, Builtin.lenOf, Builtin.firstCells, sizeOf, typeInfo, hq, hi, ← hn, hl, hst]
end Go.Proofs.YtgphciopondlaaaDoor
