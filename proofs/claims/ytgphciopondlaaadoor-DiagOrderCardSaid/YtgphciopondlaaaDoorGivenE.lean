/- Compact at diagnostics, walked by hand. Conditions: lists of at most 1000000000, of the call's own. -/
import Derived.Test.YtgphciopondlaaaDoorGivenD
import Derived.Lib.SlicesCompact
import Derived.Lib.SliceRun
import Derived.Laws.StructEq
import Derived.Shelf.SlicesE.Equal
namespace Go.Proofs.YtgphciopondlaaaDoor
set_option linter.unusedVariables false
set_option linter.unusedSimpArgs false
open Go.RowKit Go.Sort Go.Lib Go.Proofs.YtgphciopondlaaaDoor.PAll Go.Proofs.YtgphciopondlaaaDoorW.PrintWords Go.Proofs.YtgphciopondlaaaDoorW.PrintLast

theorem eq25 (x y : Dg.D) (w : World) : Sem.run Tryd.prog (binOp .eql 25 (.agg #[.int .i64 x.1, .int .i64 x.2]) (.agg #[.int .i64 y.1, .int .i64 y.2])) w = .ok (.bool (decide (x = y))) w := by
  have u3 := Tryd.underlying3
  have a3 := Tryd.isAgg3
  have z3 := Tryd.sizeOf3
  have hS : Tryd.prog.underlying 25 = some (.struct (Tryd.prog.fieldsOf 25)) := by kernel_rfl
  have hp : Tryd.prog.stoodInHeld 25 = false := by kernel_rfl
  rw [run_eql_struct, show (10000 : Nat) = 9999 + 1 from rfl, run_equalIn_agg w 9999 25 _ _ hS hp]
  simp only [Program.fieldsOf, Tryd.underlying25]
  go_simp
  obtain ⟨x1, x2⟩ := x
  obtain ⟨y1, y2⟩ := y
  by_cases h1 : x1 = y1 <;> by_cases h2 : x2 = y2 <;> simp [h1, h2]
theorem neq25 (x y : Dg.D) (w : World) : Sem.run Tryd.prog (binOp .neq 25 (.agg #[.int .i64 x.1, .int .i64 x.2]) (.agg #[.int .i64 y.1, .int .i64 y.2])) w = .ok (.bool (!decide (x = y))) w := by
  have u3 := Tryd.underlying3
  have a3 := Tryd.isAgg3
  have z3 := Tryd.sizeOf3
  have hS : Tryd.prog.underlying 25 = some (.struct (Tryd.prog.fieldsOf 25)) := by kernel_rfl
  have hp : Tryd.prog.stoodInHeld 25 = false := by kernel_rfl
  rw [run_neq_struct, show (10000 : Nat) = 9999 + 1 from rfl, run_equalIn_agg w 9999 25 _ _ hS hp]
  simp only [Program.fieldsOf, Tryd.underlying25]
  go_simp
  obtain ⟨x1, x2⟩ := x
  obtain ⟨y1, y2⟩ := y
  by_cases h1 : x1 = y1 <;> by_cases h2 : x2 = y2 <;> simp [h1, h2]
/-- Element i's two cells of a row that is held. -/
theorem holds_two {w : World} {g : Nat} {d : Array Dg.D} (h : HoldsK enc 2 w g 0 d) (i : Nat) (hi : i < d.size) :
    (w.cell? ⟨g, i * 2, none⟩ = some (.int .i64 d[i]!.1) ∧ w.cell? ⟨g, i * 2 + 1, none⟩ = some (.int .i64 d[i]!.2)) ∧ w.frozen? ⟨g, i * 2, none⟩ = false ∧ w.frozen? ⟨g, i * 2 + 1, none⟩ = false := by
  have h0 := h.cell hi (c := 0) (by omega)
  have h1 := h.cell hi (c := 1) (by omega)
  rw [Nat.zero_add] at h0 h1
  exact ⟨⟨by simpa [enc] using h0.1, by simpa [enc] using h1.1⟩, by simpa using h0.2, by simpa using h1.2⟩
/-- A store of element i. -/
theorem store_two {w wr : World} {n g : Nat} {dk : Array Dg.D} {i : Nat} (hi : i < dk.size) (hwr : wr = putRowK enc 2 (Sort.ahead w n) g 0 dk) (x : Dg.D) :
    ((wr.setCell ⟨g, i * 2, none⟩ (.int .i64 x.1)).setCell ⟨g, i * 2 + 1, none⟩ (.int .i64 x.2)) = putRowK enc 2 (Sort.ahead w n) g 0 (dk.setIfInBounds i x) := by
  have h := setCells_putRow (Sort.ahead w n) g 0 (enc x) (i * 2) (flatK enc 2 dk) (by rw [size_flatK]; simp [enc]; omega)
  have e : ((wr.setCell ⟨g, i * 2, none⟩ (.int .i64 x.1)).setCell ⟨g, i * 2 + 1, none⟩ (.int .i64 x.2)) = wr.setCells g (0 + i * 2) (enc x) := by
    rw [Nat.zero_add]; rfl
  rw [e, hwr]
  unfold putRowK
  rw [h]
  congr 1
  apply Array.ext
  · simp
  · intro t h1 h2
    have ht : t < dk.size * 2 := by simpa using h1
    have e1 := get_setMany (enc x) (i * 2) (flatK enc 2 dk) t (by simpa using ht)
    have e2 := get_flatK enc 2 (dk.setIfInBounds i x) t (by simpa using ht)
    have e3 := get_flatK enc 2 dk t ht
    rw [getElem!_pos _ t h1] at e1
    rw [getElem!_pos _ t h2] at e2
    rw [e1, e2]
    have hl : (enc x).length = 2 := rfl
    rw [hl]
    by_cases hc : i * 2 ≤ t ∧ t < i * 2 + 2
    · rw [if_pos hc]
      have : t / 2 = i := by omega
      rw [this, getElem!_set_same dk i x hi, show t % 2 = t - i * 2 by omega]
    · rw [if_neg hc, e3, getElem!_set_other dk i (t / 2) x (by omega)]
theorem run_clear_two (w : World) (ty : TypeId) (b o n c : Nat) (hn : 0 < n) (hv : ∀ w, (zeroValue 25).run Tryd.prog w = .ok (.agg #[.int .i64 0, .int .i64 0]) w)
    (hc : ∀ j, j < n * 2 → (w.cell? ⟨b, o + j, none⟩).isSome = true) (hf : ∀ j, j < n * 2 → w.frozen? ⟨b, o + j, none⟩ = false) :
    (Builtin.clear_ #[22] ty #[.slice (some ⟨b, o, none⟩) n c]).run Tryd.prog w = .ok (.tuple #[]) (w.setCells b o (List.replicate (n * 2) (.int .i64 0))) := by
  have hzc : (Builtin.zeroCells #[Value.int .i64 0, Value.int .i64 0] n).toList = List.replicate (n * 2) (.int .i64 0) := by
    simp [Builtin.zeroCells]
    apply List.ext_getElem
    · simp
    · intro i h1 h2
      rcases (show i % 2 = 0 ∨ i % 2 = 1 by omega) with h | h <;> simp [h]
  have hst := run_storeCells_cells (P := Tryd.prog) b o (List.replicate (n * 2) (.int .i64 0)) 0 w (by simpa using hc) (by simpa using hf) (by intro v hv'; rw [List.eq_of_mem_replicate hv']; rfl)
  simp only [Nat.add_zero] at hst
  obtain ⟨m, rfl⟩ : ∃ m, n = m + 1 := ⟨n - 1, by omega⟩
  simp [Builtin.clear_, run_underlying Tryd.underlying22, hv, Value.cells, hzc, hst]
/-- The row behind the clearing. -/
theorem cleared_two {w wr : World} {n g kk : Nat} {dk : Array Dg.D} (hk : kk ≤ dk.size) (hwr : wr = putRowK enc 2 (Sort.ahead w n) g 0 dk) :
    wr.setCells g (kk * 2) (List.replicate ((dk.size - kk) * 2) (.int .i64 0)) = putRowK enc 2 (Sort.ahead w n) g 0 (dk.toList.take kk ++ List.replicate (dk.size - kk) ((0, 0) : Dg.D)).toArray := by
  have h := setCells_putRow (Sort.ahead w n) g 0 (List.replicate ((dk.size - kk) * 2) (.int .i64 0)) (kk * 2) (flatK enc 2 dk) (by rw [size_flatK, List.length_replicate]; omega)
  rw [Nat.zero_add] at h
  rw [hwr]
  unfold putRowK
  rw [h]
  congr 1
  have hyl : (dk.toList.take kk ++ List.replicate (dk.size - kk) ((0, 0) : Dg.D)).toArray.size = dk.size := by simp; omega
  apply Array.ext
  · rw [size_setMany, size_flatK, size_flatK, hyl]
  · intro t h1 h2
    have ht : t < dk.size * 2 := by rw [size_setMany, size_flatK] at h1; exact h1
    have e1 := get_setMany (List.replicate ((dk.size - kk) * 2) (.int .i64 0)) (kk * 2) (flatK enc 2 dk) t (by simpa using ht)
    have e2 := get_flatK enc 2 (dk.toList.take kk ++ List.replicate (dk.size - kk) ((0, 0) : Dg.D)).toArray t (by rw [hyl]; exact ht)
    have e3 := get_flatK enc 2 dk t ht
    rw [getElem!_pos _ t h1] at e1
    rw [getElem!_pos _ t h2] at e2
    rw [e1, e2, List.length_replicate]
    have hi : t / 2 < dk.size := by omega
    rw [getElem!_pos _ (t / 2) (by rw [hyl]; exact hi), List.getElem_toArray]
    by_cases hc : kk * 2 ≤ t ∧ t < kk * 2 + (dk.size - kk) * 2
    · rw [if_pos hc, getElem!_pos _ (t - kk * 2) (by rw [List.length_replicate]; omega), List.getElem_replicate, List.getElem_append_right (by simp; omega), List.getElem_replicate]
      rcases (show t % 2 = 0 ∨ t % 2 = 1 by omega) with h | h <;> rw [h] <;> rfl
    · rw [if_neg hc, e3, List.getElem_append_left (by simp; omega), List.getElem_take, getElem!_pos dk (t / 2) hi]; rfl
theorem comp_take {d dk : Array Dg.D} {m kk : Nat} (h : CompInv d m kk dk) (hm : m ≤ d.size) : dk.toList.take kk = compactUpTo d m := by
  have hs := h.size
  have hlt := h.lt
  apply List.ext_getElem?
  intro j
  by_cases hj : j < kk
  · rw [h.low j hj, List.getElem?_take, if_pos hj, Array.getElem?_toList, Array.getElem?_eq_getElem (by omega), getElem!_pos dk j (by omega)]
  · rw [List.getElem?_take, if_neg hj, List.getElem?_eq_none (by rw [h.len]; omega)]
set_option maxRecDepth 100000 in
set_option maxHeartbeats 4000000 in
theorem compact_walk (g cap : Nat) (d : Array Dg.D) (w : World) (hH : HoldsK enc 2 w g 0 d) (hsz : d.size ≤ 1000000000) (hcap : d.size ≤ cap) :
    Calls Tryd.prog 33 #[.slice (some ⟨g, 0, none⟩) d.size cap] w fun e w' => e = .returned (.slice (some ⟨g, 0, none⟩) (compactUpTo d d.size).length cap) ∧ ∃ (q : Nat) (ys : Array Dg.D), ys.size = d.size ∧ ys.toList.take (compactUpTo d d.size).length = compactUpTo d d.size ∧ w' = putRowK enc 2 (Sort.ahead w q) g 0 ys := by
  have heq := eq25
  have hne := neq25
  have same : ∀ q, (∀ j, j < d.size → keeps d j = true) → (compactUpTo d d.size).length = d.size ∧ (d.toList.take (compactUpTo d d.size).length = compactUpTo d d.size) ∧ w.drewN q = putRowK enc 2 (Sort.ahead w q) g 0 d := by
    intro q hall
    have e : compactUpTo d d.size = d.toList := by rw [compactUpTo_all d _ hall, range_map_get]
    rw [e]
    exact ⟨by simp, List.take_length, (putRowK_self enc 2 (Sort.ahead w q) g 0 d hH).symm⟩
  have HS := Aside0.mk same
  have HH := Aside0.mk hH
  clear same hH
  by_cases h2 : d.size < 2
  · go_enter Tryd.func33, Tryd.ntmps33
    go_wp2
    go_ret
    obtain ⟨e1, e2, e3⟩ := HS.out 0 (fun j hj => keeps_lt_one d j (by omega))
    exact ⟨by rw [e1]; rfl, 0, d, rfl, e2, e3⟩
  · go_enter Tryd.func33, Tryd.ntmps33
    go_wp2
    go_loopg [3] d.size (fun gg s3 wr => ∃ k q : Nat, 1 ≤ k ∧ k ≤ d.size ∧ d.size - k ≤ gg ∧ s3 = .int .i64 k ∧ wr = w.drewN q ∧ Aside0 (∀ j, j < k → keeps d j = true))
    case atStart => exact ⟨1, 0, Nat.le_refl _, by omega, by omega, rfl, rfl, ⟨keeps_lt_one d⟩⟩
    case round =>
      obtain ⟨k, q, hk1, hk, hg, rfl, rfl, A⟩ := hrel
      by_cases hlt : k < d.size
      · obtain ⟨⟨c0, c1⟩, _⟩ := holds_two HH.out k hlt
        obtain ⟨j, hj⟩ : ∃ j, k - 1 = j := ⟨_, rfl⟩
        obtain ⟨⟨c2, c3⟩, _⟩ := holds_two HH.out j (by omega)
        have hkj : Aside0 (k = j + 1) := ⟨by omega⟩
        obtain ⟨x, hx⟩ : ∃ x, d[k]! = x := ⟨_, rfl⟩
        obtain ⟨y, hy⟩ : ∃ y, d[j]! = y := ⟨_, rfl⟩
        have hy' : Aside0 (d[k - 1]! = y) := ⟨by rw [hj]; exact hy⟩
        rw [hx] at c0 c1
        rw [hy] at c2 c3
        have hm2 : (k : Int) - 1 = (j : Int) := by omega
        have hjd : j < d.size := by omega
        clear hj
        replace hx := Aside0.mk hx
        replace hy := Aside0.mk hy
        by_cases hdup : x = y
        · subst hdup
          go_wp2_with fail
          have hw := k64 (j : Int) (by omega) (by omega)
          go_quiet (fail)
          clear hw
          go_wp2
          clear c0 c1 c2 c3
          go_loopg [3, 5] d.size (fun gg s3 s5 wr => ∃ (kk k2 q2 : Nat) (dk : Array Dg.D), s3 = .int .i64 kk ∧ s5 = .int .i64 k2 ∧ 1 ≤ k2 ∧ k + k2 ≤ d.size ∧ d.size - (k + k2) ≤ gg ∧ Aside0 (wr = putRowK enc 2 (Sort.ahead w q2) g 0 dk) ∧ Aside0 (CompInv d (k + k2) kk dk))
          case atStart => exact ⟨k, 1, q + nq, d, rfl, rfl, Nat.le_refl _, by omega, by omega, ⟨(putRowK_self enc 2 (Sort.ahead w (q + nq)) g 0 d (holdsK_ahead enc 2 w (q + nq) g 0 d HH.out)).symm⟩, ⟨CompInv.start A.out (keeps_neg (by omega) (by rw [hx.out, hy'.out]))⟩⟩
          case round =>
            obtain ⟨kk, k2, q2, dk, rfl, rfl, h1, hle, hg2, W2, I2⟩ := hrel
            have hkk := I2.out.lt
            have hds := I2.out.size
            have hHk : Aside0 (HoldsK enc 2 wr g 0 dk) := ⟨by rw [W2.out]; exact holdsK_putRowK enc 2 _ g 0 d dk (holdsK_ahead enc 2 w q2 g 0 d HH.out) hds⟩
            by_cases hlt2 : k + k2 < d.size
            · obtain ⟨⟨a0, a1⟩, _⟩ := holds_two hHk.out (k + k2) (by omega)
              obtain ⟨j2, hj2⟩ : ∃ j2, k2 - 1 = j2 := ⟨_, rfl⟩
              obtain ⟨⟨a2, a3⟩, _⟩ := holds_two hHk.out (k + j2) (by omega)
              obtain ⟨⟨a4, a5⟩, f4, f5⟩ := holds_two hHk.out kk (by omega)
              rw [I2.out.high (k + k2) (by omega)] at a0 a1
              rw [I2.out.high (k + j2) (by omega)] at a2 a3
              rw [Nat.add_mul] at a0 a1 a2 a3
              have hC0 : Aside0 (k + k2 - 1 = k + j2) := ⟨by omega⟩
              obtain ⟨u, hu⟩ : ∃ u, d[k + k2]! = u := ⟨_, rfl⟩
              obtain ⟨v, hv⟩ : ∃ v, d[k + j2]! = v := ⟨_, rfl⟩
              have hv' : Aside0 (d[k + k2 - 1]! = v) := ⟨by rw [hC0.out]; exact hv⟩
              rw [hu] at a0 a1
              rw [hv] at a2 a3
              obtain ⟨old, hold⟩ : ∃ old, dk[kk]! = old := ⟨_, rfl⟩
              rw [hold] at a4 a5
              clear hold
              have hm3 : (k2 : Int) - 1 = (j2 : Int) := by omega
              have hb1 : (k2 : Int) < (d.size : Int) - (k : Int) := by omega
              have hb2 : (j2 : Int) < (d.size : Int) - (k : Int) := by omega
              have hb3 : k2 < d.size - k := by omega
              have hb4 : j2 < d.size - k := by omega
              have hb5 : kk < d.size := by omega
              clear hj2
              replace hu := Aside0.mk hu
              replace hv := Aside0.mk hv
              replace hkk := Aside0.mk hkk
              replace hds := Aside0.mk hds
              by_cases huv : u = v
              · subst huv
                go_wp2_with fail
                have hw := k64 (j2 : Int) (by omega) (by omega)
                go_quiet (fail)
                clear hw
                go_wp2
                go_roundg (d.size - (k + (k2 + 1)))
                case measure => omega
                case rel => exact ⟨kk, k2 + 1, q2 + nq, dk, rfl, by go_num, by omega, by omega, Nat.le_refl _, ⟨by rw [W2.out]; exact putRowK_drewN enc 2 w q2 nq g 0 dk⟩, ⟨I2.out.skip (keeps_neg (by omega) (by rw [hu.out, hv'.out]))⟩⟩
              · go_wp2_with fail
                have hw := k64 (j2 : Int) (by omega) (by omega)
                go_quiet (fail)
                clear hw
                go_wp2
                go_roundg (d.size - (k + (k2 + 1)))
                case measure => omega
                case rel =>
                  refine ⟨kk + 1, k2 + 1, q2 + nq, dk.setIfInBounds kk u, by go_num, by go_num, by omega, by omega, Nat.le_refl _, ⟨?_⟩, ⟨?_⟩⟩
                  · exact store_two (by rw [hds.out]; omega) (by rw [W2.out]; exact putRowK_drewN enc 2 w q2 nq g 0 dk) u
                  · have := I2.out.keep hlt2 (keeps_pos (by rw [hu.out, hv'.out]; exact huv))
                    rwa [hu.out] at this
            · have hend : k + k2 = d.size := by omega
              have hcl : ∀ ty, (Builtin.clear_ #[22] ty #[.slice (some ⟨g, kk * 2, none⟩) (d.size - kk) (cap - kk)]).run Tryd.prog wr = .ok (.tuple #[]) (wr.setCells g (kk * 2) (List.replicate ((d.size - kk) * 2) (.int .i64 0))) := fun ty => by
                refine run_clear_two wr ty g (kk * 2) (d.size - kk) (cap - kk) (by omega) (fun w => Tryd.zeroValue25 w) (fun j hj => ?_) (fun j hj => ?_)
                · have h := (hHk.out.cell (i := kk + j / 2) (c := j % 2) (by omega) (by omega)).1
                  rw [show 0 + (kk + j / 2) * 2 + j % 2 = kk * 2 + j by omega] at h
                  rw [h]; rfl
                · have h := (hHk.out.cell (i := kk + j / 2) (c := j % 2) (by omega) (by omega)).2
                  rw [show 0 + (kk + j / 2) * 2 + j % 2 = kk * 2 + j by omega] at h
                  exact h
              have hI : Aside0 (CompInv d d.size kk dk) := ⟨by have := I2.out; rwa [hend] at this⟩
              have hkc : kk < cap := by omega
              have hkd : kk < d.size := by omega
              clear hend
              replace hds := Aside0.mk hds
              go_wp2
              go_ret
              have hl := hI.out.len
              refine ⟨by rw [hl]; rfl, q2, (dk.toList.take kk ++ List.replicate (dk.size - kk) ((0, 0) : Dg.D)).toArray, by have := hds.out; simp; omega, ?_, ?_⟩
              · rw [hl, ← comp_take hI.out (Nat.le_refl _), List.take_left' (by have := hds.out; simp; omega)]
              · have := cleared_two (kk := kk) (by have := hds.out; omega) W2.out
                rw [hds.out] at this
                rw [hds.out]; exact this
        · go_wp2_with fail
          have hw := k64 (j : Int) (by omega) (by omega)
          go_quiet (fail)
          clear hw
          go_wp2
          go_roundg (d.size - (k + 1))
          case measure => omega
          case rel =>
            refine ⟨k + 1, q + nq, by omega, by omega, Nat.le_refl _, by go_num, rfl, ⟨fun i hi => ?_⟩⟩
            by_cases e : i = k
            · subst e
              exact keeps_pos (by rw [hx.out, hy'.out]; exact hdup)
            · exact A.out i (by omega)
      · have hks : k = d.size := by omega
        subst hks
        go_wp2
        go_ret
        obtain ⟨e1, e2, e3⟩ := HS.out q A.out
        exact ⟨by rw [e1]; rfl, q, d, rfl, e2, e3⟩

set_option maxHeartbeats 1000000 in
theorem compact_small (A : Option Addr) (c n : Nat) (w : World) (h : n < 2) : Calls Tryd.prog 33 #[.slice A n c] w fun e w' => e = .returned (.slice A n c) ∧ w' = w := by
  go_enter Tryd.func33, Tryd.ntmps33
  go_wp2
  go_ret
  exact ⟨rfl, rfl⟩
theorem compact_short (l : List Dg.D) (h : l.length < 2) : compact l = l := compact_all l fun j hj => keeps_lt_one _ j (by omega)
/-- Consecutive runs of equal ones, once each. -/
theorem compact_calls (A : Option Addr) (c base : Nat) (l : List Dg.D) (w : World) (hlen : l.length ≤ 1000000000) (ho : w.ownsRow base 25 2 (.slice A l.length c) l.length (flat l)) :
    Calls Tryd.prog 33 #[.slice A l.length c] w fun e w' => ∃ v, e = .returned v ∧ w'.ownsRow base 25 2 v (compact l).length (flat (compact l)) ∧ Below base w w' := by
  by_cases h2 : l.length < 2
  · rw [compact_short l h2]
    refine (compact_small A c l.length w h2).mono ?_
    rintro e w' ⟨rfl, rfl⟩
    exact ⟨_, rfl, ho, Below.refl _ _⟩
  · have hform : ∃ g, A = some ⟨g, 0, none⟩ := by
      rcases ho.2 with ⟨e0, h0⟩ | ⟨g, cap, cur, e0, _⟩
      · omega
      · injection e0 with e1
        exact ⟨g, e1⟩
    obtain ⟨g, rfl⟩ := hform
    obtain ⟨hH, hb, hlt, _, hc, hm⟩ := holds_of_own ho
    have hw := compact_walk g c l.toArray w hH (by simpa using hlen) (by simpa using hc)
    have hs : l.toArray.size = l.length := by simp
    rw [hs] at hw
    have hcm : compactUpTo l.toArray l.length = compact l := rfl
    rw [hcm] at hw
    have hle : (compact l).length ≤ l.length := by
      unfold compact compactUpTo
      rw [List.length_map]
      refine Nat.le_trans (List.length_filter_le _ _) ?_
      simp
    refine hw.mono ?_
    rintro e w' ⟨rfl, q, ys, h1, h3, rfl⟩
    refine ⟨_, rfl, ?_, below_putRowK (Below.refl _ _) hb⟩
    have := own_putRow (q := q) (ys := ys.toList) ho (by simpa using h1) hle
    rw [h3] at this
    simpa using this
end Go.Proofs.YtgphciopondlaaaDoor
