/- canon.Same and plan.Same where they say yes, and theirs, walked by hand. Conditions: none. -/
import Derived.Test.YtofklpphalalhaaGreatDoorUhJ17
import Derived.Test.YtofklpphalalhaaGreatDoorUhGivenY
import Derived.Laws.StructEq
namespace Go.Proofs.YtofklpphalalhaaGreatDoor
set_option linter.unusedVariables false
set_option linter.unusedSimpArgs false
open Go.RowKit Go.Proofs.YtofklpphalalhaaGreatDoor.PAll Go.Proofs.YtofklpphalalhaaGreatDoorW.PrintWords Go.Proofs.YtofklpphalalhaaGreatDoorW.PrintLast Go.Proofs.YtofklpphalalhaaGreatDoorW.PrintMore
theorem at_int {w : World} {A : Option Addr} {n : Nat} {l : List Int} (h : Kd.C (Kd.int .i64) w A n l) (k : Nat) (hk : k < l.length) : ∃ ad, A = some ad ∧ w.cell? (ad.add k) = some (.int .i64 (l.getD k 0)) := int_cell h k hk
theorem box_cells {W : World} {g : Nat} {x : Cn.In} {v6 v7 : Value} (h : W.heap[g]? = some (inB x v6 v7)) : W.cell? ⟨g, 0, none⟩ = some (.string x.nm) ∧ W.cell? ⟨g, 1, none⟩ = some (.int .i64 x.kind) ∧ W.cell? ⟨g, 2, none⟩ = some (.int .i64 x.metric) ∧ W.cell? ⟨g, 3, none⟩ = some (.int .i64 x.scale) ∧ W.cell? ⟨g, 4, none⟩ = some (.int .i64 x.cap) ∧ W.cell? ⟨g, 5, none⟩ = some (.int .i64 x.fleet) ∧ W.cell? ⟨g, 6, none⟩ = some v6 ∧ W.cell? ⟨g, 7, none⟩ = some v7 := by
 refine ⟨?_, ?_, ?_, ?_, ?_, ?_, ?_, ?_⟩ <;> (rw [Lib.cell_of_heap h]; rfl)
set_option maxRecDepth 100000 in
set_option maxHeartbeats 8000000 in
theorem theirs_walk (v : Value) (A : Option Addr) (n c : Nat) (w : World) (hv : v = .slice A n c) : Calls Tryz.prog 32 #[.agg #[v]] w fun e w' => e = .returned (.agg #[v]) ∧ Below w.heap.size w w' := by
 subst hv
 have HB := Aside0.mk (below_two w (.cells #[.slice A n c] 28) (.cells #[.slice A n c] 54))
 have HT := Aside0.mk (two_blocks w (.cells #[.slice A n c] 28) (.cells #[.slice A n c] 54))
 go_enter Tryz.func32, Tryz.ntmps32
 go_wp2_with fail
 refine bodyPost_ret (results_cell_row rfl _ _ (w.heap.size + 1) 54 #[.slice A n c] (0, 0) _ rfl HT.out.2 Tryz.underlying54 rfl (by kernel_rfl)) rfl ?_
 exact ⟨rfl, HB.out⟩
end Go.Proofs.YtofklpphalalhaaGreatDoor
