/- jsonic's machine: its block of memory; fail and put, walked by hand. Conditions: the machine lies as told. -/
import Derived.Test.YtainnkpoibgkcaaDoorPAllx0
import Derived.WalkKit
import Derived.Outline
import Derived.OwnWalk
import Derived.Deep.QuietTactic
import Derived.BigQuiet
import Derived.StillTailTactics
import Derived.Deep.RegionLaw
import Derived.Lib.Builder
namespace Go.Proofs.YtainnkpoibgkcaaDoor
set_option linter.unusedVariables false
set_option linter.unusedSimpArgs false
open Go.RowKit Go.Proofs.YtainnkpoibgkcaaDoor.PAll Go.Proofs.YtainnkpoibgkcaaDoorW.PrintWords Go.Proofs.YtainnkpoibgkcaaDoorW.PrintLast

/-- The machine's cells. -/
def mc (s : ByteArray) (p : Int) (o : Nat → Int) (d : Int) (v : Value) (d0 d1 : Int) : Array Value :=
  #[.string s, .int .i64 p, .int .u8 (o 0), .int .u8 (o 1), .int .u8 (o 2), .int .u8 (o 3), .int .u8 (o 4), .int .u8 (o 5), .int .u8 (o 6), .int .u8 (o 7), .int .u8 (o 8), .int .u8 (o 9), .int .u8 (o 10), .int .u8 (o 11), .int .u8 (o 12), .int .u8 (o 13), .int .u8 (o 14), .int .u8 (o 15), .int .i64 d, v, .int .i64 d0, .int .i64 d1]
def IsM (w : World) (B : Nat) (s : ByteArray) (p : Int) (o : Nat → Int) (d : Int) (v : Value) (d0 d1 : Int) : Prop := w.heap[B]? = some (.cells (mc s p o d v d0 d1) 67 (0, 0))

theorem IsM.lt {w : World} {B : Nat} {s : ByteArray} {p d d0 d1 : Int} {o : Nat → Int} {v : Value} (h : IsM w B s p o d v d0 d1) : B < w.heap.size := by
  rcases Nat.lt_or_ge B w.heap.size with h' | h'
  · exact h'
  · unfold IsM at h; rw [Array.getElem?_eq_none h'] at h; cases h
theorem IsM.cells {w : World} {B : Nat} {s : ByteArray} {p d d0 d1 : Int} {o : Nat → Int} {v : Value} (h : IsM w B s p o d v d0 d1) :
    w.cell? ⟨B, 0, none⟩ = some (.string s) ∧ w.cell? ⟨B, 1, none⟩ = some (.int .i64 p) ∧ w.cell? ⟨B, 18, none⟩ = some (.int .i64 d) ∧ w.cell? ⟨B, 19, none⟩ = some v ∧ w.cell? ⟨B, 20, none⟩ = some (.int .i64 d0) ∧ w.cell? ⟨B, 21, none⟩ = some (.int .i64 d1) ∧ ∀ j, w.frozen? ⟨B, j, none⟩ = false := by
  unfold IsM at h
  refine ⟨?_, ?_, ?_, ?_, ?_, ?_, fun j => Lib.frozen_of_heap h j⟩ <;> rw [Lib.cell_of_heap h] <;> rfl
theorem IsM.grown {w w' : World} {B : Nat} {s : ByteArray} {p d d0 d1 : Int} {o : Nat → Int} {v : Value} (h : IsM w B s p o d v d0 d1) {row : Option Nat} (hg : w.grownBy w' row) (hr : row ≠ some B) : IsM w' B s p o d v d0 d1 := by
  unfold IsM at h ⊢
  rw [hg.block B (IsM.lt h) (fun e => hr e.symm)]; exact h
theorem IsM.set {w : World} {B : Nat} {s : ByteArray} {p d d0 d1 : Int} {o : Nat → Int} {v : Value} (h : IsM w B s p o d v d0 d1) (j : Nat) (u : Value) {cs : Array Value} (e : (mc s p o d v d0 d1).setIfInBounds j u = cs) : (w.setCell ⟨B, j, none⟩ u).heap[B]? = some (.cells cs 67 (0, 0)) := by
  unfold IsM at h
  simp [World.setCell, Array.getElem?_modify, h, e]
theorem grown_set (w : World) (B j : Nat) (u : Value) : w.grownBy (w.setCell ⟨B, j, none⟩ u) (some B) :=
  ⟨rfl, rfl, rfl, by simp [World.setCell], fun k _ hk => Below.heap_setCell _ _ _ _ (fun e => hk (by simp [e]))⟩
theorem grown_trans' {a b c : World} {row : Option Nat} (h : a.grownBy b row) (k : b.grownBy c row) : a.grownBy c row :=
  ⟨k.os.trans h.os, k.tape.trans h.tape, k.output.trans h.output, Nat.le_trans h.size k.size, fun j hj hr => (k.block j (Nat.lt_of_lt_of_le hj h.size) hr).trans (h.block j hj hr)⟩

set_option maxRecDepth 100000 in
set_option maxHeartbeats 1000000 in
theorem fail_calls {w : World} {B : Nat} {s : ByteArray} {p d d0 d1 : Int} {o : Nat → Int} {v : Value} (h : IsM w B s p o d v d0 d1) (a c : Int) :
    Calls Tryd.prog 28 #[.pointer (some ⟨B, 0, none⟩), .int .i64 a, .int .i64 c] w fun e w' => e = .returned (.bool false) ∧ IsM w' B s p o d v a c ∧ w.grownBy w' (some B) := by
  obtain ⟨c0, c1, c18, c19, c20, c21, hf⟩ := h.cells
  have f20 := hf 20
  have f21 := hf 21
  have H := Aside0.mk h
  clear hf h
  go_enter Tryd.func28, Tryd.ntmps28
  go_wp2
  go_ret
  refine ⟨rfl, ?_, grown_trans' (grown_set w B 20 _) (grown_set _ B 21 _)⟩
  have h1 := H.out.set 20 (.int .i64 a) (cs := mc s p o d v a d1) rfl
  exact IsM.set (d0 := a) (d1 := d1) h1 21 (.int .i64 c) rfl
end Go.Proofs.YtainnkpoibgkcaaDoor
