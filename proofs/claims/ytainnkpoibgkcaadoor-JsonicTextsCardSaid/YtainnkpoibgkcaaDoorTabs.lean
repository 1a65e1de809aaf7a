/- jsonic: from the rows' listed variables to what the walks ask; a world in which they lie. Conditions: none. -/
import Derived.Test.YtainnkpoibgkcaaDoorRows
import Derived.Test.YtainnkpoibgkcaaDoorGivenX
import Derived.Stop.LaidErr
import Derived.MakeChecks
import Derived.LaidLaws
import Derived.Lib.LaidTab
namespace Go.Proofs.YtainnkpoibgkcaaDoor
set_option linter.unusedVariables false
open Go.RowKit

theorem star : "*" ++ "errors.errorString" = "*errors.errorString" := by decide
theorem row132 (u : TypeId) (h : Tryd.prog.typeName? 3 u = some "*errors.errorString") : u = 132 :=
  typeName_ptr_named (nm := "errors.errorString") (by rw [star]; kernel_rfl) (by kernel_rfl) (by decide) u (by rw [star]; exact h)
theorem err_of {n : String} {g : Nat} {text : List UInt8} {r : List (String × DataW Unit)} {W : World} (h : laidMet Tryd.prog ((n, .iface "*errors.errorString" (.ptr (.agg [.lit (.string text)]))) :: r) W)
    (hg : Tryd.prog.globalNamed n = some g) (ht : (Tryd.prog.globals[g]?).map (·.type) = some 58) : errAt W g := by
  obtain ⟨a, s, hv, _⟩ := laid_sentinel h hg ht Tryd.underlying58 row132 Tryd.underlying132 Tryd.underlying134 rfl rfl Tryd.underlying9 (by kernel_rfl) (by kernel_rfl)
  have := World.var?_cell hg hv 0
  exact ⟨_, by simpa using this, .inr ⟨_, _, rfl⟩⟩
theorem tab_of_laid {W : World} (h : laidMetH Tryd.prog Rows.jsonicDeepRow.laid W) : Tab W := by
  have h1 : laidMet Tryd.prog Rows.jsonicDeepRow.laid W := by
    rw [← MakeChecks.laidMetH_plain _ _ _ (by kernel_rfl)]; exact h
  have h2 := h1.tail.tail
  have h3 := h2.tail.tail
  have h4 := h3.tail
  refine ⟨?_, err_of (g := 2) h4 (by kernel_rfl) (by kernel_rfl), err_of (g := 3) h3 (by kernel_rfl) (by kernel_rfl)⟩
  exact Lib.tabIs_of_head (g := 1) (k := .u64) (zs := Lib.pow10Tab) (by kernel_rfl) (by kernel_rfl) Tryd.underlying116 Tryd.underlying82 (by kernel_rfl) (by kernel_rfl) h2

abbrev rangeS : ByteArray := { data := #[118, 97, 108, 117, 101, 32, 111, 117, 116, 32, 111, 102, 32, 114, 97, 110, 103, 101] }
abbrev syntaxS : ByteArray := { data := #[105, 110, 118, 97, 108, 105, 100, 32, 115, 121, 110, 116, 97, 120] }
noncomputable def low : Nat := (World.holding Tryd.prog default ⟨#[], #[], []⟩).heap.size
def setTab (k : IntKind) (cs : List Int) : Obj → Obj
  | .cells _ t frozen => .cells (cs.map fun n => Value.int k n).toArray t frozen
  | o => o
def setErr (b : Nat) : Obj → Obj
  | .cells _ t frozen => .cells #[.iface 132 (.pointer (some ⟨b, 0, none⟩))] t frozen
  | o => o
def d32 : List Int := [0, 1, 28, 2, 29, 14, 24, 3, 30, 22, 20, 15, 25, 17, 4, 8, 31, 27, 13, 23, 21, 19, 16, 7, 26, 12, 18, 6, 11, 5, 10, 9]
def d64 : List Int := [0, 1, 56, 2, 57, 49, 28, 3, 61, 58, 42, 50, 38, 29, 17, 4, 62, 47, 59, 36, 45, 43, 51, 22, 53, 39, 33, 30, 24, 18, 12, 5, 63, 55, 48, 27, 60, 41, 37, 16, 46, 35, 44, 21, 52, 32, 23, 11, 54, 26, 40, 15, 34, 20, 31, 10, 25, 14, 19, 9, 13, 8, 7, 6]
def acc : List Int := [128, 191, 160, 191, 128, 159, 144, 191, 128, 143, 0, 0, 0, 0, 0, 0, 0, 0, 0, 0, 0, 0, 0, 0, 0, 0, 0, 0, 0, 0, 0, 0]
noncomputable def laidWorld (os : Os) : World :=
  let w0 := World.holding Tryd.prog os ⟨#[.cells #[.string rangeS] 134, .cells #[.string syntaxS] 134], #[], []⟩
  { w0 with heap := ((((((w0.heap.modify 1 (setTab .u64 Lib.pow10Tab)).modify 2 (setErr (low + 1))).modify 3 (setErr low)).modify 4 (setTab .u8 (Go.Pinned.utf8FirstZ.map fun (n : Nat) => (n : Int)))).modify 5 (setTab .u8 acc)).modify 6 (setTab .u8 d32)).modify 7 (setTab .u8 d64) }
end Go.Proofs.YtainnkpoibgkcaaDoor

