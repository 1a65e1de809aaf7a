/- What the three listed tables say: from the row's condition to 'Tab'; and the witness's world. Condition: none beyond the row's. -/
import Derived.Test.YtgphciopondlaaaDoorRows
import Derived.Test.YtgphciopondlaaaDoorGivenL
import Derived.WalkKit
import Derived.ProofKit
import Derived.OpenShut
import Derived.ShutString
import Derived.ChangeOld
import Derived.Below
import Derived.SizedLaws
import Derived.Deep.DeepHandedRow
import Derived.Lib.LaidTab
import Derived.Lib.SmallJoins
import Derived.Stop.LaidErr
namespace Go.Proofs.YtgphciopondlaaaDoor
open Go.ChangeShapes Go.WideShapes Go.ChangeAt Go.RowKit
def bruijn32 : List Int := [0, 1, 28, 2, 29, 14, 24, 3, 30, 22, 20, 15, 25, 17, 4, 8, 31, 27, 13, 23, 21, 19, 16, 7, 26, 12, 18, 6, 11, 5, 10, 9]
theorem gTab : Tryd.prog.globalNamed "internal/strconv.uint64pow10" = some 0 := by kernel_rfl
theorem gTabType : (Tryd.prog.globals[0]?).map (·.type) = some 95 := by kernel_rfl
theorem cells95 : Tryd.prog.cellsOf 95 = 20 := by kernel_rfl
theorem cells56 : Tryd.prog.cellsOf 56 = 1 := by kernel_rfl
theorem tabOf {d32 d64 : DataW Unit} {W : World} (h : laidMet Tryd.prog [("math/bits.deBruijn32tab", d32), ("math/bits.deBruijn64tab", d64), ("internal/strconv.uint64pow10", Rows.laid_internal_strconv_uint64pow10)] W) : Tab W :=
  Lib.tabIs_of_head (rest := []) (zs := Lib.pow10Tab) gTab gTabType Tryd.underlying95 (by kernel_rfl : Tryd.prog.underlying 56 = _) cells56 cells95 (show laidMet Tryd.prog [("internal/strconv.uint64pow10", Lib.tabData .u64 Lib.pow10Tab)] W from laidMet.tail (laidMet.tail h))
def setCells (k : IntKind) (cs : List Int) : Obj → Obj
  | .cells _ t frozen => .cells (cs.map fun (n : Int) => Value.int k n).toArray t frozen
  | o => o
def bruijn64 : List Int := [0, 1, 56, 2, 57, 49, 28, 3, 61, 58, 42, 50, 38, 29, 17, 4, 62, 47, 59, 36, 45, 43, 51, 22, 53, 39, 33, 30, 24, 18, 12, 5, 63, 55, 48, 27, 60, 41, 37, 16, 46, 35, 44, 21, 52, 32, 23, 11, 54, 26, 40, 15, 34, 20, 31, 10, 25, 14, 19, 9, 13, 8, 7, 6]
noncomputable def laidWorld (os : Os) : World :=
  { World.holding Tryd.prog os ⟨#[], #[], []⟩ with heap := (((World.holding Tryd.prog os ⟨#[], #[], []⟩).heap.modify 0 (setCells .u64 Lib.pow10Tab)).modify 1 (setCells .u8 bruijn32)).modify 2 (setCells .u8 bruijn64) }
end Go.Proofs.YtgphciopondlaaaDoor
