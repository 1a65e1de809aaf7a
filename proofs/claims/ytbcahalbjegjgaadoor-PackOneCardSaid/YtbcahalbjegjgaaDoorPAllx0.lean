-- Written by a program out of the translation, for several roots at once (set All). Not trusted: Lean checks it.
import Derived.Test.YtbcahalbjegjgaaDoorProg
import Derived.Below
import Derived.Deep.Draws
import Derived.Deep.AppendLies
import Derived.Maps.AppendAt
import Derived.OwnWalk
import Derived.Laws.BytesArg
import Derived.Laws.MakeOwn
import Derived.Laws.OwnMore
import Derived.Deep.OwnRows
import Derived.Tactics
import Derived.Lib.ConvBytes
import Derived.Laws.Slices
import Derived.WalkKit
import Derived.KernelRfl
import Derived.RowKit3
import Derived.Deep.LoopGhost
import Derived.Deep.QuietTactic
import Derived.BigQuiet
import Derived.WideLaws
import Derived.Deep.DeepCutAuto
import Derived.Deep.CutBlock
import Derived.Deep.RegionHeld3
import Derived.Laws.Rows
import Derived.Lib.AppendStr
import Derived.ArgAppend
import Derived.Laws.IdiomCopy
import Derived.OrdersHeld
import Derived.Laws.BitsLemmas
import Derived.RowKit
import Derived.Test.YtbcahalbjegjgaaDoorWWords
import Derived.Test.YtbcahalbjegjgaaDoorWLast
import Derived.Test.YtbcahalbjegjgaaDoorWTab
import Derived.Test.YtbcahalbjegjgaaDoorWFour
import Derived.Test.YtbcahalbjegjgaaDoorWQPut
import Derived.Test.YtbcahalbjegjgaaDoorWApart
import Derived.Test.YtbcahalbjegjgaaDoorWArr
import Derived.Test.YtbcahalbjegjgaaDoorWZeros
import Derived.Test.YtbcahalbjegjgaaDoorWFoot
import Derived.Test.YtbcahalbjegjgaaDoorWKept
import Derived.Test.YtbcahalbjegjgaaDoorWShare
import Derived.Test.YtbcahalbjegjgaaDoorWN
import Derived.Test.YtbcahalbjegjgaaDoorWFootNe
import Derived.Test.YtbcahalbjegjgaaDoorWAt
import Derived.Test.YtbcahalbjegjgaaDoorWEqStruct
import Derived.Test.YtbcahalbjegjgaaDoorWRepsOne
import Derived.Test.YtbcahalbjegjgaaDoorWInv
import Derived.Test.YtbcahalbjegjgaaDoorWInvWords
import Derived.Test.YtbcahalbjegjgaaDoorWGuard
import Derived.Test.YtbcahalbjegjgaaDoorWNEv
import Derived.Test.YtbcahalbjegjgaaDoorWMore
namespace Go.Proofs.YtbcahalbjegjgaaDoor.PAll
open Go.RowKit Go.Proofs.YtbcahalbjegjgaaDoorW.PrintWords Go.Proofs.YtbcahalbjegjgaaDoorW.PrintLast Go.Proofs.YtbcahalbjegjgaaDoorW.PrintMore
attribute [local go_sem] max2_int min2_int max_two min_two max_three min_three max_four min_four   -- for this text's walks alone
set_option linter.unusedVariables false
set_option linter.unusedSimpArgs false



def errW : Option Int → Value
  | none => .nilIface
  | some c => .iface 0 (.int .i64 c)
theorem errW_none : errW none = .nilIface := rfl
theorem errW_some (c : Int) : errW (some c) = .iface 0 (.int .i64 c) := rfl

theorem info5 : (Tryd.prog.info? 5).map (fun i => (i.zero, i.size, i.bytes)) = some (some (.int .u8 0), 1, 1) := by kernel_rfl
-- the values' own types

end Go.Proofs.YtbcahalbjegjgaaDoor.PAll
