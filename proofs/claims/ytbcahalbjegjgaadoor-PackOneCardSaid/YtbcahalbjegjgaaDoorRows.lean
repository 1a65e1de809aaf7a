/-
  NARROWER THAN 'FOR EVERY INPUT', by the rows' own cells (each row's printed sentence says how): PackShort: laid · PackNumbers: laid · PackOne: laid · PackTexts: laid · PackBack: laid.
  DERIVED. THE GIVEN ROWS OF THIS SEAT. 5 by the template 'for every input the law returns true; each argument reads behind the call as it read before'; 0 by the template 'total and deterministic' (their statements: YtbcahalbjegjgaaDoorTotals.lean).
  GIVEN WITH THE SEED: the statements are not yours to turn. If you find one false, say at which input.
  Laid BY PROGRAM, IN A SANDBOX (cutbox-rows.mjs): the forced cells as the released guide's own fill.sh prints them over the translation fbc72581089b2d40… (all of the seat's roots in one cut). By AI agents, Wed Nov 11 2026. No macro, syntax, notation, axiom, sorry.
-/
import Derived.Test.YtbcahalbjegjgaaDoorChecked
import GoSem.Claim
import GoSem.ClaimJoined
import GoSem.ClaimMapViews
import Derived.JoinedTies
import Derived.KernelRfl
namespace Go.Proofs.YtbcahalbjegjgaaDoor
/- THE CELL 'sum', in the pinned program and in every row, IS THE sha256 OF THE DUMP (.gsa) THAT YtbcahalbjegjgaaDoorProg.lean LOADS. Nothing in Lean hashes anything: it is a label: what it is worth is what the hold of that sum in a sandbox is worth. -/
noncomputable def Tryd.pinned : Pinned := { name := "ytbcahalbjegjgaadoor", sum := "fbc72581089b2d4064b915f6456438afd442e5ae067b63dedf0299ba4a48a3bf", checked := Tryd.checked }
namespace Rows
def none {H : Type} : Left H := { results := [], args := [] }

/- WHAT THE LISTED PACKAGE-LEVEL VARIABLES READ AS WHEN THE CALL BEGINS. Each datum BY PROGRAM (the guide's laid-datum.mjs) off the statement by which the dump's own 'gosem.cut.vars' lays the variable. In a bare row this is a premise. The card (YtbcahalbjegjgaaDoorCards.lean) ties it to the program's text. -/
def laid_entrepot_pack_sums {H : Type} : DataW H := .agg [.lit (.int .u32 0), .lit (.int .u32 498536548), .lit (.int .u32 997073096), .lit (.int .u32 651767980), .lit (.int .u32 1994146192), .lit (.int .u32 1802195444), .lit (.int .u32 1303535960), .lit (.int .u32 1342533948), .lit (.int .u32 3988292384), .lit (.int .u32 4027552580), .lit (.int .u32 3604390888), .lit (.int .u32 3412177804), .lit (.int .u32 2607071920), .lit (.int .u32 2262029012), .lit (.int .u32 2685067896), .lit (.int .u32 3183342108)]

/-- 'entrepotlaw21.PackShort': WHATEVER THE INPUT: true; the input reads as it did. -/
def packShortSpec : ChangeSpec := { name := "packShort", fn := fun _ => fun
  | [d1, d2, d3, d4] => { results := [.lit (.bool true)], args := [d1, d2, d3, d4] }
  | _ => none }
def packShortRow : OpenClaim := { program := "ytbcahalbjegjgaadoor", sum := "fbc72581089b2d4064b915f6456438afd442e5ae067b63dedf0299ba4a48a3bf", func := "entrepot/entrepotlaw21.PackShort", spec := "packShort", named := ["entrepot/pack.sums"], apart := false, laid := [("entrepot/pack.sums", laid_entrepot_pack_sums)] }
def PackShortSaid : Prop := packShortRow.holds Tryd.pinned (OpenSpec.ofChange packShortSpec)

/-- ITS FALSE NEIGHBOUR: 'it returns false'. Refute it at one input. -/
def packShortWrong : ChangeSpec := { name := "packShort", fn := fun _ => fun
  | [d1, d2, d3, d4] => { results := [.lit (.bool false)], args := [d1, d2, d3, d4] }
  | _ => none }
def PackShortWrongFalsely : Prop := packShortRow.holds Tryd.pinned (OpenSpec.ofChange packShortWrong)

/-- 'entrepotlaw21.PackNumbers': WHATEVER THE INPUT: true; the input reads as it did. -/
def packNumbersSpec : ChangeSpec := { name := "packNumbers", fn := fun _ => fun
  | [d1, d2, d3] => { results := [.lit (.bool true)], args := [d1, d2, d3] }
  | _ => none }
def packNumbersRow : OpenClaim := { program := "ytbcahalbjegjgaadoor", sum := "fbc72581089b2d4064b915f6456438afd442e5ae067b63dedf0299ba4a48a3bf", func := "entrepot/entrepotlaw21.PackNumbers", spec := "packNumbers", named := ["entrepot/pack.sums"], apart := false, laid := [("entrepot/pack.sums", laid_entrepot_pack_sums)] }
def PackNumbersSaid : Prop := packNumbersRow.holds Tryd.pinned (OpenSpec.ofChange packNumbersSpec)

/-- ITS FALSE NEIGHBOUR: 'it returns false'. Refute it at one input. -/
def packNumbersWrong : ChangeSpec := { name := "packNumbers", fn := fun _ => fun
  | [d1, d2, d3] => { results := [.lit (.bool false)], args := [d1, d2, d3] }
  | _ => none }
def PackNumbersWrongFalsely : Prop := packNumbersRow.holds Tryd.pinned (OpenSpec.ofChange packNumbersWrong)

/-- 'entrepotlaw21.PackOne': WHATEVER THE INPUT: true; the input reads as it did. -/
def packOneSpec : ChangeSpec := { name := "packOne", fn := fun _ => fun
  | [d1, d2, d3] => { results := [.lit (.bool true)], args := [d1, d2, d3] }
  | _ => none }
def packOneRow : OpenClaim := { program := "ytbcahalbjegjgaadoor", sum := "fbc72581089b2d4064b915f6456438afd442e5ae067b63dedf0299ba4a48a3bf", func := "entrepot/entrepotlaw21.PackOne", spec := "packOne", named := ["entrepot/pack.sums"], apart := false, laid := [("entrepot/pack.sums", laid_entrepot_pack_sums)] }
def PackOneSaid : Prop := packOneRow.holds Tryd.pinned (OpenSpec.ofChange packOneSpec)

/-- ITS FALSE NEIGHBOUR: 'it returns false'. Refute it at one input. -/
def packOneWrong : ChangeSpec := { name := "packOne", fn := fun _ => fun
  | [d1, d2, d3] => { results := [.lit (.bool false)], args := [d1, d2, d3] }
  | _ => none }
def PackOneWrongFalsely : Prop := packOneRow.holds Tryd.pinned (OpenSpec.ofChange packOneWrong)

/-- 'entrepotlaw21.PackTexts': WHATEVER THE INPUT: true; the input reads as it did. -/
def packTextsSpec : ChangeSpec := { name := "packTexts", fn := fun _ => fun
  | [d1, d2] => { results := [.lit (.bool true)], args := [d1, d2] }
  | _ => none }
def packTextsRow : OpenClaim := { program := "ytbcahalbjegjgaadoor", sum := "fbc72581089b2d4064b915f6456438afd442e5ae067b63dedf0299ba4a48a3bf", func := "entrepot/entrepotlaw21.PackTexts", spec := "packTexts", named := ["entrepot/pack.sums"], apart := false, laid := [("entrepot/pack.sums", laid_entrepot_pack_sums)] }
def PackTextsSaid : Prop := packTextsRow.holds Tryd.pinned (OpenSpec.ofChange packTextsSpec)

/-- ITS FALSE NEIGHBOUR: 'it returns false'. Refute it at one input. -/
def packTextsWrong : ChangeSpec := { name := "packTexts", fn := fun _ => fun
  | [d1, d2] => { results := [.lit (.bool false)], args := [d1, d2] }
  | _ => none }
def PackTextsWrongFalsely : Prop := packTextsRow.holds Tryd.pinned (OpenSpec.ofChange packTextsWrong)

/-- 'entrepotlaw21.PackBack': WHATEVER THE INPUT: true; the input reads as it did. -/
def packBackSpec : ChangeSpec := { name := "packBack", fn := fun _ => fun
  | [d1, d2, d3, d4] => { results := [.lit (.bool true)], args := [d1, d2, d3, d4] }
  | _ => none }
def packBackRow : OpenClaim := { program := "ytbcahalbjegjgaadoor", sum := "fbc72581089b2d4064b915f6456438afd442e5ae067b63dedf0299ba4a48a3bf", func := "entrepot/entrepotlaw21.PackBack", spec := "packBack", named := ["entrepot/pack.sums"], apart := false, laid := [("entrepot/pack.sums", laid_entrepot_pack_sums)] }
def PackBackSaid : Prop := packBackRow.holds Tryd.pinned (OpenSpec.ofChange packBackSpec)

/-- ITS FALSE NEIGHBOUR: 'it returns false'. Refute it at one input. -/
def packBackWrong : ChangeSpec := { name := "packBack", fn := fun _ => fun
  | [d1, d2, d3, d4] => { results := [.lit (.bool false)], args := [d1, d2, d3, d4] }
  | _ => none }
def PackBackWrongFalsely : Prop := packBackRow.holds Tryd.pinned (OpenSpec.ofChange packBackWrong)

/- THE SECOND FORM. 'bulk': how many values and letters a reading holds, each counted each time it is reached (what is shared counts as often as it is met; a slice's spare places count too). A statement '..UptoSaid' is the law's where the arguments, and the package variables that the reading takes, are together of bulk at most 1048576: NARROWER than '..Said'. Prove '..Said' where nothing that the law and all that it calls make is longer than what came in: it says more and counts as full. Else prove '..UptoSaid'. A law counts once. -/
mutual
def uptoBulk {H : Type} : DataW H → Nat
  | .lit (.string bytes) => bytes.length + 1
  | .lit _ => 1
  | .nil => 1
  | .ptr d => uptoBulk d + 1
  | .slice elems spare => uptoBulkAll elems + uptoBulkAll spare + 1
  | .agg parts => uptoBulkAll parts + 1
  | .iface _ d => uptoBulk d + 1
  | .map entries => uptoBulkEntries entries + 1
  | .held _ => 1
def uptoBulkAll {H : Type} : List (DataW H) → Nat
  | [] => 0
  | d :: r => uptoBulk d + uptoBulkAll r
def uptoBulkEntries {H : Type} : List (Lit × DataW H) → Nat
  | [] => 0
  | x :: r => uptoBulkEntry x + uptoBulkEntries r
def uptoBulkEntry {H : Type} : Lit × DataW H → Nat
  | (.string bytes, d) => bytes.length + uptoBulk d + 1
  | (_, d) => uptoBulk d + 1
 end
def uptoSmall : (H : Type) → List (DataW H) → Bool := fun _ ds => decide (uptoBulkAll ds ≤ 1048576)
def OpenSpec.upto (s : _root_.Go.ChangeSpec) : _root_.Go.OpenSpec := { _root_.Go.OpenSpec.ofChange s with cond := some uptoSmall }

/-- 'entrepotlaw21.PackShort', WHERE WHAT IT READS IS OF BULK AT MOST 1048576: true; the input reads as it did. -/
def packShortUptoRow : OpenClaim := { program := "ytbcahalbjegjgaadoor", sum := "fbc72581089b2d4064b915f6456438afd442e5ae067b63dedf0299ba4a48a3bf", func := "entrepot/entrepotlaw21.PackShort", spec := "packShort", named := ["entrepot/pack.sums"], apart := false, laid := [("entrepot/pack.sums", laid_entrepot_pack_sums)], narrowed := true }
def PackShortUptoSaid : Prop := packShortUptoRow.holds Tryd.pinned (OpenSpec.upto packShortSpec)

/-- 'entrepotlaw21.PackNumbers', WHERE WHAT IT READS IS OF BULK AT MOST 1048576: true; the input reads as it did. -/
def packNumbersUptoRow : OpenClaim := { program := "ytbcahalbjegjgaadoor", sum := "fbc72581089b2d4064b915f6456438afd442e5ae067b63dedf0299ba4a48a3bf", func := "entrepot/entrepotlaw21.PackNumbers", spec := "packNumbers", named := ["entrepot/pack.sums"], apart := false, laid := [("entrepot/pack.sums", laid_entrepot_pack_sums)], narrowed := true }
def PackNumbersUptoSaid : Prop := packNumbersUptoRow.holds Tryd.pinned (OpenSpec.upto packNumbersSpec)

/-- 'entrepotlaw21.PackOne', WHERE WHAT IT READS IS OF BULK AT MOST 1048576: true; the input reads as it did. -/
def packOneUptoRow : OpenClaim := { program := "ytbcahalbjegjgaadoor", sum := "fbc72581089b2d4064b915f6456438afd442e5ae067b63dedf0299ba4a48a3bf", func := "entrepot/entrepotlaw21.PackOne", spec := "packOne", named := ["entrepot/pack.sums"], apart := false, laid := [("entrepot/pack.sums", laid_entrepot_pack_sums)], narrowed := true }
def PackOneUptoSaid : Prop := packOneUptoRow.holds Tryd.pinned (OpenSpec.upto packOneSpec)

/-- 'entrepotlaw21.PackTexts', WHERE WHAT IT READS IS OF BULK AT MOST 1048576: true; the input reads as it did. -/
def packTextsUptoRow : OpenClaim := { program := "ytbcahalbjegjgaadoor", sum := "fbc72581089b2d4064b915f6456438afd442e5ae067b63dedf0299ba4a48a3bf", func := "entrepot/entrepotlaw21.PackTexts", spec := "packTexts", named := ["entrepot/pack.sums"], apart := false, laid := [("entrepot/pack.sums", laid_entrepot_pack_sums)], narrowed := true }
def PackTextsUptoSaid : Prop := packTextsUptoRow.holds Tryd.pinned (OpenSpec.upto packTextsSpec)

/-- 'entrepotlaw21.PackBack', WHERE WHAT IT READS IS OF BULK AT MOST 1048576: true; the input reads as it did. -/
def packBackUptoRow : OpenClaim := { program := "ytbcahalbjegjgaadoor", sum := "fbc72581089b2d4064b915f6456438afd442e5ae067b63dedf0299ba4a48a3bf", func := "entrepot/entrepotlaw21.PackBack", spec := "packBack", named := ["entrepot/pack.sums"], apart := false, laid := [("entrepot/pack.sums", laid_entrepot_pack_sums)], narrowed := true }
def PackBackUptoSaid : Prop := packBackUptoRow.holds Tryd.pinned (OpenSpec.upto packBackSpec)

end Rows
end Go.Proofs.YtbcahalbjegjgaaDoor
