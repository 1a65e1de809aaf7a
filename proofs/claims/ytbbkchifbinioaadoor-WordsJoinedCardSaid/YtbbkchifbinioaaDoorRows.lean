/-
  NARROWER THAN 'FOR EVERY INPUT', by the rows' own cells (each row's printed sentence says how): WordsKeys: laid · WordsCover: laid · WordsFields: laid · WordsJoined: laid · WordsPaired: laid · WordsTells: laid · WordsUpper: laid.
  DERIVED. THE GIVEN ROWS OF THIS SEAT. 7 by the template 'for every input the law returns true; each argument reads behind the call as it read before'; 0 by the template 'total and deterministic' (their statements: YtbbkchifbinioaaDoorTotals.lean).
  GIVEN WITH THE SEED: the statements are not yours to turn. If you find one false, say at which input.
  Laid BY PROGRAM, IN A SANDBOX (cutbox-rows.mjs): the forced cells as the released guide's own fill.sh prints them over the translation a0ce2576c50c4d52… (all of the seat's roots in one cut). By AI agents, Wed Nov 11 2026. No macro, syntax, notation, axiom, sorry.
-/
import Derived.Test.YtbbkchifbinioaaDoorChecked
import GoSem.PinnedTables
import GoSem.Claim
import GoSem.ClaimJoined
import GoSem.ClaimMapViews
import Derived.JoinedTies
import Derived.KernelRfl
namespace Go.Proofs.YtbbkchifbinioaaDoor
/- THE CELL 'sum', in the pinned program and in every row, IS THE sha256 OF THE DUMP (.gsa) THAT YtbbkchifbinioaaDoorProg.lean LOADS. Nothing in Lean hashes anything: it is a label: what it is worth is what the hold of that sum in a sandbox is worth. -/
noncomputable def Tryd.pinned : Pinned := { name := "ytbbkchifbinioaadoor", sum := "a0ce2576c50c4d524e445326e459bf8585e465ed4ad281d945aa76fd1e842abc", checked := Tryd.checked }
namespace Rows
def none {H : Type} : Left H := { results := [], args := [] }

/- WHAT THE LISTED PACKAGE-LEVEL VARIABLES READ AS WHEN THE CALL BEGINS. Each datum BY PROGRAM (the guide's laid-datum.mjs) off the statement by which the dump's own 'gosem.cut.vars' lays the variable. In a bare row this is a premise. The card (YtbbkchifbinioaaDoorCards.lean) ties it to the program's text. -/
def laid_unicode_utf8_acceptRanges {H : Type} : DataW H := .agg [.agg [.lit (.int .u8 128), .lit (.int .u8 191)], .agg [.lit (.int .u8 160), .lit (.int .u8 191)], .agg [.lit (.int .u8 128), .lit (.int .u8 159)], .agg [.lit (.int .u8 144), .lit (.int .u8 191)], .agg [.lit (.int .u8 128), .lit (.int .u8 143)], .agg [.lit (.int .u8 0), .lit (.int .u8 0)], .agg [.lit (.int .u8 0), .lit (.int .u8 0)], .agg [.lit (.int .u8 0), .lit (.int .u8 0)], .agg [.lit (.int .u8 0), .lit (.int .u8 0)], .agg [.lit (.int .u8 0), .lit (.int .u8 0)], .agg [.lit (.int .u8 0), .lit (.int .u8 0)], .agg [.lit (.int .u8 0), .lit (.int .u8 0)], .agg [.lit (.int .u8 0), .lit (.int .u8 0)], .agg [.lit (.int .u8 0), .lit (.int .u8 0)], .agg [.lit (.int .u8 0), .lit (.int .u8 0)], .agg [.lit (.int .u8 0), .lit (.int .u8 0)]]
/-- One of Go's own tables, pinned by name: the form's constant. -/
def laid_unicode_utf8_first : DataW Unit := Go.Pinned.utf8First

/-- 'entrepotlaw03.WordsKeys': WHATEVER THE INPUT: true; the input reads as it did. -/
def wordsKeysSpec : ChangeSpec := { name := "wordsKeys", fn := fun _ => fun
  | [d1, d2, d3] => { results := [.lit (.bool true)], args := [d1, d2, d3] }
  | _ => none }
def wordsKeysRow : OpenClaim := { program := "ytbbkchifbinioaadoor", sum := "a0ce2576c50c4d524e445326e459bf8585e465ed4ad281d945aa76fd1e842abc", func := "entrepot/entrepotlaw03.WordsKeys", spec := "wordsKeys", inPlace := ["internal/bytealg.IndexByteString", "internal/bytealg.IndexString"], unfollowed := true, recurses := true, named := ["internal/bytealg.MaxLen", "unicode/utf8.first", "unicode/utf8.acceptRanges"], apart := false, laid := [("unicode/utf8.acceptRanges", laid_unicode_utf8_acceptRanges), ("unicode/utf8.first", laid_unicode_utf8_first)] }
def WordsKeysSaid : Prop := wordsKeysRow.holds Tryd.pinned (OpenSpec.ofChange wordsKeysSpec)

/-- ITS FALSE NEIGHBOUR: 'it returns false'. Refute it at one input. -/
def wordsKeysWrong : ChangeSpec := { name := "wordsKeys", fn := fun _ => fun
  | [d1, d2, d3] => { results := [.lit (.bool false)], args := [d1, d2, d3] }
  | _ => none }
def WordsKeysWrongFalsely : Prop := wordsKeysRow.holds Tryd.pinned (OpenSpec.ofChange wordsKeysWrong)

/-- 'entrepotlaw03.WordsCover': WHATEVER THE INPUT: true; the input reads as it did. -/
def wordsCoverSpec : ChangeSpec := { name := "wordsCover", fn := fun _ => fun
  | [d] => { results := [.lit (.bool true)], args := [d] }
  | _ => none }
def wordsCoverRow : OpenClaim := { program := "ytbbkchifbinioaadoor", sum := "a0ce2576c50c4d524e445326e459bf8585e465ed4ad281d945aa76fd1e842abc", func := "entrepot/entrepotlaw03.WordsCover", spec := "wordsCover", inPlace := ["internal/bytealg.IndexByteString", "internal/bytealg.IndexString"], unfollowed := true, recurses := true, named := ["internal/bytealg.MaxLen", "unicode/utf8.first", "unicode/utf8.acceptRanges"], apart := false, laid := [("unicode/utf8.acceptRanges", laid_unicode_utf8_acceptRanges), ("unicode/utf8.first", laid_unicode_utf8_first)] }
def WordsCoverSaid : Prop := wordsCoverRow.holds Tryd.pinned (OpenSpec.ofChange wordsCoverSpec)

/-- ITS FALSE NEIGHBOUR: 'it returns false'. Refute it at one input. -/
def wordsCoverWrong : ChangeSpec := { name := "wordsCover", fn := fun _ => fun
  | [d] => { results := [.lit (.bool false)], args := [d] }
  | _ => none }
def WordsCoverWrongFalsely : Prop := wordsCoverRow.holds Tryd.pinned (OpenSpec.ofChange wordsCoverWrong)

/-- 'entrepotlaw03.WordsFields': WHATEVER THE INPUT: true; the input reads as it did. -/
def wordsFieldsSpec : ChangeSpec := { name := "wordsFields", fn := fun _ => fun
  | [d1, d2, d3] => { results := [.lit (.bool true)], args := [d1, d2, d3] }
  | _ => none }
def wordsFieldsRow : OpenClaim := { program := "ytbbkchifbinioaadoor", sum := "a0ce2576c50c4d524e445326e459bf8585e465ed4ad281d945aa76fd1e842abc", func := "entrepot/entrepotlaw03.WordsFields", spec := "wordsFields", inPlace := ["internal/bytealg.IndexByteString", "internal/bytealg.IndexString"], unfollowed := true, recurses := true, named := ["internal/bytealg.MaxLen", "unicode/utf8.first", "unicode/utf8.acceptRanges"], apart := false, laid := [("unicode/utf8.acceptRanges", laid_unicode_utf8_acceptRanges), ("unicode/utf8.first", laid_unicode_utf8_first)] }
def WordsFieldsSaid : Prop := wordsFieldsRow.holds Tryd.pinned (OpenSpec.ofChange wordsFieldsSpec)

/-- ITS FALSE NEIGHBOUR: 'it returns false'. Refute it at one input. -/
def wordsFieldsWrong : ChangeSpec := { name := "wordsFields", fn := fun _ => fun
  | [d1, d2, d3] => { results := [.lit (.bool false)], args := [d1, d2, d3] }
  | _ => none }
def WordsFieldsWrongFalsely : Prop := wordsFieldsRow.holds Tryd.pinned (OpenSpec.ofChange wordsFieldsWrong)

/-- 'entrepotlaw03.WordsJoined': WHATEVER THE INPUT: true; the input reads as it did. -/
def wordsJoinedSpec : ChangeSpec := { name := "wordsJoined", fn := fun _ => fun
  | [d1, d2] => { results := [.lit (.bool true)], args := [d1, d2] }
  | _ => none }
def wordsJoinedRow : OpenClaim := { program := "ytbbkchifbinioaadoor", sum := "a0ce2576c50c4d524e445326e459bf8585e465ed4ad281d945aa76fd1e842abc", func := "entrepot/entrepotlaw03.WordsJoined", spec := "wordsJoined", inPlace := ["internal/bytealg.IndexByteString", "internal/bytealg.IndexString"], unfollowed := true, recurses := true, named := ["internal/bytealg.MaxLen", "unicode/utf8.first", "unicode/utf8.acceptRanges"], apart := false, laid := [("unicode/utf8.acceptRanges", laid_unicode_utf8_acceptRanges), ("unicode/utf8.first", laid_unicode_utf8_first)] }
def WordsJoinedSaid : Prop := wordsJoinedRow.holds Tryd.pinned (OpenSpec.ofChange wordsJoinedSpec)

/-- ITS FALSE NEIGHBOUR: 'it returns false'. Refute it at one input. -/
def wordsJoinedWrong : ChangeSpec := { name := "wordsJoined", fn := fun _ => fun
  | [d1, d2] => { results := [.lit (.bool false)], args := [d1, d2] }
  | _ => none }
def WordsJoinedWrongFalsely : Prop := wordsJoinedRow.holds Tryd.pinned (OpenSpec.ofChange wordsJoinedWrong)

/-- 'entrepotlaw03.WordsPaired': WHATEVER THE INPUT: true; the input reads as it did. -/
def wordsPairedSpec : ChangeSpec := { name := "wordsPaired", fn := fun _ => fun
  | [d1, d2, d3] => { results := [.lit (.bool true)], args := [d1, d2, d3] }
  | _ => none }
def wordsPairedRow : OpenClaim := { program := "ytbbkchifbinioaadoor", sum := "a0ce2576c50c4d524e445326e459bf8585e465ed4ad281d945aa76fd1e842abc", func := "entrepot/entrepotlaw03.WordsPaired", spec := "wordsPaired", inPlace := ["internal/bytealg.IndexByteString", "internal/bytealg.IndexString"], unfollowed := true, recurses := true, named := ["internal/bytealg.MaxLen", "unicode/utf8.first", "unicode/utf8.acceptRanges"], apart := false, laid := [("unicode/utf8.acceptRanges", laid_unicode_utf8_acceptRanges), ("unicode/utf8.first", laid_unicode_utf8_first)] }
def WordsPairedSaid : Prop := wordsPairedRow.holds Tryd.pinned (OpenSpec.ofChange wordsPairedSpec)

/-- ITS FALSE NEIGHBOUR: 'it returns false'. Refute it at one input. -/
def wordsPairedWrong : ChangeSpec := { name := "wordsPaired", fn := fun _ => fun
  | [d1, d2, d3] => { results := [.lit (.bool false)], args := [d1, d2, d3] }
  | _ => none }
def WordsPairedWrongFalsely : Prop := wordsPairedRow.holds Tryd.pinned (OpenSpec.ofChange wordsPairedWrong)

/-- 'entrepotlaw03.WordsTells': WHATEVER THE INPUT: true; the input reads as it did. -/
def wordsTellsSpec : ChangeSpec := { name := "wordsTells", fn := fun _ => fun
  | [d] => { results := [.lit (.bool true)], args := [d] }
  | _ => none }
def wordsTellsRow : OpenClaim := { program := "ytbbkchifbinioaadoor", sum := "a0ce2576c50c4d524e445326e459bf8585e465ed4ad281d945aa76fd1e842abc", func := "entrepot/entrepotlaw03.WordsTells", spec := "wordsTells", inPlace := ["internal/bytealg.IndexByteString", "internal/bytealg.IndexString"], unfollowed := true, recurses := true, named := ["internal/bytealg.MaxLen", "unicode/utf8.first", "unicode/utf8.acceptRanges"], apart := false, laid := [("unicode/utf8.acceptRanges", laid_unicode_utf8_acceptRanges), ("unicode/utf8.first", laid_unicode_utf8_first)] }
def WordsTellsSaid : Prop := wordsTellsRow.holds Tryd.pinned (OpenSpec.ofChange wordsTellsSpec)

/-- ITS FALSE NEIGHBOUR: 'it returns false'. Refute it at one input. -/
def wordsTellsWrong : ChangeSpec := { name := "wordsTells", fn := fun _ => fun
  | [d] => { results := [.lit (.bool false)], args := [d] }
  | _ => none }
def WordsTellsWrongFalsely : Prop := wordsTellsRow.holds Tryd.pinned (OpenSpec.ofChange wordsTellsWrong)

/-- 'entrepotlaw03.WordsUpper': WHATEVER THE INPUT: true; the input reads as it did. -/
def wordsUpperSpec : ChangeSpec := { name := "wordsUpper", fn := fun _ => fun
  | [d] => { results := [.lit (.bool true)], args := [d] }
  | _ => none }
def wordsUpperRow : OpenClaim := { program := "ytbbkchifbinioaadoor", sum := "a0ce2576c50c4d524e445326e459bf8585e465ed4ad281d945aa76fd1e842abc", func := "entrepot/entrepotlaw03.WordsUpper", spec := "wordsUpper", inPlace := ["internal/bytealg.IndexByteString", "internal/bytealg.IndexString"], unfollowed := true, recurses := true, named := ["internal/bytealg.MaxLen", "unicode/utf8.first", "unicode/utf8.acceptRanges"], apart := false, laid := [("unicode/utf8.acceptRanges", laid_unicode_utf8_acceptRanges), ("unicode/utf8.first", laid_unicode_utf8_first)] }
def WordsUpperSaid : Prop := wordsUpperRow.holds Tryd.pinned (OpenSpec.ofChange wordsUpperSpec)

/-- ITS FALSE NEIGHBOUR: 'it returns false'. Refute it at one input. -/
def wordsUpperWrong : ChangeSpec := { name := "wordsUpper", fn := fun _ => fun
  | [d] => { results := [.lit (.bool false)], args := [d] }
  | _ => none }
def WordsUpperWrongFalsely : Prop := wordsUpperRow.holds Tryd.pinned (OpenSpec.ofChange wordsUpperWrong)

/- THE SECOND FORM. 'bulk': how many values and letters a reading holds, each counted each time it is reached (what is shared counts as often as it is met; a slice's spare places count too). A statement '..UptoSaid' is the law's where the arguments, and the package variables that the reading takes, are together of bulk at most 1048576: NARROWER than '..Said'. Prove '..Said' where nothing that the law and all that it calls make is longer than what came in: it says more and counts as full. Else prove '..UptoSaid'. A law counts once. -/
mutual
def uptoBulk {H : Type} : DataW H → Nat
  | .lit (.string bytes) => bytes.length + 1
  | .lit _ => 1
  | .nil => 1
  | .ptr d => uptoBulk d + 1
  | .slice elems spare => uptoBulkAll elems + uptoBulkAll spare + 1
  | .agg parts => uptoBulkAll parts + 1
  | .iface _ d => uptoBulk d + 1
  | .map entries => uptoBulkEntries entries + 1
  | .held _ => 1
def uptoBulkAll {H : Type} : List (DataW H) → Nat
  | [] => 0
  | d :: r => uptoBulk d + uptoBulkAll r
def uptoBulkEntries {H : Type} : List (Lit × DataW H) → Nat
  | [] => 0
  | x :: r => uptoBulkEntry x + uptoBulkEntries r
def uptoBulkEntry {H : Type} : Lit × DataW H → Nat
  | (.string bytes, d) => bytes.length + uptoBulk d + 1
  | (_, d) => uptoBulk d + 1
 end
def uptoSmall : (H : Type) → List (DataW H) → Bool := fun _ ds => decide (uptoBulkAll ds ≤ 1048576)
def OpenSpec.upto (s : _root_.Go.ChangeSpec) : _root_.Go.OpenSpec := { _root_.Go.OpenSpec.ofChange s with cond := some uptoSmall }

/-- 'entrepotlaw03.WordsKeys', WHERE WHAT IT READS IS OF BULK AT MOST 1048576: true; the input reads as it did. -/
def wordsKeysUptoRow : OpenClaim := { program := "ytbbkchifbinioaadoor", sum := "a0ce2576c50c4d524e445326e459bf8585e465ed4ad281d945aa76fd1e842abc", func := "entrepot/entrepotlaw03.WordsKeys", spec := "wordsKeys", inPlace := ["internal/bytealg.IndexByteString", "internal/bytealg.IndexString"], unfollowed := true, recurses := true, named := ["internal/bytealg.MaxLen", "unicode/utf8.first", "unicode/utf8.acceptRanges"], apart := false, laid := [("unicode/utf8.acceptRanges", laid_unicode_utf8_acceptRanges), ("unicode/utf8.first", laid_unicode_utf8_first)], narrowed := true }
def WordsKeysUptoSaid : Prop := wordsKeysUptoRow.holds Tryd.pinned (OpenSpec.upto wordsKeysSpec)

/-- 'entrepotlaw03.WordsCover', WHERE WHAT IT READS IS OF BULK AT MOST 1048576: true; the input reads as it did. -/
def wordsCoverUptoRow : OpenClaim := { program := "ytbbkchifbinioaadoor", sum := "a0ce2576c50c4d524e445326e459bf8585e465ed4ad281d945aa76fd1e842abc", func := "entrepot/entrepotlaw03.WordsCover", spec := "wordsCover", inPlace := ["internal/bytealg.IndexByteString", "internal/bytealg.IndexString"], unfollowed := true, recurses := true, named := ["internal/bytealg.MaxLen", "unicode/utf8.first", "unicode/utf8.acceptRanges"], apart := false, laid := [("unicode/utf8.acceptRanges", laid_unicode_utf8_acceptRanges), ("unicode/utf8.first", laid_unicode_utf8_first)], narrowed := true }
def WordsCoverUptoSaid : Prop := wordsCoverUptoRow.holds Tryd.pinned (OpenSpec.upto wordsCoverSpec)

/-- 'entrepotlaw03.WordsFields', WHERE WHAT IT READS IS OF BULK AT MOST 1048576: true; the input reads as it did. -/
def wordsFieldsUptoRow : OpenClaim := { program := "ytbbkchifbinioaadoor", sum := "a0ce2576c50c4d524e445326e459bf8585e465ed4ad281d945aa76fd1e842abc", func := "entrepot/entrepotlaw03.WordsFields", spec := "wordsFields", inPlace := ["internal/bytealg.IndexByteString", "internal/bytealg.IndexString"], unfollowed := true, recurses := true, named := ["internal/bytealg.MaxLen", "unicode/utf8.first", "unicode/utf8.acceptRanges"], apart := false, laid := [("unicode/utf8.acceptRanges", laid_unicode_utf8_acceptRanges), ("unicode/utf8.first", laid_unicode_utf8_first)], narrowed := true }
def WordsFieldsUptoSaid : Prop := wordsFieldsUptoRow.holds Tryd.pinned (OpenSpec.upto wordsFieldsSpec)

/-- 'entrepotlaw03.WordsJoined', WHERE WHAT IT READS IS OF BULK AT MOST 1048576: true; the input reads as it did. -/
def wordsJoinedUptoRow : OpenClaim := { program := "ytbbkchifbinioaadoor", sum := "a0ce2576c50c4d524e445326e459bf8585e465ed4ad281d945aa76fd1e842abc", func := "entrepot/entrepotlaw03.WordsJoined", spec := "wordsJoined", inPlace := ["internal/bytealg.IndexByteString", "internal/bytealg.IndexString"], unfollowed := true, recurses := true, named := ["internal/bytealg.MaxLen", "unicode/utf8.first", "unicode/utf8.acceptRanges"], apart := false, laid := [("unicode/utf8.acceptRanges", laid_unicode_utf8_acceptRanges), ("unicode/utf8.first", laid_unicode_utf8_first)], narrowed := true }
def WordsJoinedUptoSaid : Prop := wordsJoinedUptoRow.holds Tryd.pinned (OpenSpec.upto wordsJoinedSpec)

/-- 'entrepotlaw03.WordsPaired', WHERE WHAT IT READS IS OF BULK AT MOST 1048576: true; the input reads as it did. -/
def wordsPairedUptoRow : OpenClaim := { program := "ytbbkchifbinioaadoor", sum := "a0ce2576c50c4d524e445326e459bf8585e465ed4ad281d945aa76fd1e842abc", func := "entrepot/entrepotlaw03.WordsPaired", spec := "wordsPaired", inPlace := ["internal/bytealg.IndexByteString", "internal/bytealg.IndexString"], unfollowed := true, recurses := true, named := ["internal/bytealg.MaxLen", "unicode/utf8.first", "unicode/utf8.acceptRanges"], apart := false, laid := [("unicode/utf8.acceptRanges", laid_unicode_utf8_acceptRanges), ("unicode/utf8.first", laid_unicode_utf8_first)], narrowed := true }
def WordsPairedUptoSaid : Prop := wordsPairedUptoRow.holds Tryd.pinned (OpenSpec.upto wordsPairedSpec)

/-- 'entrepotlaw03.WordsTells', WHERE WHAT IT READS IS OF BULK AT MOST 1048576: true; the input reads as it did. -/
def wordsTellsUptoRow : OpenClaim := { program := "ytbbkchifbinioaadoor", sum := "a0ce2576c50c4d524e445326e459bf8585e465ed4ad281d945aa76fd1e842abc", func := "entrepot/entrepotlaw03.WordsTells", spec := "wordsTells", inPlace := ["internal/bytealg.IndexByteString", "internal/bytealg.IndexString"], unfollowed := true, recurses := true, named := ["internal/bytealg.MaxLen", "unicode/utf8.first", "unicode/utf8.acceptRanges"], apart := false, laid := [("unicode/utf8.acceptRanges", laid_unicode_utf8_acceptRanges), ("unicode/utf8.first", laid_unicode_utf8_first)], narrowed := true }
def WordsTellsUptoSaid : Prop := wordsTellsUptoRow.holds Tryd.pinned (OpenSpec.upto wordsTellsSpec)

/-- 'entrepotlaw03.WordsUpper', WHERE WHAT IT READS IS OF BULK AT MOST 1048576: true; the input reads as it did. -/
def wordsUpperUptoRow : OpenClaim := { program := "ytbbkchifbinioaadoor", sum := "a0ce2576c50c4d524e445326e459bf8585e465ed4ad281d945aa76fd1e842abc", func := "entrepot/entrepotlaw03.WordsUpper", spec := "wordsUpper", inPlace := ["internal/bytealg.IndexByteString", "internal/bytealg.IndexString"], unfollowed := true, recurses := true, named := ["internal/bytealg.MaxLen", "unicode/utf8.first", "unicode/utf8.acceptRanges"], apart := false, laid := [("unicode/utf8.acceptRanges", laid_unicode_utf8_acceptRanges), ("unicode/utf8.first", laid_unicode_utf8_first)], narrowed := true }
def WordsUpperUptoSaid : Prop := wordsUpperUptoRow.holds Tryd.pinned (OpenSpec.upto wordsUpperSpec)

end Rows
end Go.Proofs.YtbbkchifbinioaaDoor
