/-
  NARROWER THAN 'FOR EVERY INPUT', by the rows' own cells (each row's printed sentence says how): CursorLines: laid · CursorWhere: laid · CursorBack: laid · CursorCover: laid · CursorJoin: laid · CursorEnds: laid.
  DERIVED. THE GIVEN ROWS OF THIS SEAT. 6 by the template 'for every input the law returns true; each argument reads behind the call as it read before'; 0 by the template 'total and deterministic' (their statements: YtfdeffjdhpdfeaaDoorTotals.lean).
  GIVEN WITH THE SEED: the statements are not yours to turn. If you find one false, say at which input.
  Laid BY PROGRAM, IN A SANDBOX (cutbox-rows.mjs): the forced cells as the released guide's own fill.sh prints them over the translation 4762990d519be4ba… (all of the seat's roots in one cut). By AI agents, Wed Nov 11 2026. No macro, syntax, notation, axiom, sorry.
-/
import Derived.Test.YtfdeffjdhpdfeaaDoorChecked
import GoSem.PinnedTables
import GoSem.Claim
import GoSem.ClaimJoined
import GoSem.ClaimMapViews
import Derived.JoinedTies
import Derived.KernelRfl
namespace Go.Proofs.YtfdeffjdhpdfeaaDoor
/- THE CELL 'sum', in the pinned program and in every row, IS THE sha256 OF THE DUMP (.gsa) THAT YtfdeffjdhpdfeaaDoorProg.lean LOADS. Nothing in Lean hashes anything: it is a label: what it is worth is what the hold of that sum in a sandbox is worth. -/
noncomputable def Tryd.pinned : Pinned := { name := "ytfdeffjdhpdfeaadoor", sum := "4762990d519be4ba2ff6cb9a8a056d3a8381d40ee6c2583dfc33569275a0a3c5", checked := Tryd.checked }
namespace Rows
def none {H : Type} : Left H := { results := [], args := [] }

/- WHAT THE LISTED PACKAGE-LEVEL VARIABLES READ AS WHEN THE CALL BEGINS. Each datum BY PROGRAM (the guide's laid-datum.mjs) off the statement by which the dump's own 'gosem.cut.vars' lays the variable. In a bare row this is a premise. The card (YtfdeffjdhpdfeaaDoorCards.lean) ties it to the program's text. -/
def laid_unicode_utf8_acceptRanges {H : Type} : DataW H := .agg [.agg [.lit (.int .u8 128), .lit (.int .u8 191)], .agg [.lit (.int .u8 160), .lit (.int .u8 191)], .agg [.lit (.int .u8 128), .lit (.int .u8 159)], .agg [.lit (.int .u8 144), .lit (.int .u8 191)], .agg [.lit (.int .u8 128), .lit (.int .u8 143)], .agg [.lit (.int .u8 0), .lit (.int .u8 0)], .agg [.lit (.int .u8 0), .lit (.int .u8 0)], .agg [.lit (.int .u8 0), .lit (.int .u8 0)], .agg [.lit (.int .u8 0), .lit (.int .u8 0)], .agg [.lit (.int .u8 0), .lit (.int .u8 0)], .agg [.lit (.int .u8 0), .lit (.int .u8 0)], .agg [.lit (.int .u8 0), .lit (.int .u8 0)], .agg [.lit (.int .u8 0), .lit (.int .u8 0)], .agg [.lit (.int .u8 0), .lit (.int .u8 0)], .agg [.lit (.int .u8 0), .lit (.int .u8 0)], .agg [.lit (.int .u8 0), .lit (.int .u8 0)]]
/-- One of Go's own tables, pinned by name: the form's constant. -/
def laid_unicode_utf8_first : DataW Unit := Go.Pinned.utf8First

/-- 'entrepotlaw01.CursorLines': WHATEVER THE INPUT: true; the input reads as it did. -/
def cursorLinesSpec : ChangeSpec := { name := "cursorLines", fn := fun _ => fun
  | [d] => { results := [.lit (.bool true)], args := [d] }
  | _ => none }
def cursorLinesRow : OpenClaim := { program := "ytfdeffjdhpdfeaadoor", sum := "4762990d519be4ba2ff6cb9a8a056d3a8381d40ee6c2583dfc33569275a0a3c5", func := "entrepot/entrepotlaw01.CursorLines", spec := "cursorLines", inPlace := ["internal/bytealg.IndexByteString", "internal/bytealg.IndexString"], unfollowed := true, recurses := true, named := ["internal/bytealg.MaxLen", "unicode/utf8.first", "unicode/utf8.acceptRanges"], apart := false, laid := [("unicode/utf8.acceptRanges", laid_unicode_utf8_acceptRanges), ("unicode/utf8.first", laid_unicode_utf8_first)] }
def CursorLinesSaid : Prop := cursorLinesRow.holds Tryd.pinned (OpenSpec.ofChange cursorLinesSpec)

/-- ITS FALSE NEIGHBOUR: 'it returns false'. Refute it at one input. -/
def cursorLinesWrong : ChangeSpec := { name := "cursorLines", fn := fun _ => fun
  | [d] => { results := [.lit (.bool false)], args := [d] }
  | _ => none }
def CursorLinesWrongFalsely : Prop := cursorLinesRow.holds Tryd.pinned (OpenSpec.ofChange cursorLinesWrong)

/-- 'entrepotlaw01.CursorWhere': WHATEVER THE INPUT: true; the input reads as it did. -/
def cursorWhereSpec : ChangeSpec := { name := "cursorWhere", fn := fun _ => fun
  | [d1, d2, d3, d4] => { results := [.lit (.bool true)], args := [d1, d2, d3, d4] }
  | _ => none }
def cursorWhereRow : OpenClaim := { program := "ytfdeffjdhpdfeaadoor", sum := "4762990d519be4ba2ff6cb9a8a056d3a8381d40ee6c2583dfc33569275a0a3c5", func := "entrepot/entrepotlaw01.CursorWhere", spec := "cursorWhere", inPlace := ["internal/bytealg.IndexByteString", "internal/bytealg.IndexString"], unfollowed := true, recurses := true, named := ["internal/bytealg.MaxLen", "unicode/utf8.first", "unicode/utf8.acceptRanges"], apart := false, laid := [("unicode/utf8.acceptRanges", laid_unicode_utf8_acceptRanges), ("unicode/utf8.first", laid_unicode_utf8_first)] }
def CursorWhereSaid : Prop := cursorWhereRow.holds Tryd.pinned (OpenSpec.ofChange cursorWhereSpec)

/-- ITS FALSE NEIGHBOUR: 'it returns false'. Refute it at one input. -/
def cursorWhereWrong : ChangeSpec := { name := "cursorWhere", fn := fun _ => fun
  | [d1, d2, d3, d4] => { results := [.lit (.bool false)], args := [d1, d2, d3, d4] }
  | _ => none }
def CursorWhereWrongFalsely : Prop := cursorWhereRow.holds Tryd.pinned (OpenSpec.ofChange cursorWhereWrong)

/-- 'entrepotlaw01.CursorBack': WHATEVER THE INPUT: true; the input reads as it did. -/
def cursorBackSpec : ChangeSpec := { name := "cursorBack", fn := fun _ => fun
  | [d1, d2, d3] => { results := [.lit (.bool true)], args := [d1, d2, d3] }
  | _ => none }
def cursorBackRow : OpenClaim := { program := "ytfdeffjdhpdfeaadoor", sum := "4762990d519be4ba2ff6cb9a8a056d3a8381d40ee6c2583dfc33569275a0a3c5", func := "entrepot/entrepotlaw01.CursorBack", spec := "cursorBack", inPlace := ["internal/bytealg.IndexByteString", "internal/bytealg.IndexString"], unfollowed := true, recurses := true, named := ["internal/bytealg.MaxLen", "unicode/utf8.first", "unicode/utf8.acceptRanges"], apart := false, laid := [("unicode/utf8.acceptRanges", laid_unicode_utf8_acceptRanges), ("unicode/utf8.first", laid_unicode_utf8_first)] }
def CursorBackSaid : Prop := cursorBackRow.holds Tryd.pinned (OpenSpec.ofChange cursorBackSpec)

/-- ITS FALSE NEIGHBOUR: 'it returns false'. Refute it at one input. -/
def cursorBackWrong : ChangeSpec := { name := "cursorBack", fn := fun _ => fun
  | [d1, d2, d3] => { results := [.lit (.bool false)], args := [d1, d2, d3] }
  | _ => none }
def CursorBackWrongFalsely : Prop := cursorBackRow.holds Tryd.pinned (OpenSpec.ofChange cursorBackWrong)

/-- 'entrepotlaw01.CursorCover': WHATEVER THE INPUT: true; the input reads as it did. -/
def cursorCoverSpec : ChangeSpec := { name := "cursorCover", fn := fun _ => fun
  | [d] => { results := [.lit (.bool true)], args := [d] }
  | _ => none }
def cursorCoverRow : OpenClaim := { program := "ytfdeffjdhpdfeaadoor", sum := "4762990d519be4ba2ff6cb9a8a056d3a8381d40ee6c2583dfc33569275a0a3c5", func := "entrepot/entrepotlaw01.CursorCover", spec := "cursorCover", inPlace := ["internal/bytealg.IndexByteString", "internal/bytealg.IndexString"], unfollowed := true, recurses := true, named := ["internal/bytealg.MaxLen", "unicode/utf8.first", "unicode/utf8.acceptRanges"], apart := false, laid := [("unicode/utf8.acceptRanges", laid_unicode_utf8_acceptRanges), ("unicode/utf8.first", laid_unicode_utf8_first)] }
def CursorCoverSaid : Prop := cursorCoverRow.holds Tryd.pinned (OpenSpec.ofChange cursorCoverSpec)

/-- ITS FALSE NEIGHBOUR: 'it returns false'. Refute it at one input. -/
def cursorCoverWrong : ChangeSpec := { name := "cursorCover", fn := fun _ => fun
  | [d] => { results := [.lit (.bool false)], args := [d] }
  | _ => none }
def CursorCoverWrongFalsely : Prop := cursorCoverRow.holds Tryd.pinned (OpenSpec.ofChange cursorCoverWrong)

/-- 'entrepotlaw01.CursorJoin': WHATEVER THE INPUT: true; the input reads as it did. -/
def cursorJoinSpec : ChangeSpec := { name := "cursorJoin", fn := fun _ => fun
  | [d1, d2] => { results := [.lit (.bool true)], args := [d1, d2] }
  | _ => none }
def cursorJoinRow : OpenClaim := { program := "ytfdeffjdhpdfeaadoor", sum := "4762990d519be4ba2ff6cb9a8a056d3a8381d40ee6c2583dfc33569275a0a3c5", func := "entrepot/entrepotlaw01.CursorJoin", spec := "cursorJoin", inPlace := ["internal/bytealg.IndexByteString", "internal/bytealg.IndexString"], unfollowed := true, recurses := true, named := ["internal/bytealg.MaxLen", "unicode/utf8.first", "unicode/utf8.acceptRanges"], apart := false, laid := [("unicode/utf8.acceptRanges", laid_unicode_utf8_acceptRanges), ("unicode/utf8.first", laid_unicode_utf8_first)] }
def CursorJoinSaid : Prop := cursorJoinRow.holds Tryd.pinned (OpenSpec.ofChange cursorJoinSpec)

/-- ITS FALSE NEIGHBOUR: 'it returns false'. Refute it at one input. -/
def cursorJoinWrong : ChangeSpec := { name := "cursorJoin", fn := fun _ => fun
  | [d1, d2] => { results := [.lit (.bool false)], args := [d1, d2] }
  | _ => none }
def CursorJoinWrongFalsely : Prop := cursorJoinRow.holds Tryd.pinned (OpenSpec.ofChange cursorJoinWrong)

/-- 'entrepotlaw01.CursorEnds': WHATEVER THE INPUT: true; the input reads as it did. -/
def cursorEndsSpec : ChangeSpec := { name := "cursorEnds", fn := fun _ => fun
  | [d] => { results := [.lit (.bool true)], args := [d] }
  | _ => none }
def cursorEndsRow : OpenClaim := { program := "ytfdeffjdhpdfeaadoor", sum := "4762990d519be4ba2ff6cb9a8a056d3a8381d40ee6c2583dfc33569275a0a3c5", func := "entrepot/entrepotlaw01.CursorEnds", spec := "cursorEnds", inPlace := ["internal/bytealg.IndexByteString", "internal/bytealg.IndexString"], unfollowed := true, recurses := true, named := ["internal/bytealg.MaxLen", "unicode/utf8.first", "unicode/utf8.acceptRanges"], apart := false, laid := [("unicode/utf8.acceptRanges", laid_unicode_utf8_acceptRanges), ("unicode/utf8.first", laid_unicode_utf8_first)] }
def CursorEndsSaid : Prop := cursorEndsRow.holds Tryd.pinned (OpenSpec.ofChange cursorEndsSpec)

/-- ITS FALSE NEIGHBOUR: 'it returns false'. Refute it at one input. -/
def cursorEndsWrong : ChangeSpec := { name := "cursorEnds", fn := fun _ => fun
  | [d] => { results := [.lit (.bool false)], args := [d] }
  | _ => none }
def CursorEndsWrongFalsely : Prop := cursorEndsRow.holds Tryd.pinned (OpenSpec.ofChange cursorEndsWrong)

/- THE SECOND FORM. 'bulk': how many values and letters a reading holds, each counted each time it is reached (what is shared counts as often as it is met; a slice's spare places count too). A statement '..UptoSaid' is the law's where the arguments, and the package variables that the reading takes, are together of bulk at most 1048576: NARROWER than '..Said'. Prove '..Said' where nothing that the law and all that it calls make is longer than what came in: it says more and counts as full. Else prove '..UptoSaid'. A law counts once. -/
mutual
def uptoBulk {H : Type} : DataW H → Nat
  | .lit (.string bytes) => bytes.length + 1
  | .lit _ => 1
  | .nil => 1
  | .ptr d => uptoBulk d + 1
  | .slice elems spare => uptoBulkAll elems + uptoBulkAll spare + 1
  | .agg parts => uptoBulkAll parts + 1
  | .iface _ d => uptoBulk d + 1
  | .map entries => uptoBulkEntries entries + 1
  | .held _ => 1
def uptoBulkAll {H : Type} : List (DataW H) → Nat
  | [] => 0
  | d :: r => uptoBulk d + uptoBulkAll r
def uptoBulkEntries {H : Type} : List (Lit × DataW H) → Nat
  | [] => 0
  | x :: r => uptoBulkEntry x + uptoBulkEntries r
def uptoBulkEntry {H : Type} : Lit × DataW H → Nat
  | (.string bytes, d) => bytes.length + uptoBulk d + 1
  | (_, d) => uptoBulk d + 1
 end
def uptoSmall : (H : Type) → List (DataW H) → Bool := fun _ ds => decide (uptoBulkAll ds ≤ 1048576)
def OpenSpec.upto (s : _root_.Go.ChangeSpec) : _root_.Go.OpenSpec := { _root_.Go.OpenSpec.ofChange s with cond := some uptoSmall }

/-- 'entrepotlaw01.CursorLines', WHERE WHAT IT READS IS OF BULK AT MOST 1048576: true; the input reads as it did. -/
def cursorLinesUptoRow : OpenClaim := { program := "ytfdeffjdhpdfeaadoor", sum := "4762990d519be4ba2ff6cb9a8a056d3a8381d40ee6c2583dfc33569275a0a3c5", func := "entrepot/entrepotlaw01.CursorLines", spec := "cursorLines", inPlace := ["internal/bytealg.IndexByteString", "internal/bytealg.IndexString"], unfollowed := true, recurses := true, named := ["internal/bytealg.MaxLen", "unicode/utf8.first", "unicode/utf8.acceptRanges"], apart := false, laid := [("unicode/utf8.acceptRanges", laid_unicode_utf8_acceptRanges), ("unicode/utf8.first", laid_unicode_utf8_first)], narrowed := true }
def CursorLinesUptoSaid : Prop := cursorLinesUptoRow.holds Tryd.pinned (OpenSpec.upto cursorLinesSpec)

/-- 'entrepotlaw01.CursorWhere', WHERE WHAT IT READS IS OF BULK AT MOST 1048576: true; the input reads as it did. -/
def cursorWhereUptoRow : OpenClaim := { program := "ytfdeffjdhpdfeaadoor", sum := "4762990d519be4ba2ff6cb9a8a056d3a8381d40ee6c2583dfc33569275a0a3c5", func := "entrepot/entrepotlaw01.CursorWhere", spec := "cursorWhere", inPlace := ["internal/bytealg.IndexByteString", "internal/bytealg.IndexString"], unfollowed := true, recurses := true, named := ["internal/bytealg.MaxLen", "unicode/utf8.first", "unicode/utf8.acceptRanges"], apart := false, laid := [("unicode/utf8.acceptRanges", laid_unicode_utf8_acceptRanges), ("unicode/utf8.first", laid_unicode_utf8_first)], narrowed := true }
def CursorWhereUptoSaid : Prop := cursorWhereUptoRow.holds Tryd.pinned (OpenSpec.upto cursorWhereSpec)

/-- 'entrepotlaw01.CursorBack', WHERE WHAT IT READS IS OF BULK AT MOST 1048576: true; the input reads as it did. -/
def cursorBackUptoRow : OpenClaim := { program := "ytfdeffjdhpdfeaadoor", sum := "4762990d519be4ba2ff6cb9a8a056d3a8381d40ee6c2583dfc33569275a0a3c5", func := "entrepot/entrepotlaw01.CursorBack", spec := "cursorBack", inPlace := ["internal/bytealg.IndexByteString", "internal/bytealg.IndexString"], unfollowed := true, recurses := true, named := ["internal/bytealg.MaxLen", "unicode/utf8.first", "unicode/utf8.acceptRanges"], apart := false, laid := [("unicode/utf8.acceptRanges", laid_unicode_utf8_acceptRanges), ("unicode/utf8.first", laid_unicode_utf8_first)], narrowed := true }
def CursorBackUptoSaid : Prop := cursorBackUptoRow.holds Tryd.pinned (OpenSpec.upto cursorBackSpec)

/-- 'entrepotlaw01.CursorCover', WHERE WHAT IT READS IS OF BULK AT MOST 1048576: true; the input reads as it did. -/
def cursorCoverUptoRow : OpenClaim := { program := "ytfdeffjdhpdfeaadoor", sum := "4762990d519be4ba2ff6cb9a8a056d3a8381d40ee6c2583dfc33569275a0a3c5", func := "entrepot/entrepotlaw01.CursorCover", spec := "cursorCover", inPlace := ["internal/bytealg.IndexByteString", "internal/bytealg.IndexString"], unfollowed := true, recurses := true, named := ["internal/bytealg.MaxLen", "unicode/utf8.first", "unicode/utf8.acceptRanges"], apart := false, laid := [("unicode/utf8.acceptRanges", laid_unicode_utf8_acceptRanges), ("unicode/utf8.first", laid_unicode_utf8_first)], narrowed := true }
def CursorCoverUptoSaid : Prop := cursorCoverUptoRow.holds Tryd.pinned (OpenSpec.upto cursorCoverSpec)

/-- 'entrepotlaw01.CursorJoin', WHERE WHAT IT READS IS OF BULK AT MOST 1048576: true; the input reads as it did. -/
def cursorJoinUptoRow : OpenClaim := { program := "ytfdeffjdhpdfeaadoor", sum := "4762990d519be4ba2ff6cb9a8a056d3a8381d40ee6c2583dfc33569275a0a3c5", func := "entrepot/entrepotlaw01.CursorJoin", spec := "cursorJoin", inPlace := ["internal/bytealg.IndexByteString", "internal/bytealg.IndexString"], unfollowed := true, recurses := true, named := ["internal/bytealg.MaxLen", "unicode/utf8.first", "unicode/utf8.acceptRanges"], apart := false, laid := [("unicode/utf8.acceptRanges", laid_unicode_utf8_acceptRanges), ("unicode/utf8.first", laid_unicode_utf8_first)], narrowed := true }
def CursorJoinUptoSaid : Prop := cursorJoinUptoRow.holds Tryd.pinned (OpenSpec.upto cursorJoinSpec)

/-- 'entrepotlaw01.CursorEnds', WHERE WHAT IT READS IS OF BULK AT MOST 1048576: true; the input reads as it did. -/
def cursorEndsUptoRow : OpenClaim := { program := "ytfdeffjdhpdfeaadoor", sum := "4762990d519be4ba2ff6cb9a8a056d3a8381d40ee6c2583dfc33569275a0a3c5", func := "entrepot/entrepotlaw01.CursorEnds", spec := "cursorEnds", inPlace := ["internal/bytealg.IndexByteString", "internal/bytealg.IndexString"], unfollowed := true, recurses := true, named := ["internal/bytealg.MaxLen", "unicode/utf8.first", "unicode/utf8.acceptRanges"], apart := false, laid := [("unicode/utf8.acceptRanges", laid_unicode_utf8_acceptRanges), ("unicode/utf8.first", laid_unicode_utf8_first)], narrowed := true }
def CursorEndsUptoSaid : Prop := cursorEndsUptoRow.holds Tryd.pinned (OpenSpec.upto cursorEndsSpec)

end Rows
end Go.Proofs.YtfdeffjdhpdfeaaDoor
