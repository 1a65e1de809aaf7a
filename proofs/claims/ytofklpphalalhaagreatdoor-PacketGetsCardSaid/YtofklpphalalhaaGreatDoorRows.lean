/-
  NARROWER THAN 'FOR EVERY INPUT', by the rows' own cells (each row's printed sentence says how): RecordBack: laid · RecordBlanks: laid · PacketPuts: laid · PacketGets: laid · PacketTurned: laid · PacketCut: laid · PacketBack: laid · RecordPuts: laid · RecordGets: laid · RecordCut: laid.
  DERIVED. THE GIVEN ROWS OF THIS SEAT. 10 by the template 'for every input the law returns true; each argument reads behind the call as it read before'; 0 by the template 'total and deterministic' (their statements: YtofklpphalalhaaGreatDoorTotals.lean).
  GIVEN WITH THE SEED: the statements are not yours to turn. If you find one false, say at which input.
  Laid BY PROGRAM, IN A SANDBOX (cutbox-rows.mjs): the forced cells as the released guide's own fill.sh prints them over the translation d2401f1470259841… (all of the seat's roots in one cut). By AI agents, Wed Nov 11 2026. No macro, syntax, notation, axiom, sorry.
-/
import Derived.Test.YtofklpphalalhaaGreatDoorChecked
import GoSem.PinnedTables
import GoSem.Claim
import GoSem.ClaimJoined
import GoSem.ClaimMapViews
import Derived.JoinedTies
import Derived.KernelRfl
namespace Go.Proofs.YtofklpphalalhaaGreatDoor
/- THE CELL 'sum', in the pinned program and in every row, IS THE sha256 OF THE DUMP (.gsa) THAT YtofklpphalalhaaGreatDoorProg.lean LOADS. Nothing in Lean hashes anything: it is a label: what it is worth is what the hold of that sum in a sandbox is worth. -/
noncomputable def Tryz.pinned : Pinned := { name := "ytofklpphalalhaagreatdoor", sum := "d2401f147025984145e1ba4f15bd8aac30bb07e454f8f834057ca522fffc06f4", checked := Tryz.checked }
namespace Rows
def none {H : Type} : Left H := { results := [], args := [] }

/- WHAT THE LISTED PACKAGE-LEVEL VARIABLES READ AS WHEN THE CALL BEGINS. Each datum BY PROGRAM (the guide's laid-datum.mjs) off the statement by which the dump's own 'gosem.cut.vars' lays the variable. In a bare row this is a premise. The card (YtofklpphalalhaaGreatDoorCards.lean) ties it to the program's text. -/
def laid_math_bits_deBruijn32tab {H : Type} : DataW H := .agg [.lit (.int .u8 0), .lit (.int .u8 1), .lit (.int .u8 28), .lit (.int .u8 2), .lit (.int .u8 29), .lit (.int .u8 14), .lit (.int .u8 24), .lit (.int .u8 3), .lit (.int .u8 30), .lit (.int .u8 22), .lit (.int .u8 20), .lit (.int .u8 15), .lit (.int .u8 25), .lit (.int .u8 17), .lit (.int .u8 4), .lit (.int .u8 8), .lit (.int .u8 31), .lit (.int .u8 27), .lit (.int .u8 13), .lit (.int .u8 23), .lit (.int .u8 21), .lit (.int .u8 19), .lit (.int .u8 16), .lit (.int .u8 7), .lit (.int .u8 26), .lit (.int .u8 12), .lit (.int .u8 18), .lit (.int .u8 6), .lit (.int .u8 11), .lit (.int .u8 5), .lit (.int .u8 10), .lit (.int .u8 9)]
def laid_math_bits_deBruijn64tab {H : Type} : DataW H := .agg [.lit (.int .u8 0), .lit (.int .u8 1), .lit (.int .u8 56), .lit (.int .u8 2), .lit (.int .u8 57), .lit (.int .u8 49), .lit (.int .u8 28), .lit (.int .u8 3), .lit (.int .u8 61), .lit (.int .u8 58), .lit (.int .u8 42), .lit (.int .u8 50), .lit (.int .u8 38), .lit (.int .u8 29), .lit (.int .u8 17), .lit (.int .u8 4), .lit (.int .u8 62), .lit (.int .u8 47), .lit (.int .u8 59), .lit (.int .u8 36), .lit (.int .u8 45), .lit (.int .u8 43), .lit (.int .u8 51), .lit (.int .u8 22), .lit (.int .u8 53), .lit (.int .u8 39), .lit (.int .u8 33), .lit (.int .u8 30), .lit (.int .u8 24), .lit (.int .u8 18), .lit (.int .u8 12), .lit (.int .u8 5), .lit (.int .u8 63), .lit (.int .u8 55), .lit (.int .u8 48), .lit (.int .u8 27), .lit (.int .u8 60), .lit (.int .u8 41), .lit (.int .u8 37), .lit (.int .u8 16), .lit (.int .u8 46), .lit (.int .u8 35), .lit (.int .u8 44), .lit (.int .u8 21), .lit (.int .u8 52), .lit (.int .u8 32), .lit (.int .u8 23), .lit (.int .u8 11), .lit (.int .u8 54), .lit (.int .u8 26), .lit (.int .u8 40), .lit (.int .u8 15), .lit (.int .u8 34), .lit (.int .u8 20), .lit (.int .u8 31), .lit (.int .u8 10), .lit (.int .u8 25), .lit (.int .u8 14), .lit (.int .u8 19), .lit (.int .u8 9), .lit (.int .u8 13), .lit (.int .u8 8), .lit (.int .u8 7), .lit (.int .u8 6)]
def laid_internal_strconv_uint64pow10 {H : Type} : DataW H := .agg [.lit (.int .u64 1), .lit (.int .u64 10), .lit (.int .u64 100), .lit (.int .u64 1000), .lit (.int .u64 10000), .lit (.int .u64 100000), .lit (.int .u64 1000000), .lit (.int .u64 10000000), .lit (.int .u64 100000000), .lit (.int .u64 1000000000), .lit (.int .u64 10000000000), .lit (.int .u64 100000000000), .lit (.int .u64 1000000000000), .lit (.int .u64 10000000000000), .lit (.int .u64 100000000000000), .lit (.int .u64 1000000000000000), .lit (.int .u64 10000000000000000), .lit (.int .u64 100000000000000000), .lit (.int .u64 1000000000000000000), .lit (.int .u64 10000000000000000000)]
def laid_unicode_utf8_acceptRanges {H : Type} : DataW H := .agg [.agg [.lit (.int .u8 128), .lit (.int .u8 191)], .agg [.lit (.int .u8 160), .lit (.int .u8 191)], .agg [.lit (.int .u8 128), .lit (.int .u8 159)], .agg [.lit (.int .u8 144), .lit (.int .u8 191)], .agg [.lit (.int .u8 128), .lit (.int .u8 143)], .agg [.lit (.int .u8 0), .lit (.int .u8 0)], .agg [.lit (.int .u8 0), .lit (.int .u8 0)], .agg [.lit (.int .u8 0), .lit (.int .u8 0)], .agg [.lit (.int .u8 0), .lit (.int .u8 0)], .agg [.lit (.int .u8 0), .lit (.int .u8 0)], .agg [.lit (.int .u8 0), .lit (.int .u8 0)], .agg [.lit (.int .u8 0), .lit (.int .u8 0)], .agg [.lit (.int .u8 0), .lit (.int .u8 0)], .agg [.lit (.int .u8 0), .lit (.int .u8 0)], .agg [.lit (.int .u8 0), .lit (.int .u8 0)], .agg [.lit (.int .u8 0), .lit (.int .u8 0)]]
def laid_strconv_ErrRange {H : Type} : DataW H := .iface "*errors.errorString" (.ptr (.agg [.lit (.string [118, 97, 108, 117, 101, 32, 111, 117, 116, 32, 111, 102, 32, 114, 97, 110, 103, 101])]))
def laid_strconv_ErrSyntax {H : Type} : DataW H := .iface "*errors.errorString" (.ptr (.agg [.lit (.string [105, 110, 118, 97, 108, 105, 100, 32, 115, 121, 110, 116, 97, 120])]))
/-- One of Go's own tables, pinned by name: the form's constant. -/
def laid_unicode_utf8_first : DataW Unit := Go.Pinned.utf8First
def laid_entrepot_pack_sums {H : Type} : DataW H := .agg [.lit (.int .u32 0), .lit (.int .u32 498536548), .lit (.int .u32 997073096), .lit (.int .u32 651767980), .lit (.int .u32 1994146192), .lit (.int .u32 1802195444), .lit (.int .u32 1303535960), .lit (.int .u32 1342533948), .lit (.int .u32 3988292384), .lit (.int .u32 4027552580), .lit (.int .u32 3604390888), .lit (.int .u32 3412177804), .lit (.int .u32 2607071920), .lit (.int .u32 2262029012), .lit (.int .u32 2685067896), .lit (.int .u32 3183342108)]

/-- 'entrepotlaw20.RecordBack': WHATEVER THE INPUT: true; the input reads as it did. -/
def recordBackSpec : ChangeSpec := { name := "recordBack", fn := fun _ => fun
  | [d1, d2] => { results := [.lit (.bool true)], args := [d1, d2] }
  | _ => none }
def recordBackRow : OpenClaim := { program := "ytofklpphalalhaagreatdoor", sum := "d2401f147025984145e1ba4f15bd8aac30bb07e454f8f834057ca522fffc06f4", func := "entrepot/entrepotlaw20.RecordBack", spec := "recordBack", inPlace := ["internal/abi.NoEscape", "internal/bytealg.IndexByteString", "internal/bytealg.IndexString"], unfollowed := true, recurses := true, named := ["internal/strconv.uint64pow10", "math/bits.deBruijn32tab", "math/bits.deBruijn64tab", "unicode/utf8.first", "unicode/utf8.acceptRanges", "strconv.ErrSyntax", "strconv.ErrRange", "internal/bytealg.MaxLen"], apart := false, laid := [("math/bits.deBruijn32tab", laid_math_bits_deBruijn32tab), ("math/bits.deBruijn64tab", laid_math_bits_deBruijn64tab), ("internal/strconv.uint64pow10", laid_internal_strconv_uint64pow10), ("unicode/utf8.acceptRanges", laid_unicode_utf8_acceptRanges), ("strconv.ErrRange", laid_strconv_ErrRange), ("strconv.ErrSyntax", laid_strconv_ErrSyntax), ("unicode/utf8.first", laid_unicode_utf8_first)] }
def RecordBackSaid : Prop := recordBackRow.holds Tryz.pinned (OpenSpec.ofChange recordBackSpec)

/-- ITS FALSE NEIGHBOUR: 'it returns false'. Refute it at one input. -/
def recordBackWrong : ChangeSpec := { name := "recordBack", fn := fun _ => fun
  | [d1, d2] => { results := [.lit (.bool false)], args := [d1, d2] }
  | _ => none }
def RecordBackWrongFalsely : Prop := recordBackRow.holds Tryz.pinned (OpenSpec.ofChange recordBackWrong)

/-- 'entrepotlaw20.RecordBlanks': WHATEVER THE INPUT: true; the input reads as it did. -/
def recordBlanksSpec : ChangeSpec := { name := "recordBlanks", fn := fun _ => fun
  | [d1, d2, d3] => { results := [.lit (.bool true)], args := [d1, d2, d3] }
  | _ => none }
def recordBlanksRow : OpenClaim := { program := "ytofklpphalalhaagreatdoor", sum := "d2401f147025984145e1ba4f15bd8aac30bb07e454f8f834057ca522fffc06f4", func := "entrepot/entrepotlaw20.RecordBlanks", spec := "recordBlanks", inPlace := ["internal/abi.NoEscape", "internal/bytealg.IndexByteString", "internal/bytealg.IndexString"], unfollowed := true, recurses := true, named := ["internal/strconv.uint64pow10", "math/bits.deBruijn32tab", "math/bits.deBruijn64tab", "unicode/utf8.first", "unicode/utf8.acceptRanges", "strconv.ErrSyntax", "strconv.ErrRange", "internal/bytealg.MaxLen"], apart := false, laid := [("math/bits.deBruijn32tab", laid_math_bits_deBruijn32tab), ("math/bits.deBruijn64tab", laid_math_bits_deBruijn64tab), ("internal/strconv.uint64pow10", laid_internal_strconv_uint64pow10), ("unicode/utf8.acceptRanges", laid_unicode_utf8_acceptRanges), ("strconv.ErrRange", laid_strconv_ErrRange), ("strconv.ErrSyntax", laid_strconv_ErrSyntax), ("unicode/utf8.first", laid_unicode_utf8_first)] }
def RecordBlanksSaid : Prop := recordBlanksRow.holds Tryz.pinned (OpenSpec.ofChange recordBlanksSpec)

/-- ITS FALSE NEIGHBOUR: 'it returns false'. Refute it at one input. -/
def recordBlanksWrong : ChangeSpec := { name := "recordBlanks", fn := fun _ => fun
  | [d1, d2, d3] => { results := [.lit (.bool false)], args := [d1, d2, d3] }
  | _ => none }
def RecordBlanksWrongFalsely : Prop := recordBlanksRow.holds Tryz.pinned (OpenSpec.ofChange recordBlanksWrong)

/-- 'entrepotlaw22.PacketPuts': WHATEVER THE INPUT: true; the input reads as it did. -/
def packetPutsSpec : ChangeSpec := { name := "packetPuts", fn := fun _ => fun
  | [d1, d2] => { results := [.lit (.bool true)], args := [d1, d2] }
  | _ => none }
def packetPutsRow : OpenClaim := { program := "ytofklpphalalhaagreatdoor", sum := "d2401f147025984145e1ba4f15bd8aac30bb07e454f8f834057ca522fffc06f4", func := "entrepot/entrepotlaw22.PacketPuts", spec := "packetPuts", inPlace := ["internal/abi.NoEscape"], unfollowed := true, recurses := true, named := ["entrepot/pack.sums"], apart := false, laid := [("entrepot/pack.sums", laid_entrepot_pack_sums)] }
def PacketPutsSaid : Prop := packetPutsRow.holds Tryz.pinned (OpenSpec.ofChange packetPutsSpec)

/-- ITS FALSE NEIGHBOUR: 'it returns false'. Refute it at one input. -/
def packetPutsWrong : ChangeSpec := { name := "packetPuts", fn := fun _ => fun
  | [d1, d2] => { results := [.lit (.bool false)], args := [d1, d2] }
  | _ => none }
def PacketPutsWrongFalsely : Prop := packetPutsRow.holds Tryz.pinned (OpenSpec.ofChange packetPutsWrong)

/-- 'entrepotlaw22.PacketGets': WHATEVER THE INPUT: true; the input reads as it did. -/
def packetGetsSpec : ChangeSpec := { name := "packetGets", fn := fun _ => fun
  | [d] => { results := [.lit (.bool true)], args := [d] }
  | _ => none }
def packetGetsRow : OpenClaim := { program := "ytofklpphalalhaagreatdoor", sum := "d2401f147025984145e1ba4f15bd8aac30bb07e454f8f834057ca522fffc06f4", func := "entrepot/entrepotlaw22.PacketGets", spec := "packetGets", inPlace := ["internal/abi.NoEscape"], unfollowed := true, recurses := true, named := ["entrepot/pack.sums"], apart := false, laid := [("entrepot/pack.sums", laid_entrepot_pack_sums)] }
def PacketGetsSaid : Prop := packetGetsRow.holds Tryz.pinned (OpenSpec.ofChange packetGetsSpec)

/-- ITS FALSE NEIGHBOUR: 'it returns false'. Refute it at one input. -/
def packetGetsWrong : ChangeSpec := { name := "packetGets", fn := fun _ => fun
  | [d] => { results := [.lit (.bool false)], args := [d] }
  | _ => none }
def PacketGetsWrongFalsely : Prop := packetGetsRow.holds Tryz.pinned (OpenSpec.ofChange packetGetsWrong)

/-- 'entrepotlaw22.PacketTurned': WHATEVER THE INPUT: true; the input reads as it did. -/
def packetTurnedSpec : ChangeSpec := { name := "packetTurned", fn := fun _ => fun
  | [d1, d2, d3, d4] => { results := [.lit (.bool true)], args := [d1, d2, d3, d4] }
  | _ => none }
def packetTurnedRow : OpenClaim := { program := "ytofklpphalalhaagreatdoor", sum := "d2401f147025984145e1ba4f15bd8aac30bb07e454f8f834057ca522fffc06f4", func := "entrepot/entrepotlaw22.PacketTurned", spec := "packetTurned", inPlace := ["internal/abi.NoEscape"], unfollowed := true, recurses := true, named := ["entrepot/pack.sums"], apart := false, laid := [("entrepot/pack.sums", laid_entrepot_pack_sums)] }
def PacketTurnedSaid : Prop := packetTurnedRow.holds Tryz.pinned (OpenSpec.ofChange packetTurnedSpec)

/-- ITS FALSE NEIGHBOUR: 'it returns false'. Refute it at one input. -/
def packetTurnedWrong : ChangeSpec := { name := "packetTurned", fn := fun _ => fun
  | [d1, d2, d3, d4] => { results := [.lit (.bool false)], args := [d1, d2, d3, d4] }
  | _ => none }
def PacketTurnedWrongFalsely : Prop := packetTurnedRow.holds Tryz.pinned (OpenSpec.ofChange packetTurnedWrong)

/-- 'entrepotlaw22.PacketCut': WHATEVER THE INPUT: true; the input reads as it did. -/
def packetCutSpec : ChangeSpec := { name := "packetCut", fn := fun _ => fun
  | [d1, d2, d3, d4] => { results := [.lit (.bool true)], args := [d1, d2, d3, d4] }
  | _ => none }
def packetCutRow : OpenClaim := { program := "ytofklpphalalhaagreatdoor", sum := "d2401f147025984145e1ba4f15bd8aac30bb07e454f8f834057ca522fffc06f4", func := "entrepot/entrepotlaw22.PacketCut", spec := "packetCut", inPlace := ["internal/abi.NoEscape"], unfollowed := true, recurses := true, named := ["entrepot/pack.sums"], apart := false, laid := [("entrepot/pack.sums", laid_entrepot_pack_sums)] }
def PacketCutSaid : Prop := packetCutRow.holds Tryz.pinned (OpenSpec.ofChange packetCutSpec)

/-- ITS FALSE NEIGHBOUR: 'it returns false'. Refute it at one input. -/
def packetCutWrong : ChangeSpec := { name := "packetCut", fn := fun _ => fun
  | [d1, d2, d3, d4] => { results := [.lit (.bool false)], args := [d1, d2, d3, d4] }
  | _ => none }
def PacketCutWrongFalsely : Prop := packetCutRow.holds Tryz.pinned (OpenSpec.ofChange packetCutWrong)

/-- 'entrepotlaw22.PacketBack': WHATEVER THE INPUT: true; the input reads as it did. -/
def packetBackSpec : ChangeSpec := { name := "packetBack", fn := fun _ => fun
  | [d1, d2] => { results := [.lit (.bool true)], args := [d1, d2] }
  | _ => none }
def packetBackRow : OpenClaim := { program := "ytofklpphalalhaagreatdoor", sum := "d2401f147025984145e1ba4f15bd8aac30bb07e454f8f834057ca522fffc06f4", func := "entrepot/entrepotlaw22.PacketBack", spec := "packetBack", inPlace := ["internal/abi.NoEscape"], unfollowed := true, recurses := true, named := ["entrepot/pack.sums"], apart := false, laid := [("entrepot/pack.sums", laid_entrepot_pack_sums)] }
def PacketBackSaid : Prop := packetBackRow.holds Tryz.pinned (OpenSpec.ofChange packetBackSpec)

/-- ITS FALSE NEIGHBOUR: 'it returns false'. Refute it at one input. -/
def packetBackWrong : ChangeSpec := { name := "packetBack", fn := fun _ => fun
  | [d1, d2] => { results := [.lit (.bool false)], args := [d1, d2] }
  | _ => none }
def PacketBackWrongFalsely : Prop := packetBackRow.holds Tryz.pinned (OpenSpec.ofChange packetBackWrong)

/-- 'entrepotlaw20.RecordPuts': WHATEVER THE INPUT: true; the input reads as it did. -/
def recordPutsSpec : ChangeSpec := { name := "recordPuts", fn := fun _ => fun
  | [d1, d2] => { results := [.lit (.bool true)], args := [d1, d2] }
  | _ => none }
def recordPutsRow : OpenClaim := { program := "ytofklpphalalhaagreatdoor", sum := "d2401f147025984145e1ba4f15bd8aac30bb07e454f8f834057ca522fffc06f4", func := "entrepot/entrepotlaw20.RecordPuts", spec := "recordPuts", inPlace := ["internal/abi.NoEscape", "internal/bytealg.IndexByteString", "internal/bytealg.IndexString"], unfollowed := true, recurses := true, named := ["internal/strconv.uint64pow10", "math/bits.deBruijn32tab", "math/bits.deBruijn64tab", "unicode/utf8.first", "unicode/utf8.acceptRanges", "strconv.ErrSyntax", "strconv.ErrRange", "internal/bytealg.MaxLen"], apart := false, laid := [("math/bits.deBruijn32tab", laid_math_bits_deBruijn32tab), ("math/bits.deBruijn64tab", laid_math_bits_deBruijn64tab), ("internal/strconv.uint64pow10", laid_internal_strconv_uint64pow10), ("unicode/utf8.acceptRanges", laid_unicode_utf8_acceptRanges), ("strconv.ErrRange", laid_strconv_ErrRange), ("strconv.ErrSyntax", laid_strconv_ErrSyntax), ("unicode/utf8.first", laid_unicode_utf8_first)] }
def RecordPutsSaid : Prop := recordPutsRow.holds Tryz.pinned (OpenSpec.ofChange recordPutsSpec)

/-- ITS FALSE NEIGHBOUR: 'it returns false'. Refute it at one input. -/
def recordPutsWrong : ChangeSpec := { name := "recordPuts", fn := fun _ => fun
  | [d1, d2] => { results := [.lit (.bool false)], args := [d1, d2] }
  | _ => none }
def RecordPutsWrongFalsely : Prop := recordPutsRow.holds Tryz.pinned (OpenSpec.ofChange recordPutsWrong)

/-- 'entrepotlaw20.RecordGets': WHATEVER THE INPUT: true; the input reads as it did. -/
def recordGetsSpec : ChangeSpec := { name := "recordGets", fn := fun _ => fun
  | [d] => { results := [.lit (.bool true)], args := [d] }
  | _ => none }
def recordGetsRow : OpenClaim := { program := "ytofklpphalalhaagreatdoor", sum := "d2401f147025984145e1ba4f15bd8aac30bb07e454f8f834057ca522fffc06f4", func := "entrepot/entrepotlaw20.RecordGets", spec := "recordGets", inPlace := ["internal/abi.NoEscape", "internal/bytealg.IndexByteString", "internal/bytealg.IndexString"], unfollowed := true, recurses := true, named := ["internal/strconv.uint64pow10", "math/bits.deBruijn32tab", "math/bits.deBruijn64tab", "unicode/utf8.first", "unicode/utf8.acceptRanges", "strconv.ErrSyntax", "strconv.ErrRange", "internal/bytealg.MaxLen"], apart := false, laid := [("math/bits.deBruijn32tab", laid_math_bits_deBruijn32tab), ("math/bits.deBruijn64tab", laid_math_bits_deBruijn64tab), ("internal/strconv.uint64pow10", laid_internal_strconv_uint64pow10), ("unicode/utf8.acceptRanges", laid_unicode_utf8_acceptRanges), ("strconv.ErrRange", laid_strconv_ErrRange), ("strconv.ErrSyntax", laid_strconv_ErrSyntax), ("unicode/utf8.first", laid_unicode_utf8_first)] }
def RecordGetsSaid : Prop := recordGetsRow.holds Tryz.pinned (OpenSpec.ofChange recordGetsSpec)

/-- ITS FALSE NEIGHBOUR: 'it returns false'. Refute it at one input. -/
def recordGetsWrong : ChangeSpec := { name := "recordGets", fn := fun _ => fun
  | [d] => { results := [.lit (.bool false)], args := [d] }
  | _ => none }
def RecordGetsWrongFalsely : Prop := recordGetsRow.holds Tryz.pinned (OpenSpec.ofChange recordGetsWrong)

/-- 'entrepotlaw20.RecordCut': WHATEVER THE INPUT: true; the input reads as it did. -/
def recordCutSpec : ChangeSpec := { name := "recordCut", fn := fun _ => fun
  | [d1, d2, d3] => { results := [.lit (.bool true)], args := [d1, d2, d3] }
  | _ => none }
def recordCutRow : OpenClaim := { program := "ytofklpphalalhaagreatdoor", sum := "d2401f147025984145e1ba4f15bd8aac30bb07e454f8f834057ca522fffc06f4", func := "entrepot/entrepotlaw20.RecordCut", spec := "recordCut", inPlace := ["internal/abi.NoEscape", "internal/bytealg.IndexByteString", "internal/bytealg.IndexString"], unfollowed := true, recurses := true, named := ["internal/strconv.uint64pow10", "math/bits.deBruijn32tab", "math/bits.deBruijn64tab", "unicode/utf8.first", "unicode/utf8.acceptRanges", "strconv.ErrSyntax", "strconv.ErrRange", "internal/bytealg.MaxLen"], apart := false, laid := [("math/bits.deBruijn32tab", laid_math_bits_deBruijn32tab), ("math/bits.deBruijn64tab", laid_math_bits_deBruijn64tab), ("internal/strconv.uint64pow10", laid_internal_strconv_uint64pow10), ("unicode/utf8.acceptRanges", laid_unicode_utf8_acceptRanges), ("strconv.ErrRange", laid_strconv_ErrRange), ("strconv.ErrSyntax", laid_strconv_ErrSyntax), ("unicode/utf8.first", laid_unicode_utf8_first)] }
def RecordCutSaid : Prop := recordCutRow.holds Tryz.pinned (OpenSpec.ofChange recordCutSpec)

/-- ITS FALSE NEIGHBOUR: 'it returns false'. Refute it at one input. -/
def recordCutWrong : ChangeSpec := { name := "recordCut", fn := fun _ => fun
  | [d1, d2, d3] => { results := [.lit (.bool false)], args := [d1, d2, d3] }
  | _ => none }
def RecordCutWrongFalsely : Prop := recordCutRow.holds Tryz.pinned (OpenSpec.ofChange recordCutWrong)

/- THE SECOND FORM. 'bulk': how many values and letters a reading holds, each counted each time it is reached (what is shared counts as often as it is met; a slice's spare places count too). A statement '..UptoSaid' is the law's where the arguments, and the package variables that the reading takes, are together of bulk at most 1048576: NARROWER than '..Said'. Prove '..Said' where nothing that the law and all that it calls make is longer than what came in: it says more and counts as full. Else prove '..UptoSaid'. A law counts once. -/
mutual
def uptoBulk {H : Type} : DataW H → Nat
  | .lit (.string bytes) => bytes.length + 1
  | .lit _ => 1
  | .nil => 1
  | .ptr d => uptoBulk d + 1
  | .slice elems spare => uptoBulkAll elems + uptoBulkAll spare + 1
  | .agg parts => uptoBulkAll parts + 1
  | .iface _ d => uptoBulk d + 1
  | .map entries => uptoBulkEntries entries + 1
  | .held _ => 1
def uptoBulkAll {H : Type} : List (DataW H) → Nat
  | [] => 0
  | d :: r => uptoBulk d + uptoBulkAll r
def uptoBulkEntries {H : Type} : List (Lit × DataW H) → Nat
  | [] => 0
  | x :: r => uptoBulkEntry x + uptoBulkEntries r
def uptoBulkEntry {H : Type} : Lit × DataW H → Nat
  | (.string bytes, d) => bytes.length + uptoBulk d + 1
  | (_, d) => uptoBulk d + 1
 end
def uptoSmall : (H : Type) → List (DataW H) → Bool := fun _ ds => decide (uptoBulkAll ds ≤ 1048576)
def OpenSpec.upto (s : _root_.Go.ChangeSpec) : _root_.Go.OpenSpec := { _root_.Go.OpenSpec.ofChange s with cond := some uptoSmall }

/-- 'entrepotlaw20.RecordBack', WHERE WHAT IT READS IS OF BULK AT MOST 1048576: true; the input reads as it did. -/
def recordBackUptoRow : OpenClaim := { program := "ytofklpphalalhaagreatdoor", sum := "d2401f147025984145e1ba4f15bd8aac30bb07e454f8f834057ca522fffc06f4", func := "entrepot/entrepotlaw20.RecordBack", spec := "recordBack", inPlace := ["internal/abi.NoEscape", "internal/bytealg.IndexByteString", "internal/bytealg.IndexString"], unfollowed := true, recurses := true, named := ["internal/strconv.uint64pow10", "math/bits.deBruijn32tab", "math/bits.deBruijn64tab", "unicode/utf8.first", "unicode/utf8.acceptRanges", "strconv.ErrSyntax", "strconv.ErrRange", "internal/bytealg.MaxLen"], apart := false, laid := [("math/bits.deBruijn32tab", laid_math_bits_deBruijn32tab), ("math/bits.deBruijn64tab", laid_math_bits_deBruijn64tab), ("internal/strconv.uint64pow10", laid_internal_strconv_uint64pow10), ("unicode/utf8.acceptRanges", laid_unicode_utf8_acceptRanges), ("strconv.ErrRange", laid_strconv_ErrRange), ("strconv.ErrSyntax", laid_strconv_ErrSyntax), ("unicode/utf8.first", laid_unicode_utf8_first)], narrowed := true }
def RecordBackUptoSaid : Prop := recordBackUptoRow.holds Tryz.pinned (OpenSpec.upto recordBackSpec)

/-- 'entrepotlaw20.RecordBlanks', WHERE WHAT IT READS IS OF BULK AT MOST 1048576: true; the input reads as it did. -/
def recordBlanksUptoRow : OpenClaim := { program := "ytofklpphalalhaagreatdoor", sum := "d2401f147025984145e1ba4f15bd8aac30bb07e454f8f834057ca522fffc06f4", func := "entrepot/entrepotlaw20.RecordBlanks", spec := "recordBlanks", inPlace := ["internal/abi.NoEscape", "internal/bytealg.IndexByteString", "internal/bytealg.IndexString"], unfollowed := true, recurses := true, named := ["internal/strconv.uint64pow10", "math/bits.deBruijn32tab", "math/bits.deBruijn64tab", "unicode/utf8.first", "unicode/utf8.acceptRanges", "strconv.ErrSyntax", "strconv.ErrRange", "internal/bytealg.MaxLen"], apart := false, laid := [("math/bits.deBruijn32tab", laid_math_bits_deBruijn32tab), ("math/bits.deBruijn64tab", laid_math_bits_deBruijn64tab), ("internal/strconv.uint64pow10", laid_internal_strconv_uint64pow10), ("unicode/utf8.acceptRanges", laid_unicode_utf8_acceptRanges), ("strconv.ErrRange", laid_strconv_ErrRange), ("strconv.ErrSyntax", laid_strconv_ErrSyntax), ("unicode/utf8.first", laid_unicode_utf8_first)], narrowed := true }
def RecordBlanksUptoSaid : Prop := recordBlanksUptoRow.holds Tryz.pinned (OpenSpec.upto recordBlanksSpec)

/-- 'entrepotlaw22.PacketPuts', WHERE WHAT IT READS IS OF BULK AT MOST 1048576: true; the input reads as it did. -/
def packetPutsUptoRow : OpenClaim := { program := "ytofklpphalalhaagreatdoor", sum := "d2401f147025984145e1ba4f15bd8aac30bb07e454f8f834057ca522fffc06f4", func := "entrepot/entrepotlaw22.PacketPuts", spec := "packetPuts", inPlace := ["internal/abi.NoEscape"], unfollowed := true, recurses := true, named := ["entrepot/pack.sums"], apart := false, laid := [("entrepot/pack.sums", laid_entrepot_pack_sums)], narrowed := true }
def PacketPutsUptoSaid : Prop := packetPutsUptoRow.holds Tryz.pinned (OpenSpec.upto packetPutsSpec)

/-- 'entrepotlaw22.PacketGets', WHERE WHAT IT READS IS OF BULK AT MOST 1048576: true; the input reads as it did. -/
def packetGetsUptoRow : OpenClaim := { program := "ytofklpphalalhaagreatdoor", sum := "d2401f147025984145e1ba4f15bd8aac30bb07e454f8f834057ca522fffc06f4", func := "entrepot/entrepotlaw22.PacketGets", spec := "packetGets", inPlace := ["internal/abi.NoEscape"], unfollowed := true, recurses := true, named := ["entrepot/pack.sums"], apart := false, laid := [("entrepot/pack.sums", laid_entrepot_pack_sums)], narrowed := true }
def PacketGetsUptoSaid : Prop := packetGetsUptoRow.holds Tryz.pinned (OpenSpec.upto packetGetsSpec)

/-- 'entrepotlaw22.PacketTurned', WHERE WHAT IT READS IS OF BULK AT MOST 1048576: true; the input reads as it did. -/
def packetTurnedUptoRow : OpenClaim := { program := "ytofklpphalalhaagreatdoor", sum := "d2401f147025984145e1ba4f15bd8aac30bb07e454f8f834057ca522fffc06f4", func := "entrepot/entrepotlaw22.PacketTurned", spec := "packetTurned", inPlace := ["internal/abi.NoEscape"], unfollowed := true, recurses := true, named := ["entrepot/pack.sums"], apart := false, laid := [("entrepot/pack.sums", laid_entrepot_pack_sums)], narrowed := true }
def PacketTurnedUptoSaid : Prop := packetTurnedUptoRow.holds Tryz.pinned (OpenSpec.upto packetTurnedSpec)

/-- 'entrepotlaw22.PacketCut', WHERE WHAT IT READS IS OF BULK AT MOST 1048576: true; the input reads as it did. -/
def packetCutUptoRow : OpenClaim := { program := "ytofklpphalalhaagreatdoor", sum := "d2401f147025984145e1ba4f15bd8aac30bb07e454f8f834057ca522fffc06f4", func := "entrepot/entrepotlaw22.PacketCut", spec := "packetCut", inPlace := ["internal/abi.NoEscape"], unfollowed := true, recurses := true, named := ["entrepot/pack.sums"], apart := false, laid := [("entrepot/pack.sums", laid_entrepot_pack_sums)], narrowed := true }
def PacketCutUptoSaid : Prop := packetCutUptoRow.holds Tryz.pinned (OpenSpec.upto packetCutSpec)

/-- 'entrepotlaw22.PacketBack', WHERE WHAT IT READS IS OF BULK AT MOST 1048576: true; the input reads as it did. -/
def packetBackUptoRow : OpenClaim := { program := "ytofklpphalalhaagreatdoor", sum := "d2401f147025984145e1ba4f15bd8aac30bb07e454f8f834057ca522fffc06f4", func := "entrepot/entrepotlaw22.PacketBack", spec := "packetBack", inPlace := ["internal/abi.NoEscape"], unfollowed := true, recurses := true, named := ["entrepot/pack.sums"], apart := false, laid := [("entrepot/pack.sums", laid_entrepot_pack_sums)], narrowed := true }
def PacketBackUptoSaid : Prop := packetBackUptoRow.holds Tryz.pinned (OpenSpec.upto packetBackSpec)

/-- 'entrepotlaw20.RecordPuts', WHERE WHAT IT READS IS OF BULK AT MOST 1048576: true; the input reads as it did. -/
def recordPutsUptoRow : OpenClaim := { program := "ytofklpphalalhaagreatdoor", sum := "d2401f147025984145e1ba4f15bd8aac30bb07e454f8f834057ca522fffc06f4", func := "entrepot/entrepotlaw20.RecordPuts", spec := "recordPuts", inPlace := ["internal/abi.NoEscape", "internal/bytealg.IndexByteString", "internal/bytealg.IndexString"], unfollowed := true, recurses := true, named := ["internal/strconv.uint64pow10", "math/bits.deBruijn32tab", "math/bits.deBruijn64tab", "unicode/utf8.first", "unicode/utf8.acceptRanges", "strconv.ErrSyntax", "strconv.ErrRange", "internal/bytealg.MaxLen"], apart := false, laid := [("math/bits.deBruijn32tab", laid_math_bits_deBruijn32tab), ("math/bits.deBruijn64tab", laid_math_bits_deBruijn64tab), ("internal/strconv.uint64pow10", laid_internal_strconv_uint64pow10), ("unicode/utf8.acceptRanges", laid_unicode_utf8_acceptRanges), ("strconv.ErrRange", laid_strconv_ErrRange), ("strconv.ErrSyntax", laid_strconv_ErrSyntax), ("unicode/utf8.first", laid_unicode_utf8_first)], narrowed := true }
def RecordPutsUptoSaid : Prop := recordPutsUptoRow.holds Tryz.pinned (OpenSpec.upto recordPutsSpec)

/-- 'entrepotlaw20.RecordGets', WHERE WHAT IT READS IS OF BULK AT MOST 1048576: true; the input reads as it did. -/
def recordGetsUptoRow : OpenClaim := { program := "ytofklpphalalhaagreatdoor", sum := "d2401f147025984145e1ba4f15bd8aac30bb07e454f8f834057ca522fffc06f4", func := "entrepot/entrepotlaw20.RecordGets", spec := "recordGets", inPlace := ["internal/abi.NoEscape", "internal/bytealg.IndexByteString", "internal/bytealg.IndexString"], unfollowed := true, recurses := true, named := ["internal/strconv.uint64pow10", "math/bits.deBruijn32tab", "math/bits.deBruijn64tab", "unicode/utf8.first", "unicode/utf8.acceptRanges", "strconv.ErrSyntax", "strconv.ErrRange", "internal/bytealg.MaxLen"], apart := false, laid := [("math/bits.deBruijn32tab", laid_math_bits_deBruijn32tab), ("math/bits.deBruijn64tab", laid_math_bits_deBruijn64tab), ("internal/strconv.uint64pow10", laid_internal_strconv_uint64pow10), ("unicode/utf8.acceptRanges", laid_unicode_utf8_acceptRanges), ("strconv.ErrRange", laid_strconv_ErrRange), ("strconv.ErrSyntax", laid_strconv_ErrSyntax), ("unicode/utf8.first", laid_unicode_utf8_first)], narrowed := true }
def RecordGetsUptoSaid : Prop := recordGetsUptoRow.holds Tryz.pinned (OpenSpec.upto recordGetsSpec)

/-- 'entrepotlaw20.RecordCut', WHERE WHAT IT READS IS OF BULK AT MOST 1048576: true; the input reads as it did. -/
def recordCutUptoRow : OpenClaim := { program := "ytofklpphalalhaagreatdoor", sum := "d2401f147025984145e1ba4f15bd8aac30bb07e454f8f834057ca522fffc06f4", func := "entrepot/entrepotlaw20.RecordCut", spec := "recordCut", inPlace := ["internal/abi.NoEscape", "internal/bytealg.IndexByteString", "internal/bytealg.IndexString"], unfollowed := true, recurses := true, named := ["internal/strconv.uint64pow10", "math/bits.deBruijn32tab", "math/bits.deBruijn64tab", "unicode/utf8.first", "unicode/utf8.acceptRanges", "strconv.ErrSyntax", "strconv.ErrRange", "internal/bytealg.MaxLen"], apart := false, laid := [("math/bits.deBruijn32tab", laid_math_bits_deBruijn32tab), ("math/bits.deBruijn64tab", laid_math_bits_deBruijn64tab), ("internal/strconv.uint64pow10", laid_internal_strconv_uint64pow10), ("unicode/utf8.acceptRanges", laid_unicode_utf8_acceptRanges), ("strconv.ErrRange", laid_strconv_ErrRange), ("strconv.ErrSyntax", laid_strconv_ErrSyntax), ("unicode/utf8.first", laid_unicode_utf8_first)], narrowed := true }
def RecordCutUptoSaid : Prop := recordCutUptoRow.holds Tryz.pinned (OpenSpec.upto recordCutSpec)

end Rows
end Go.Proofs.YtofklpphalalhaaGreatDoor
