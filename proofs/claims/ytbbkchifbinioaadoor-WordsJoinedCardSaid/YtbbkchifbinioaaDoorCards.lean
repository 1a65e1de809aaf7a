/-
  DERIVED. GIVEN WITH THE SEED: THE CARDS: each row of YtbbkchifbinioaaDoorRows.lean that lists a variable, with what it lists TIED to the program's text (the seventh form; the later family's looks); each row that meets fmt, with fmt's text TOLD by the authors' own Lean function (tested against real Go, not proved from fmt's source: count such statements apart). THE CARD IS WHAT COUNTS. Prove the row's statement (the work); the ties are given (YtbbkchifbinioaaDoorTie.lean); close each card by the builder's one call (the guide's Derived/Test/ToyasCard.lean, 'card_holds'). Laid BY PROGRAM, IN A SANDBOX (cutbox-door.mjs). By AI agents, Wed Nov 11 2026. No macro, syntax, notation, axiom, sorry.
-/
import Derived.Test.YtbbkchifbinioaaDoorRows
import GoSem.ClaimSeven
namespace Go.Proofs.YtbbkchifbinioaaDoor
namespace Rows

/-- THE TIED CARD OF 'entrepotlaw03.WordsKeys'. -/
def wordsKeysCard : Claim7 := { stood := { row := wordsKeysRow, standIns := [], harness := (true, "f2fa67353a7dd852b55a967b2b5bc664101ca911dd4d26673d7b8fbe4cfdf2e2"), looks := false }, kinds := [], alts := [], laidByText := true, laidKinds := [.data, .pinned], laidTests := true, laidLooks := .later }
def WordsKeysCardSaid : Prop := Claim7.holds Tryd.pinned (.plain (OpenSpec.ofChange wordsKeysSpec)) wordsKeysCard

/-- THE TIED CARD OF 'entrepotlaw03.WordsCover'. -/
def wordsCoverCard : Claim7 := { stood := { row := wordsCoverRow, standIns := [], harness := (true, "f2fa67353a7dd852b55a967b2b5bc664101ca911dd4d26673d7b8fbe4cfdf2e2"), looks := false }, kinds := [], alts := [], laidByText := true, laidKinds := [.data, .pinned], laidTests := true, laidLooks := .later }
def WordsCoverCardSaid : Prop := Claim7.holds Tryd.pinned (.plain (OpenSpec.ofChange wordsCoverSpec)) wordsCoverCard

/-- THE TIED CARD OF 'entrepotlaw03.WordsFields'. -/
def wordsFieldsCard : Claim7 := { stood := { row := wordsFieldsRow, standIns := [], harness := (true, "f2fa67353a7dd852b55a967b2b5bc664101ca911dd4d26673d7b8fbe4cfdf2e2"), looks := false }, kinds := [], alts := [], laidByText := true, laidKinds := [.data, .pinned], laidTests := true, laidLooks := .later }
def WordsFieldsCardSaid : Prop := Claim7.holds Tryd.pinned (.plain (OpenSpec.ofChange wordsFieldsSpec)) wordsFieldsCard

/-- THE TIED CARD OF 'entrepotlaw03.WordsJoined'. -/
def wordsJoinedCard : Claim7 := { stood := { row := wordsJoinedRow, standIns := [], harness := (true, "f2fa67353a7dd852b55a967b2b5bc664101ca911dd4d26673d7b8fbe4cfdf2e2"), looks := false }, kinds := [], alts := [], laidByText := true, laidKinds := [.data, .pinned], laidTests := true, laidLooks := .later }
def WordsJoinedCardSaid : Prop := Claim7.holds Tryd.pinned (.plain (OpenSpec.ofChange wordsJoinedSpec)) wordsJoinedCard

/-- THE TIED CARD OF 'entrepotlaw03.WordsPaired'. -/
def wordsPairedCard : Claim7 := { stood := { row := wordsPairedRow, standIns := [], harness := (true, "f2fa67353a7dd852b55a967b2b5bc664101ca911dd4d26673d7b8fbe4cfdf2e2"), looks := false }, kinds := [], alts := [], laidByText := true, laidKinds := [.data, .pinned], laidTests := true, laidLooks := .later }
def WordsPairedCardSaid : Prop := Claim7.holds Tryd.pinned (.plain (OpenSpec.ofChange wordsPairedSpec)) wordsPairedCard

/-- THE TIED CARD OF 'entrepotlaw03.WordsTells'. -/
def wordsTellsCard : Claim7 := { stood := { row := wordsTellsRow, standIns := [], harness := (true, "f2fa67353a7dd852b55a967b2b5bc664101ca911dd4d26673d7b8fbe4cfdf2e2"), looks := false }, kinds := [], alts := [], laidByText := true, laidKinds := [.data, .pinned], laidTests := true, laidLooks := .later }
def WordsTellsCardSaid : Prop := Claim7.holds Tryd.pinned (.plain (OpenSpec.ofChange wordsTellsSpec)) wordsTellsCard

/-- THE TIED CARD OF 'entrepotlaw03.WordsUpper'. -/
def wordsUpperCard : Claim7 := { stood := { row := wordsUpperRow, standIns := [], harness := (true, "f2fa67353a7dd852b55a967b2b5bc664101ca911dd4d26673d7b8fbe4cfdf2e2"), looks := false }, kinds := [], alts := [], laidByText := true, laidKinds := [.data, .pinned], laidTests := true, laidLooks := .later }
def WordsUpperCardSaid : Prop := Claim7.holds Tryd.pinned (.plain (OpenSpec.ofChange wordsUpperSpec)) wordsUpperCard

/-- THE SECOND FORM's CARD OF 'entrepotlaw03.WordsKeys'. -/
def wordsKeysUptoCard : Claim7 := { stood := { row := wordsKeysUptoRow, standIns := [], harness := (true, "f2fa67353a7dd852b55a967b2b5bc664101ca911dd4d26673d7b8fbe4cfdf2e2"), looks := false }, kinds := [], alts := [], laidByText := true, laidKinds := [.data, .pinned], laidTests := true, laidLooks := .later }
def WordsKeysUptoCardSaid : Prop := Claim7.holds Tryd.pinned (.plain (OpenSpec.upto wordsKeysSpec)) wordsKeysUptoCard

/-- THE SECOND FORM's CARD OF 'entrepotlaw03.WordsCover'. -/
def wordsCoverUptoCard : Claim7 := { stood := { row := wordsCoverUptoRow, standIns := [], harness := (true, "f2fa67353a7dd852b55a967b2b5bc664101ca911dd4d26673d7b8fbe4cfdf2e2"), looks := false }, kinds := [], alts := [], laidByText := true, laidKinds := [.data, .pinned], laidTests := true, laidLooks := .later }
def WordsCoverUptoCardSaid : Prop := Claim7.holds Tryd.pinned (.plain (OpenSpec.upto wordsCoverSpec)) wordsCoverUptoCard

/-- THE SECOND FORM's CARD OF 'entrepotlaw03.WordsFields'. -/
def wordsFieldsUptoCard : Claim7 := { stood := { row := wordsFieldsUptoRow, standIns := [], harness := (true, "f2fa67353a7dd852b55a967b2b5bc664101ca911dd4d26673d7b8fbe4cfdf2e2"), looks := false }, kinds := [], alts := [], laidByText := true, laidKinds := [.data, .pinned], laidTests := true, laidLooks := .later }
def WordsFieldsUptoCardSaid : Prop := Claim7.holds Tryd.pinned (.plain (OpenSpec.upto wordsFieldsSpec)) wordsFieldsUptoCard

/-- THE SECOND FORM's CARD OF 'entrepotlaw03.WordsJoined'. -/
def wordsJoinedUptoCard : Claim7 := { stood := { row := wordsJoinedUptoRow, standIns := [], harness := (true, "f2fa67353a7dd852b55a967b2b5bc664101ca911dd4d26673d7b8fbe4cfdf2e2"), looks := false }, kinds := [], alts := [], laidByText := true, laidKinds := [.data, .pinned], laidTests := true, laidLooks := .later }
def WordsJoinedUptoCardSaid : Prop := Claim7.holds Tryd.pinned (.plain (OpenSpec.upto wordsJoinedSpec)) wordsJoinedUptoCard

/-- THE SECOND FORM's CARD OF 'entrepotlaw03.WordsPaired'. -/
def wordsPairedUptoCard : Claim7 := { stood := { row := wordsPairedUptoRow, standIns := [], harness := (true, "f2fa67353a7dd852b55a967b2b5bc664101ca911dd4d26673d7b8fbe4cfdf2e2"), looks := false }, kinds := [], alts := [], laidByText := true, laidKinds := [.data, .pinned], laidTests := true, laidLooks := .later }
def WordsPairedUptoCardSaid : Prop := Claim7.holds Tryd.pinned (.plain (OpenSpec.upto wordsPairedSpec)) wordsPairedUptoCard

/-- THE SECOND FORM's CARD OF 'entrepotlaw03.WordsTells'. -/
def wordsTellsUptoCard : Claim7 := { stood := { row := wordsTellsUptoRow, standIns := [], harness := (true, "f2fa67353a7dd852b55a967b2b5bc664101ca911dd4d26673d7b8fbe4cfdf2e2"), looks := false }, kinds := [], alts := [], laidByText := true, laidKinds := [.data, .pinned], laidTests := true, laidLooks := .later }
def WordsTellsUptoCardSaid : Prop := Claim7.holds Tryd.pinned (.plain (OpenSpec.upto wordsTellsSpec)) wordsTellsUptoCard

/-- THE SECOND FORM's CARD OF 'entrepotlaw03.WordsUpper'. -/
def wordsUpperUptoCard : Claim7 := { stood := { row := wordsUpperUptoRow, standIns := [], harness := (true, "f2fa67353a7dd852b55a967b2b5bc664101ca911dd4d26673d7b8fbe4cfdf2e2"), looks := false }, kinds := [], alts := [], laidByText := true, laidKinds := [.data, .pinned], laidTests := true, laidLooks := .later }
def WordsUpperUptoCardSaid : Prop := Claim7.holds Tryd.pinned (.plain (OpenSpec.upto wordsUpperSpec)) wordsUpperUptoCard
end Rows
end Go.Proofs.YtbbkchifbinioaaDoor
