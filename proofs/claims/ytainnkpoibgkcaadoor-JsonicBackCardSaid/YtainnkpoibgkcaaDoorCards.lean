/-
  DERIVED. GIVEN WITH THE SEED: THE CARDS: each row of YtainnkpoibgkcaaDoorRows.lean that lists a variable, with what it lists TIED to the program's text (the seventh form; the later family's looks); each row that meets fmt, with fmt's text TOLD by the authors' own Lean function (tested against real Go, not proved from fmt's source: count such statements apart). THE CARD IS WHAT COUNTS. Prove the row's statement (the work); the ties are given (YtainnkpoibgkcaaDoorTie.lean); close each card by the builder's one call (the guide's Derived/Test/ToyasCard.lean, 'card_holds'). Laid BY PROGRAM, IN A SANDBOX (cutbox-door.mjs). By AI agents, Wed Nov 11 2026. No macro, syntax, notation, axiom, sorry.
-/
import Derived.Test.YtainnkpoibgkcaaDoorRows
import GoSem.ClaimSeven
namespace Go.Proofs.YtainnkpoibgkcaaDoor
namespace Rows

/-- THE TIED CARD OF 'entrepotlaw19.JsonicPrints'. -/
def jsonicPrintsCard : Claim7 := { stood := { row := jsonicPrintsRow, standIns := [], harness := (true, "040e043581022feca2d5f5fc82053078121045d82bcbc12ce6e690a6702060b2"), looks := true }, kinds := [], alts := [], laidByText := true, laidKinds := [.data, .data, .data, .data, .sentinel, .sentinel, .pinned], laidTests := true, laidLooks := .later }
def JsonicPrintsCardSaid : Prop := Claim7.holds Tryd.pinned (.plain (OpenSpec.ofChange jsonicPrintsSpec)) jsonicPrintsCard

/-- THE TIED CARD OF 'entrepotlaw19.JsonicBack'. -/
def jsonicBackCard : Claim7 := { stood := { row := jsonicBackRow, standIns := [], harness := (true, "040e043581022feca2d5f5fc82053078121045d82bcbc12ce6e690a6702060b2"), looks := true }, kinds := [], alts := [], laidByText := true, laidKinds := [.data, .data, .data, .data, .sentinel, .sentinel, .pinned], laidTests := true, laidLooks := .later }
def JsonicBackCardSaid : Prop := Claim7.holds Tryd.pinned (.plain (OpenSpec.ofChange jsonicBackSpec)) jsonicBackCard

/-- THE TIED CARD OF 'entrepotlaw19.JsonicBlanks'. -/
def jsonicBlanksCard : Claim7 := { stood := { row := jsonicBlanksRow, standIns := [], harness := (true, "040e043581022feca2d5f5fc82053078121045d82bcbc12ce6e690a6702060b2"), looks := true }, kinds := [], alts := [], laidByText := true, laidKinds := [.data, .data, .data, .data, .sentinel, .sentinel, .pinned], laidTests := true, laidLooks := .later }
def JsonicBlanksCardSaid : Prop := Claim7.holds Tryd.pinned (.plain (OpenSpec.ofChange jsonicBlanksSpec)) jsonicBlanksCard

/-- THE TIED CARD OF 'entrepotlaw19.JsonicDeep'. -/
def jsonicDeepCard : Claim7 := { stood := { row := jsonicDeepRow, standIns := [], harness := (true, "040e043581022feca2d5f5fc82053078121045d82bcbc12ce6e690a6702060b2"), looks := true }, kinds := [], alts := [], laidByText := true, laidKinds := [.data, .data, .data, .data, .sentinel, .sentinel, .pinned], laidTests := true, laidLooks := .later }
def JsonicDeepCardSaid : Prop := Claim7.holds Tryd.pinned (.plain (OpenSpec.ofChange jsonicDeepSpec)) jsonicDeepCard

/-- THE TIED CARD OF 'entrepotlaw19.JsonicTexts'. -/
def jsonicTextsCard : Claim7 := { stood := { row := jsonicTextsRow, standIns := [], harness := (true, "040e043581022feca2d5f5fc82053078121045d82bcbc12ce6e690a6702060b2"), looks := true }, kinds := [], alts := [], laidByText := true, laidKinds := [.data, .data, .data, .data, .sentinel, .sentinel, .pinned], laidTests := true, laidLooks := .later }
def JsonicTextsCardSaid : Prop := Claim7.holds Tryd.pinned (.plain (OpenSpec.ofChange jsonicTextsSpec)) jsonicTextsCard

/-- THE SECOND FORM's CARD OF 'entrepotlaw19.JsonicPrints'. -/
def jsonicPrintsUptoCard : Claim7 := { stood := { row := jsonicPrintsUptoRow, standIns := [], harness := (true, "040e043581022feca2d5f5fc82053078121045d82bcbc12ce6e690a6702060b2"), looks := true }, kinds := [], alts := [], laidByText := true, laidKinds := [.data, .data, .data, .data, .sentinel, .sentinel, .pinned], laidTests := true, laidLooks := .later }
def JsonicPrintsUptoCardSaid : Prop := Claim7.holds Tryd.pinned (.plain (OpenSpec.upto jsonicPrintsSpec)) jsonicPrintsUptoCard

/-- THE SECOND FORM's CARD OF 'entrepotlaw19.JsonicBack'. -/
def jsonicBackUptoCard : Claim7 := { stood := { row := jsonicBackUptoRow, standIns := [], harness := (true, "040e043581022feca2d5f5fc82053078121045d82bcbc12ce6e690a6702060b2"), looks := true }, kinds := [], alts := [], laidByText := true, laidKinds := [.data, .data, .data, .data, .sentinel, .sentinel, .pinned], laidTests := true, laidLooks := .later }
def JsonicBackUptoCardSaid : Prop := Claim7.holds Tryd.pinned (.plain (OpenSpec.upto jsonicBackSpec)) jsonicBackUptoCard

/-- THE SECOND FORM's CARD OF 'entrepotlaw19.JsonicBlanks'. -/
def jsonicBlanksUptoCard : Claim7 := { stood := { row := jsonicBlanksUptoRow, standIns := [], harness := (true, "040e043581022feca2d5f5fc82053078121045d82bcbc12ce6e690a6702060b2"), looks := true }, kinds := [], alts := [], laidByText := true, laidKinds := [.data, .data, .data, .data, .sentinel, .sentinel, .pinned], laidTests := true, laidLooks := .later }
def JsonicBlanksUptoCardSaid : Prop := Claim7.holds Tryd.pinned (.plain (OpenSpec.upto jsonicBlanksSpec)) jsonicBlanksUptoCard

/-- THE SECOND FORM's CARD OF 'entrepotlaw19.JsonicDeep'. -/
def jsonicDeepUptoCard : Claim7 := { stood := { row := jsonicDeepUptoRow, standIns := [], harness := (true, "040e043581022feca2d5f5fc82053078121045d82bcbc12ce6e690a6702060b2"), looks := true }, kinds := [], alts := [], laidByText := true, laidKinds := [.data, .data, .data, .data, .sentinel, .sentinel, .pinned], laidTests := true, laidLooks := .later }
def JsonicDeepUptoCardSaid : Prop := Claim7.holds Tryd.pinned (.plain (OpenSpec.upto jsonicDeepSpec)) jsonicDeepUptoCard

/-- THE SECOND FORM's CARD OF 'entrepotlaw19.JsonicTexts'. -/
def jsonicTextsUptoCard : Claim7 := { stood := { row := jsonicTextsUptoRow, standIns := [], harness := (true, "040e043581022feca2d5f5fc82053078121045d82bcbc12ce6e690a6702060b2"), looks := true }, kinds := [], alts := [], laidByText := true, laidKinds := [.data, .data, .data, .data, .sentinel, .sentinel, .pinned], laidTests := true, laidLooks := .later }
def JsonicTextsUptoCardSaid : Prop := Claim7.holds Tryd.pinned (.plain (OpenSpec.upto jsonicTextsSpec)) jsonicTextsUptoCard
end Rows
end Go.Proofs.YtainnkpoibgkcaaDoor
