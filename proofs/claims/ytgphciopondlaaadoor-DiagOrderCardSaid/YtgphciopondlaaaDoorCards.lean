/-
  DERIVED. GIVEN WITH THE SEED: THE CARDS: each row of YtgphciopondlaaaDoorRows.lean that lists a variable, with what it lists TIED to the program's text (the seventh form; the later family's looks); each row that meets fmt, with fmt's text TOLD by the authors' own Lean function (tested against real Go, not proved from fmt's source: count such statements apart). THE CARD IS WHAT COUNTS. Prove the row's statement (the work); the ties are given (YtgphciopondlaaaDoorTie.lean); close each card by the builder's one call (the guide's Derived/Test/ToyasCard.lean, 'card_holds'). Laid BY PROGRAM, IN A SANDBOX (cutbox-door.mjs). By AI agents, Wed Nov 11 2026. No macro, syntax, notation, axiom, sorry.
-/
import Derived.Test.YtgphciopondlaaaDoorRows
import GoSem.ClaimSeven
namespace Go.Proofs.YtgphciopondlaaaDoor
namespace Rows

/-- THE TIED CARD OF 'entrepotlaw04.DiagHeld'. -/
def diagHeldCard : Claim7 := { stood := { row := diagHeldRow, standIns := [], harness := (true, "19199d5d36cde448aededc76a26f2a9c8a406edb2c229c3e1d43879971c1eb40"), looks := false }, kinds := [], alts := [], laidByText := true, laidKinds := [.data, .data, .data], laidTests := true, laidLooks := .later }
def DiagHeldCardSaid : Prop := Claim7.holds Tryd.pinned (.plain (OpenSpec.ofChange diagHeldSpec)) diagHeldCard

/-- THE TIED CARD OF 'entrepotlaw04.DiagTells'. -/
def diagTellsCard : Claim7 := { stood := { row := diagTellsRow, standIns := [], harness := (true, "19199d5d36cde448aededc76a26f2a9c8a406edb2c229c3e1d43879971c1eb40"), looks := false }, kinds := [], alts := [], laidByText := true, laidKinds := [.data, .data, .data], laidTests := true, laidLooks := .later }
def DiagTellsCardSaid : Prop := Claim7.holds Tryd.pinned (.plain (OpenSpec.ofChange diagTellsSpec)) diagTellsCard

/-- THE TIED CARD OF 'entrepotlaw04.DiagLines'. -/
def diagLinesCard : Claim7 := { stood := { row := diagLinesRow, standIns := [], harness := (true, "19199d5d36cde448aededc76a26f2a9c8a406edb2c229c3e1d43879971c1eb40"), looks := false }, kinds := [], alts := [], laidByText := true, laidKinds := [.data, .data, .data], laidTests := true, laidLooks := .later }
def DiagLinesCardSaid : Prop := Claim7.holds Tryd.pinned (.plain (OpenSpec.ofChange diagLinesSpec)) diagLinesCard

/-- THE TIED CARD OF 'entrepotlaw04.DiagPuts'. -/
def diagPutsCard : Claim7 := { stood := { row := diagPutsRow, standIns := [], harness := (true, "19199d5d36cde448aededc76a26f2a9c8a406edb2c229c3e1d43879971c1eb40"), looks := false }, kinds := [], alts := [], laidByText := true, laidKinds := [.data, .data, .data], laidTests := true, laidLooks := .later }
def DiagPutsCardSaid : Prop := Claim7.holds Tryd.pinned (.plain (OpenSpec.ofChange diagPutsSpec)) diagPutsCard

/-- THE TIED CARD OF 'entrepotlaw04.DiagOrder'. -/
def diagOrderCard : Claim7 := { stood := { row := diagOrderRow, standIns := [], harness := (true, "19199d5d36cde448aededc76a26f2a9c8a406edb2c229c3e1d43879971c1eb40"), looks := false }, kinds := [], alts := [], laidByText := true, laidKinds := [.data, .data, .data], laidTests := true, laidLooks := .later }
def DiagOrderCardSaid : Prop := Claim7.holds Tryd.pinned (.plain (OpenSpec.ofChange diagOrderSpec)) diagOrderCard

/-- THE SECOND FORM's CARD OF 'entrepotlaw04.DiagHeld'. -/
def diagHeldUptoCard : Claim7 := { stood := { row := diagHeldUptoRow, standIns := [], harness := (true, "19199d5d36cde448aededc76a26f2a9c8a406edb2c229c3e1d43879971c1eb40"), looks := false }, kinds := [], alts := [], laidByText := true, laidKinds := [.data, .data, .data], laidTests := true, laidLooks := .later }
def DiagHeldUptoCardSaid : Prop := Claim7.holds Tryd.pinned (.plain (OpenSpec.upto diagHeldSpec)) diagHeldUptoCard

/-- THE SECOND FORM's CARD OF 'entrepotlaw04.DiagTells'. -/
def diagTellsUptoCard : Claim7 := { stood := { row := diagTellsUptoRow, standIns := [], harness := (true, "19199d5d36cde448aededc76a26f2a9c8a406edb2c229c3e1d43879971c1eb40"), looks := false }, kinds := [], alts := [], laidByText := true, laidKinds := [.data, .data, .data], laidTests := true, laidLooks := .later }
def DiagTellsUptoCardSaid : Prop := Claim7.holds Tryd.pinned (.plain (OpenSpec.upto diagTellsSpec)) diagTellsUptoCard

/-- THE SECOND FORM's CARD OF 'entrepotlaw04.DiagLines'. -/
def diagLinesUptoCard : Claim7 := { stood := { row := diagLinesUptoRow, standIns := [], harness := (true, "19199d5d36cde448aededc76a26f2a9c8a406edb2c229c3e1d43879971c1eb40"), looks := false }, kinds := [], alts := [], laidByText := true, laidKinds := [.data, .data, .data], laidTests := true, laidLooks := .later }
def DiagLinesUptoCardSaid : Prop := Claim7.holds Tryd.pinned (.plain (OpenSpec.upto diagLinesSpec)) diagLinesUptoCard

/-- THE SECOND FORM's CARD OF 'entrepotlaw04.DiagPuts'. -/
def diagPutsUptoCard : Claim7 := { stood := { row := diagPutsUptoRow, standIns := [], harness := (true, "19199d5d36cde448aededc76a26f2a9c8a406edb2c229c3e1d43879971c1eb40"), looks := false }, kinds := [], alts := [], laidByText := true, laidKinds := [.data, .data, .data], laidTests := true, laidLooks := .later }
def DiagPutsUptoCardSaid : Prop := Claim7.holds Tryd.pinned (.plain (OpenSpec.upto diagPutsSpec)) diagPutsUptoCard

/-- THE SECOND FORM's CARD OF 'entrepotlaw04.DiagOrder'. -/
def diagOrderUptoCard : Claim7 := { stood := { row := diagOrderUptoRow, standIns := [], harness := (true, "19199d5d36cde448aededc76a26f2a9c8a406edb2c229c3e1d43879971c1eb40"), looks := false }, kinds := [], alts := [], laidByText := true, laidKinds := [.data, .data, .data], laidTests := true, laidLooks := .later }
def DiagOrderUptoCardSaid : Prop := Claim7.holds Tryd.pinned (.plain (OpenSpec.upto diagOrderSpec)) diagOrderUptoCard
end Rows
end Go.Proofs.YtgphciopondlaaaDoor
