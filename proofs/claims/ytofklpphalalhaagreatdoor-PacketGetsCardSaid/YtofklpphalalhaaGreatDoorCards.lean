/-
  DERIVED. GIVEN WITH THE SEED: THE CARDS: each row of YtofklpphalalhaaGreatDoorRows.lean that lists a variable, with what it lists TIED to the program's text (the seventh form; the later family's looks); each row that meets fmt, with fmt's text TOLD by the authors' own Lean function (tested against real Go, not proved from fmt's source: count such statements apart). THE CARD IS WHAT COUNTS. Prove the row's statement (the work); the ties are given (YtofklpphalalhaaGreatDoorTie.lean); close each card by the builder's one call (the guide's Derived/Test/ToyasCard.lean, 'card_holds'). Laid BY PROGRAM, IN A SANDBOX (cutbox-door.mjs). By AI agents, Wed Nov 11 2026. No macro, syntax, notation, axiom, sorry.
-/
import Derived.Test.YtofklpphalalhaaGreatDoorRows
import GoSem.ClaimSeven
namespace Go.Proofs.YtofklpphalalhaaGreatDoor
namespace Rows

/-- THE TIED CARD OF 'entrepotlaw20.RecordBack'. -/
def recordBackCard : Claim7 := { stood := { row := recordBackRow, standIns := [], harness := (true, "b40d662418af06f5562f7bb2e18b2f62299220e8c1abf2af3dde5593733a2ae1"), looks := true }, kinds := [], alts := [], laidByText := true, laidKinds := [.data, .data, .data, .data, .sentinel, .sentinel, .pinned], laidTests := true, laidLooks := .later }
def RecordBackCardSaid : Prop := Claim7.holds Tryz.pinned (.plain (OpenSpec.ofChange recordBackSpec)) recordBackCard

/-- THE TIED CARD OF 'entrepotlaw20.RecordBlanks'. -/
def recordBlanksCard : Claim7 := { stood := { row := recordBlanksRow, standIns := [], harness := (true, "b40d662418af06f5562f7bb2e18b2f62299220e8c1abf2af3dde5593733a2ae1"), looks := true }, kinds := [], alts := [], laidByText := true, laidKinds := [.data, .data, .data, .data, .sentinel, .sentinel, .pinned], laidTests := true, laidLooks := .later }
def RecordBlanksCardSaid : Prop := Claim7.holds Tryz.pinned (.plain (OpenSpec.ofChange recordBlanksSpec)) recordBlanksCard

/-- THE TIED CARD OF 'entrepotlaw22.PacketPuts'. -/
def packetPutsCard : Claim7 := { stood := { row := packetPutsRow, standIns := [], harness := (true, "b40d662418af06f5562f7bb2e18b2f62299220e8c1abf2af3dde5593733a2ae1"), looks := true }, kinds := [], alts := [], laidByText := true, laidKinds := [.data], laidTests := true, laidLooks := .later }
def PacketPutsCardSaid : Prop := Claim7.holds Tryz.pinned (.plain (OpenSpec.ofChange packetPutsSpec)) packetPutsCard

/-- THE TIED CARD OF 'entrepotlaw22.PacketGets'. -/
def packetGetsCard : Claim7 := { stood := { row := packetGetsRow, standIns := [], harness := (true, "b40d662418af06f5562f7bb2e18b2f62299220e8c1abf2af3dde5593733a2ae1"), looks := true }, kinds := [], alts := [], laidByText := true, laidKinds := [.data], laidTests := true, laidLooks := .later }
def PacketGetsCardSaid : Prop := Claim7.holds Tryz.pinned (.plain (OpenSpec.ofChange packetGetsSpec)) packetGetsCard

/-- THE TIED CARD OF 'entrepotlaw22.PacketTurned'. -/
def packetTurnedCard : Claim7 := { stood := { row := packetTurnedRow, standIns := [], harness := (true, "b40d662418af06f5562f7bb2e18b2f62299220e8c1abf2af3dde5593733a2ae1"), looks := true }, kinds := [], alts := [], laidByText := true, laidKinds := [.data], laidTests := true, laidLooks := .later }
def PacketTurnedCardSaid : Prop := Claim7.holds Tryz.pinned (.plain (OpenSpec.ofChange packetTurnedSpec)) packetTurnedCard

/-- THE TIED CARD OF 'entrepotlaw22.PacketCut'. -/
def packetCutCard : Claim7 := { stood := { row := packetCutRow, standIns := [], harness := (true, "b40d662418af06f5562f7bb2e18b2f62299220e8c1abf2af3dde5593733a2ae1"), looks := true }, kinds := [], alts := [], laidByText := true, laidKinds := [.data], laidTests := true, laidLooks := .later }
def PacketCutCardSaid : Prop := Claim7.holds Tryz.pinned (.plain (OpenSpec.ofChange packetCutSpec)) packetCutCard

/-- THE TIED CARD OF 'entrepotlaw22.PacketBack'. -/
def packetBackCard : Claim7 := { stood := { row := packetBackRow, standIns := [], harness := (true, "b40d662418af06f5562f7bb2e18b2f62299220e8c1abf2af3dde5593733a2ae1"), looks := true }, kinds := [], alts := [], laidByText := true, laidKinds := [.data], laidTests := true, laidLooks := .later }
def PacketBackCardSaid : Prop := Claim7.holds Tryz.pinned (.plain (OpenSpec.ofChange packetBackSpec)) packetBackCard

/-- THE TIED CARD OF 'entrepotlaw20.RecordPuts'. -/
def recordPutsCard : Claim7 := { stood := { row := recordPutsRow, standIns := [], harness := (true, "b40d662418af06f5562f7bb2e18b2f62299220e8c1abf2af3dde5593733a2ae1"), looks := true }, kinds := [], alts := [], laidByText := true, laidKinds := [.data, .data, .data, .data, .sentinel, .sentinel, .pinned], laidTests := true, laidLooks := .later }
def RecordPutsCardSaid : Prop := Claim7.holds Tryz.pinned (.plain (OpenSpec.ofChange recordPutsSpec)) recordPutsCard

/-- THE TIED CARD OF 'entrepotlaw20.RecordGets'. -/
def recordGetsCard : Claim7 := { stood := { row := recordGetsRow, standIns := [], harness := (true, "b40d662418af06f5562f7bb2e18b2f62299220e8c1abf2af3dde5593733a2ae1"), looks := true }, kinds := [], alts := [], laidByText := true, laidKinds := [.data, .data, .data, .data, .sentinel, .sentinel, .pinned], laidTests := true, laidLooks := .later }
def RecordGetsCardSaid : Prop := Claim7.holds Tryz.pinned (.plain (OpenSpec.ofChange recordGetsSpec)) recordGetsCard

/-- THE TIED CARD OF 'entrepotlaw20.RecordCut'. -/
def recordCutCard : Claim7 := { stood := { row := recordCutRow, standIns := [], harness := (true, "b40d662418af06f5562f7bb2e18b2f62299220e8c1abf2af3dde5593733a2ae1"), looks := true }, kinds := [], alts := [], laidByText := true, laidKinds := [.data, .data, .data, .data, .sentinel, .sentinel, .pinned], laidTests := true, laidLooks := .later }
def RecordCutCardSaid : Prop := Claim7.holds Tryz.pinned (.plain (OpenSpec.ofChange recordCutSpec)) recordCutCard

/-- THE SECOND FORM's CARD OF 'entrepotlaw20.RecordBack'. -/
def recordBackUptoCard : Claim7 := { stood := { row := recordBackUptoRow, standIns := [], harness := (true, "b40d662418af06f5562f7bb2e18b2f62299220e8c1abf2af3dde5593733a2ae1"), looks := true }, kinds := [], alts := [], laidByText := true, laidKinds := [.data, .data, .data, .data, .sentinel, .sentinel, .pinned], laidTests := true, laidLooks := .later }
def RecordBackUptoCardSaid : Prop := Claim7.holds Tryz.pinned (.plain (OpenSpec.upto recordBackSpec)) recordBackUptoCard

/-- THE SECOND FORM's CARD OF 'entrepotlaw20.RecordBlanks'. -/
def recordBlanksUptoCard : Claim7 := { stood := { row := recordBlanksUptoRow, standIns := [], harness := (true, "b40d662418af06f5562f7bb2e18b2f62299220e8c1abf2af3dde5593733a2ae1"), looks := true }, kinds := [], alts := [], laidByText := true, laidKinds := [.data, .data, .data, .data, .sentinel, .sentinel, .pinned], laidTests := true, laidLooks := .later }
def RecordBlanksUptoCardSaid : Prop := Claim7.holds Tryz.pinned (.plain (OpenSpec.upto recordBlanksSpec)) recordBlanksUptoCard

/-- THE SECOND FORM's CARD OF 'entrepotlaw22.PacketPuts'. -/
def packetPutsUptoCard : Claim7 := { stood := { row := packetPutsUptoRow, standIns := [], harness := (true, "b40d662418af06f5562f7bb2e18b2f62299220e8c1abf2af3dde5593733a2ae1"), looks := true }, kinds := [], alts := [], laidByText := true, laidKinds := [.data], laidTests := true, laidLooks := .later }
def PacketPutsUptoCardSaid : Prop := Claim7.holds Tryz.pinned (.plain (OpenSpec.upto packetPutsSpec)) packetPutsUptoCard

/-- THE SECOND FORM's CARD OF 'entrepotlaw22.PacketGets'. -/
def packetGetsUptoCard : Claim7 := { stood := { row := packetGetsUptoRow, standIns := [], harness := (true, "b40d662418af06f5562f7bb2e18b2f62299220e8c1abf2af3dde5593733a2ae1"), looks := true }, kinds := [], alts := [], laidByText := true, laidKinds := [.data], laidTests := true, laidLooks := .later }
def PacketGetsUptoCardSaid : Prop := Claim7.holds Tryz.pinned (.plain (OpenSpec.upto packetGetsSpec)) packetGetsUptoCard

/-- THE SECOND FORM's CARD OF 'entrepotlaw22.PacketTurned'. -/
def packetTurnedUptoCard : Claim7 := { stood := { row := packetTurnedUptoRow, standIns := [], harness := (true, "b40d662418af06f5562f7bb2e18b2f62299220e8c1abf2af3dde5593733a2ae1"), looks := true }, kinds := [], alts := [], laidByText := true, laidKinds := [.data], laidTests := true, laidLooks := .later }
def PacketTurnedUptoCardSaid : Prop := Claim7.holds Tryz.pinned (.plain (OpenSpec.upto packetTurnedSpec)) packetTurnedUptoCard

/-- THE SECOND FORM's CARD OF 'entrepotlaw22.PacketCut'. -/
def packetCutUptoCard : Claim7 := { stood := { row := packetCutUptoRow, standIns := [], harness := (true, "b40d662418af06f5562f7bb2e18b2f62299220e8c1abf2af3dde5593733a2ae1"), looks := true }, kinds := [], alts := [], laidByText := true, laidKinds := [.data], laidTests := true, laidLooks := .later }
def PacketCutUptoCardSaid : Prop := Claim7.holds Tryz.pinned (.plain (OpenSpec.upto packetCutSpec)) packetCutUptoCard

/-- THE SECOND FORM's CARD OF 'entrepotlaw22.PacketBack'. -/
def packetBackUptoCard : Claim7 := { stood := { row := packetBackUptoRow, standIns := [], harness := (true, "b40d662418af06f5562f7bb2e18b2f62299220e8c1abf2af3dde5593733a2ae1"), looks := true }, kinds := [], alts := [], laidByText := true, laidKinds := [.data], laidTests := true, laidLooks := .later }
def PacketBackUptoCardSaid : Prop := Claim7.holds Tryz.pinned (.plain (OpenSpec.upto packetBackSpec)) packetBackUptoCard

/-- THE SECOND FORM's CARD OF 'entrepotlaw20.RecordPuts'. -/
def recordPutsUptoCard : Claim7 := { stood := { row := recordPutsUptoRow, standIns := [], harness := (true, "b40d662418af06f5562f7bb2e18b2f62299220e8c1abf2af3dde5593733a2ae1"), looks := true }, kinds := [], alts := [], laidByText := true, laidKinds := [.data, .data, .data, .data, .sentinel, .sentinel, .pinned], laidTests := true, laidLooks := .later }
def RecordPutsUptoCardSaid : Prop := Claim7.holds Tryz.pinned (.plain (OpenSpec.upto recordPutsSpec)) recordPutsUptoCard

/-- THE SECOND FORM's CARD OF 'entrepotlaw20.RecordGets'. -/
def recordGetsUptoCard : Claim7 := { stood := { row := recordGetsUptoRow, standIns := [], harness := (true, "b40d662418af06f5562f7bb2e18b2f62299220e8c1abf2af3dde5593733a2ae1"), looks := true }, kinds := [], alts := [], laidByText := true, laidKinds := [.data, .data, .data, .data, .sentinel, .sentinel, .pinned], laidTests := true, laidLooks := .later }
def RecordGetsUptoCardSaid : Prop := Claim7.holds Tryz.pinned (.plain (OpenSpec.upto recordGetsSpec)) recordGetsUptoCard

/-- THE SECOND FORM's CARD OF 'entrepotlaw20.RecordCut'. -/
def recordCutUptoCard : Claim7 := { stood := { row := recordCutUptoRow, standIns := [], harness := (true, "b40d662418af06f5562f7bb2e18b2f62299220e8c1abf2af3dde5593733a2ae1"), looks := true }, kinds := [], alts := [], laidByText := true, laidKinds := [.data, .data, .data, .data, .sentinel, .sentinel, .pinned], laidTests := true, laidLooks := .later }
def RecordCutUptoCardSaid : Prop := Claim7.holds Tryz.pinned (.plain (OpenSpec.upto recordCutSpec)) recordCutUptoCard
end Rows
end Go.Proofs.YtofklpphalalhaaGreatDoor
