/-
  DERIVED. GIVEN WITH THE SEED: THE CARDS: each row of YtfdeffjdhpdfeaaDoorRows.lean that lists a variable, with what it lists TIED to the program's text (the seventh form; the later family's looks); each row that meets fmt, with fmt's text TOLD by the authors' own Lean function (tested against real Go, not proved from fmt's source: count such statements apart). THE CARD IS WHAT COUNTS. Prove the row's statement (the work); the ties are given (YtfdeffjdhpdfeaaDoorTie.lean); close each card by the builder's one call (the guide's Derived/Test/ToyasCard.lean, 'card_holds'). Laid BY PROGRAM, IN A SANDBOX (cutbox-door.mjs). By AI agents, Wed Nov 11 2026. No macro, syntax, notation, axiom, sorry.
-/
import Derived.Test.YtfdeffjdhpdfeaaDoorRows
import GoSem.ClaimSeven
namespace Go.Proofs.YtfdeffjdhpdfeaaDoor
namespace Rows

/-- THE TIED CARD OF 'entrepotlaw01.CursorLines'. -/
def cursorLinesCard : Claim7 := { stood := { row := cursorLinesRow, standIns := [], harness := (true, "82a8ccf55cc147cfeab3689fe6b48bea41bdba9588e48d6f017e9cfbdc485576"), looks := false }, kinds := [], alts := [], laidByText := true, laidKinds := [.data, .pinned], laidTests := true, laidLooks := .later }
def CursorLinesCardSaid : Prop := Claim7.holds Tryd.pinned (.plain (OpenSpec.ofChange cursorLinesSpec)) cursorLinesCard

/-- THE TIED CARD OF 'entrepotlaw01.CursorWhere'. -/
def cursorWhereCard : Claim7 := { stood := { row := cursorWhereRow, standIns := [], harness := (true, "82a8ccf55cc147cfeab3689fe6b48bea41bdba9588e48d6f017e9cfbdc485576"), looks := false }, kinds := [], alts := [], laidByText := true, laidKinds := [.data, .pinned], laidTests := true, laidLooks := .later }
def CursorWhereCardSaid : Prop := Claim7.holds Tryd.pinned (.plain (OpenSpec.ofChange cursorWhereSpec)) cursorWhereCard

/-- THE TIED CARD OF 'entrepotlaw01.CursorBack'. -/
def cursorBackCard : Claim7 := { stood := { row := cursorBackRow, standIns := [], harness := (true, "82a8ccf55cc147cfeab3689fe6b48bea41bdba9588e48d6f017e9cfbdc485576"), looks := false }, kinds := [], alts := [], laidByText := true, laidKinds := [.data, .pinned], laidTests := true, laidLooks := .later }
def CursorBackCardSaid : Prop := Claim7.holds Tryd.pinned (.plain (OpenSpec.ofChange cursorBackSpec)) cursorBackCard

/-- THE TIED CARD OF 'entrepotlaw01.CursorCover'. -/
def cursorCoverCard : Claim7 := { stood := { row := cursorCoverRow, standIns := [], harness := (true, "82a8ccf55cc147cfeab3689fe6b48bea41bdba9588e48d6f017e9cfbdc485576"), looks := false }, kinds := [], alts := [], laidByText := true, laidKinds := [.data, .pinned], laidTests := true, laidLooks := .later }
def CursorCoverCardSaid : Prop := Claim7.holds Tryd.pinned (.plain (OpenSpec.ofChange cursorCoverSpec)) cursorCoverCard

/-- THE TIED CARD OF 'entrepotlaw01.CursorJoin'. -/
def cursorJoinCard : Claim7 := { stood := { row := cursorJoinRow, standIns := [], harness := (true, "82a8ccf55cc147cfeab3689fe6b48bea41bdba9588e48d6f017e9cfbdc485576"), looks := false }, kinds := [], alts := [], laidByText := true, laidKinds := [.data, .pinned], laidTests := true, laidLooks := .later }
def CursorJoinCardSaid : Prop := Claim7.holds Tryd.pinned (.plain (OpenSpec.ofChange cursorJoinSpec)) cursorJoinCard

/-- THE TIED CARD OF 'entrepotlaw01.CursorEnds'. -/
def cursorEndsCard : Claim7 := { stood := { row := cursorEndsRow, standIns := [], harness := (true, "82a8ccf55cc147cfeab3689fe6b48bea41bdba9588e48d6f017e9cfbdc485576"), looks := false }, kinds := [], alts := [], laidByText := true, laidKinds := [.data, .pinned], laidTests := true, laidLooks := .later }
def CursorEndsCardSaid : Prop := Claim7.holds Tryd.pinned (.plain (OpenSpec.ofChange cursorEndsSpec)) cursorEndsCard

/-- THE SECOND FORM's CARD OF 'entrepotlaw01.CursorLines'. -/
def cursorLinesUptoCard : Claim7 := { stood := { row := cursorLinesUptoRow, standIns := [], harness := (true, "82a8ccf55cc147cfeab3689fe6b48bea41bdba9588e48d6f017e9cfbdc485576"), looks := false }, kinds := [], alts := [], laidByText := true, laidKinds := [.data, .pinned], laidTests := true, laidLooks := .later }
def CursorLinesUptoCardSaid : Prop := Claim7.holds Tryd.pinned (.plain (OpenSpec.upto cursorLinesSpec)) cursorLinesUptoCard

/-- THE SECOND FORM's CARD OF 'entrepotlaw01.CursorWhere'. -/
def cursorWhereUptoCard : Claim7 := { stood := { row := cursorWhereUptoRow, standIns := [], harness := (true, "82a8ccf55cc147cfeab3689fe6b48bea41bdba9588e48d6f017e9cfbdc485576"), looks := false }, kinds := [], alts := [], laidByText := true, laidKinds := [.data, .pinned], laidTests := true, laidLooks := .later }
def CursorWhereUptoCardSaid : Prop := Claim7.holds Tryd.pinned (.plain (OpenSpec.upto cursorWhereSpec)) cursorWhereUptoCard

/-- THE SECOND FORM's CARD OF 'entrepotlaw01.CursorBack'. -/
def cursorBackUptoCard : Claim7 := { stood := { row := cursorBackUptoRow, standIns := [], harness := (true, "82a8ccf55cc147cfeab3689fe6b48bea41bdba9588e48d6f017e9cfbdc485576"), looks := false }, kinds := [], alts := [], laidByText := true, laidKinds := [.data, .pinned], laidTests := true, laidLooks := .later }
def CursorBackUptoCardSaid : Prop := Claim7.holds Tryd.pinned (.plain (OpenSpec.upto cursorBackSpec)) cursorBackUptoCard

/-- THE SECOND FORM's CARD OF 'entrepotlaw01.CursorCover'. -/
def cursorCoverUptoCard : Claim7 := { stood := { row := cursorCoverUptoRow, standIns := [], harness := (true, "82a8ccf55cc147cfeab3689fe6b48bea41bdba9588e48d6f017e9cfbdc485576"), looks := false }, kinds := [], alts := [], laidByText := true, laidKinds := [.data, .pinned], laidTests := true, laidLooks := .later }
def CursorCoverUptoCardSaid : Prop := Claim7.holds Tryd.pinned (.plain (OpenSpec.upto cursorCoverSpec)) cursorCoverUptoCard

/-- THE SECOND FORM's CARD OF 'entrepotlaw01.CursorJoin'. -/
def cursorJoinUptoCard : Claim7 := { stood := { row := cursorJoinUptoRow, standIns := [], harness := (true, "82a8ccf55cc147cfeab3689fe6b48bea41bdba9588e48d6f017e9cfbdc485576"), looks := false }, kinds := [], alts := [], laidByText := true, laidKinds := [.data, .pinned], laidTests := true, laidLooks := .later }
def CursorJoinUptoCardSaid : Prop := Claim7.holds Tryd.pinned (.plain (OpenSpec.upto cursorJoinSpec)) cursorJoinUptoCard

/-- THE SECOND FORM's CARD OF 'entrepotlaw01.CursorEnds'. -/
def cursorEndsUptoCard : Claim7 := { stood := { row := cursorEndsUptoRow, standIns := [], harness := (true, "82a8ccf55cc147cfeab3689fe6b48bea41bdba9588e48d6f017e9cfbdc485576"), looks := false }, kinds := [], alts := [], laidByText := true, laidKinds := [.data, .pinned], laidTests := true, laidLooks := .later }
def CursorEndsUptoCardSaid : Prop := Claim7.holds Tryd.pinned (.plain (OpenSpec.upto cursorEndsSpec)) cursorEndsUptoCard
end Rows
end Go.Proofs.YtfdeffjdhpdfeaaDoor
