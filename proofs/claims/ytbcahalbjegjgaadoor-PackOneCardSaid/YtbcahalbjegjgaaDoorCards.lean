/-
  DERIVED. GIVEN WITH THE SEED: THE CARDS: each row of YtbcahalbjegjgaaDoorRows.lean that lists a variable, with what it lists TIED to the program's text (the seventh form; the later family's looks); each row that meets fmt, with fmt's text TOLD by the authors' own Lean function (tested against real Go, not proved from fmt's source: count such statements apart). THE CARD IS WHAT COUNTS. Prove the row's statement (the work); the ties are given (YtbcahalbjegjgaaDoorTie.lean); close each card by the builder's one call (the guide's Derived/Test/ToyasCard.lean, 'card_holds'). Laid BY PROGRAM, IN A SANDBOX (cutbox-door.mjs). By AI agents, Wed Nov 11 2026. No macro, syntax, notation, axiom, sorry.
-/
import Derived.Test.YtbcahalbjegjgaaDoorRows
import GoSem.ClaimSeven
namespace Go.Proofs.YtbcahalbjegjgaaDoor
namespace Rows

/-- THE TIED CARD OF 'entrepotlaw21.PackShort'. -/
def packShortCard : Claim7 := { stood := { row := packShortRow, standIns := [], harness := (true, "c1658733dc7b3773e95d69582afae95fbaed3bfabd5cd9d31b8706302d709e24"), looks := false }, kinds := [], alts := [], laidByText := true, laidKinds := [.data], laidTests := true, laidLooks := .later }
def PackShortCardSaid : Prop := Claim7.holds Tryd.pinned (.plain (OpenSpec.ofChange packShortSpec)) packShortCard

/-- THE TIED CARD OF 'entrepotlaw21.PackNumbers'. -/
def packNumbersCard : Claim7 := { stood := { row := packNumbersRow, standIns := [], harness := (true, "c1658733dc7b3773e95d69582afae95fbaed3bfabd5cd9d31b8706302d709e24"), looks := false }, kinds := [], alts := [], laidByText := true, laidKinds := [.data], laidTests := true, laidLooks := .later }
def PackNumbersCardSaid : Prop := Claim7.holds Tryd.pinned (.plain (OpenSpec.ofChange packNumbersSpec)) packNumbersCard

/-- THE TIED CARD OF 'entrepotlaw21.PackOne'. -/
def packOneCard : Claim7 := { stood := { row := packOneRow, standIns := [], harness := (true, "c1658733dc7b3773e95d69582afae95fbaed3bfabd5cd9d31b8706302d709e24"), looks := false }, kinds := [], alts := [], laidByText := true, laidKinds := [.data], laidTests := true, laidLooks := .later }
def PackOneCardSaid : Prop := Claim7.holds Tryd.pinned (.plain (OpenSpec.ofChange packOneSpec)) packOneCard

/-- THE TIED CARD OF 'entrepotlaw21.PackTexts'. -/
def packTextsCard : Claim7 := { stood := { row := packTextsRow, standIns := [], harness := (true, "c1658733dc7b3773e95d69582afae95fbaed3bfabd5cd9d31b8706302d709e24"), looks := false }, kinds := [], alts := [], laidByText := true, laidKinds := [.data], laidTests := true, laidLooks := .later }
def PackTextsCardSaid : Prop := Claim7.holds Tryd.pinned (.plain (OpenSpec.ofChange packTextsSpec)) packTextsCard

/-- THE TIED CARD OF 'entrepotlaw21.PackBack'. -/
def packBackCard : Claim7 := { stood := { row := packBackRow, standIns := [], harness := (true, "c1658733dc7b3773e95d69582afae95fbaed3bfabd5cd9d31b8706302d709e24"), looks := false }, kinds := [], alts := [], laidByText := true, laidKinds := [.data], laidTests := true, laidLooks := .later }
def PackBackCardSaid : Prop := Claim7.holds Tryd.pinned (.plain (OpenSpec.ofChange packBackSpec)) packBackCard

/-- THE SECOND FORM's CARD OF 'entrepotlaw21.PackShort'. -/
def packShortUptoCard : Claim7 := { stood := { row := packShortUptoRow, standIns := [], harness := (true, "c1658733dc7b3773e95d69582afae95fbaed3bfabd5cd9d31b8706302d709e24"), looks := false }, kinds := [], alts := [], laidByText := true, laidKinds := [.data], laidTests := true, laidLooks := .later }
def PackShortUptoCardSaid : Prop := Claim7.holds Tryd.pinned (.plain (OpenSpec.upto packShortSpec)) packShortUptoCard

/-- THE SECOND FORM's CARD OF 'entrepotlaw21.PackNumbers'. -/
def packNumbersUptoCard : Claim7 := { stood := { row := packNumbersUptoRow, standIns := [], harness := (true, "c1658733dc7b3773e95d69582afae95fbaed3bfabd5cd9d31b8706302d709e24"), looks := false }, kinds := [], alts := [], laidByText := true, laidKinds := [.data], laidTests := true, laidLooks := .later }
def PackNumbersUptoCardSaid : Prop := Claim7.holds Tryd.pinned (.plain (OpenSpec.upto packNumbersSpec)) packNumbersUptoCard

/-- THE SECOND FORM's CARD OF 'entrepotlaw21.PackOne'. -/
def packOneUptoCard : Claim7 := { stood := { row := packOneUptoRow, standIns := [], harness := (true, "c1658733dc7b3773e95d69582afae95fbaed3bfabd5cd9d31b8706302d709e24"), looks := false }, kinds := [], alts := [], laidByText := true, laidKinds := [.data], laidTests := true, laidLooks := .later }
def PackOneUptoCardSaid : Prop := Claim7.holds Tryd.pinned (.plain (OpenSpec.upto packOneSpec)) packOneUptoCard

/-- THE SECOND FORM's CARD OF 'entrepotlaw21.PackTexts'. -/
def packTextsUptoCard : Claim7 := { stood := { row := packTextsUptoRow, standIns := [], harness := (true, "c1658733dc7b3773e95d69582afae95fbaed3bfabd5cd9d31b8706302d709e24"), looks := false }, kinds := [], alts := [], laidByText := true, laidKinds := [.data], laidTests := true, laidLooks := .later }
def PackTextsUptoCardSaid : Prop := Claim7.holds Tryd.pinned (.plain (OpenSpec.upto packTextsSpec)) packTextsUptoCard

/-- THE SECOND FORM's CARD OF 'entrepotlaw21.PackBack'. -/
def packBackUptoCard : Claim7 := { stood := { row := packBackUptoRow, standIns := [], harness := (true, "c1658733dc7b3773e95d69582afae95fbaed3bfabd5cd9d31b8706302d709e24"), looks := false }, kinds := [], alts := [], laidByText := true, laidKinds := [.data], laidTests := true, laidLooks := .later }
def PackBackUptoCardSaid : Prop := Claim7.holds Tryd.pinned (.plain (OpenSpec.upto packBackSpec)) packBackUptoCard
end Rows
end Go.Proofs.YtbcahalbjegjgaaDoor
