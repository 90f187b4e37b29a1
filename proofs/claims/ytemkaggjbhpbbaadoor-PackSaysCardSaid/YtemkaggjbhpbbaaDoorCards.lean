/-
  DERIVED. GIVEN WITH THE SEED: THE CARDS: each row of YtemkaggjbhpbbaaDoorRows.lean that lists a variable, with what it lists TIED to the program's text (the seventh form; the later family's looks); each row that meets fmt, with fmt's text TOLD by the authors' own Lean function (tested against real Go, not proved from fmt's source: count such statements apart). THE CARD IS WHAT COUNTS. Prove the row's statement (the work); the ties are given (YtemkaggjbhpbbaaDoorTie.lean); close each card by the builder's one call (the guide's Derived/Test/ToyasCard.lean, 'card_holds'). Laid BY PROGRAM, IN A SANDBOX (cutbox-door.mjs). By AI agents, Wed Nov 11 2026. No macro, syntax, notation, axiom, sorry.
-/
import Derived.Test.YtemkaggjbhpbbaaDoorRows
import GoSem.ClaimSeven
namespace Go.Proofs.YtemkaggjbhpbbaaDoor
namespace Rows

/-- THE TIED CARD OF 'alembiclaw6.PackWidths'. -/
def packWidthsCard : Claim7 := { stood := { row := packWidthsRow, standIns := [], harness := (true, "3a7b848eb64b91be839e65017bae6dc17327b39c6136c9fcb8464e2685ceb53f"), looks := true }, kinds := [], alts := [], laidByText := true, laidKinds := [.sentinel, .sentinel], laidTests := true, laidLooks := .later }
def PackWidthsCardSaid : Prop := Claim7.holds Tryd.pinned (.plain (OpenSpec.ofChange packWidthsSpec)) packWidthsCard

/-- THE TIED CARD OF 'alembiclaw6.PackBack'. -/
def packBackCard : Claim7 := { stood := { row := packBackRow, standIns := [], harness := (true, "3a7b848eb64b91be839e65017bae6dc17327b39c6136c9fcb8464e2685ceb53f"), looks := true }, kinds := [], alts := [], laidByText := true, laidKinds := [.sentinel, .sentinel], laidTests := true, laidLooks := .later }
def PackBackCardSaid : Prop := Claim7.holds Tryd.pinned (.plain (OpenSpec.ofChange packBackSpec)) packBackCard

/-- THE TIED CARD OF 'alembiclaw6.PackOne'. -/
def packOneCard : Claim7 := { stood := { row := packOneRow, standIns := [], harness := (true, "3a7b848eb64b91be839e65017bae6dc17327b39c6136c9fcb8464e2685ceb53f"), looks := true }, kinds := [], alts := [], laidByText := true, laidKinds := [.sentinel, .sentinel, .sentinel, .sentinel, .sentinel, .sentinel, .sentinel, .sentinel, .sentinel, .sentinel, .sentinel, .sentinel, .sentinel, .sentinel], laidTests := true, laidLooks := .later }
def PackOneCardSaid : Prop := Claim7.holds Tryd.pinned (.plain (OpenSpec.ofChange packOneSpec)) packOneCard

/-- THE TIED CARD OF 'alembiclaw6.PackSays'. -/
def packSaysCard : Claim7 := { stood := { row := packSaysRow, standIns := [], harness := (true, "3a7b848eb64b91be839e65017bae6dc17327b39c6136c9fcb8464e2685ceb53f"), looks := true }, kinds := [], alts := [], laidByText := true, laidKinds := [.sentinel, .sentinel, .sentinel, .sentinel, .sentinel, .sentinel, .sentinel, .sentinel, .sentinel, .sentinel, .sentinel, .sentinel, .sentinel, .sentinel], laidTests := true, laidLooks := .later }
def PackSaysCardSaid : Prop := Claim7.holds Tryd.pinned (.plain (OpenSpec.ofChange packSaysSpec)) packSaysCard

/-- THE TIED CARD OF 'alembiclaw6.PackSigned'. -/
def packSignedCard : Claim7 := { stood := { row := packSignedRow, standIns := [], harness := (true, "3a7b848eb64b91be839e65017bae6dc17327b39c6136c9fcb8464e2685ceb53f"), looks := true }, kinds := [], alts := [], laidByText := true, laidKinds := [.sentinel, .sentinel, .sentinel, .sentinel, .sentinel, .sentinel, .sentinel, .sentinel, .sentinel, .sentinel, .sentinel, .sentinel, .sentinel, .sentinel], laidTests := true, laidLooks := .later }
def PackSignedCardSaid : Prop := Claim7.holds Tryd.pinned (.plain (OpenSpec.ofChange packSignedSpec)) packSignedCard

/-- THE SECOND FORM's CARD OF 'alembiclaw6.PackWidths'. -/
def packWidthsUptoCard : Claim7 := { stood := { row := packWidthsUptoRow, standIns := [], harness := (true, "3a7b848eb64b91be839e65017bae6dc17327b39c6136c9fcb8464e2685ceb53f"), looks := true }, kinds := [], alts := [], laidByText := true, laidKinds := [.sentinel, .sentinel], laidTests := true, laidLooks := .later }
def PackWidthsUptoCardSaid : Prop := Claim7.holds Tryd.pinned (.plain (OpenSpec.upto packWidthsSpec)) packWidthsUptoCard

/-- THE SECOND FORM's CARD OF 'alembiclaw6.PackBack'. -/
def packBackUptoCard : Claim7 := { stood := { row := packBackUptoRow, standIns := [], harness := (true, "3a7b848eb64b91be839e65017bae6dc17327b39c6136c9fcb8464e2685ceb53f"), looks := true }, kinds := [], alts := [], laidByText := true, laidKinds := [.sentinel, .sentinel], laidTests := true, laidLooks := .later }
def PackBackUptoCardSaid : Prop := Claim7.holds Tryd.pinned (.plain (OpenSpec.upto packBackSpec)) packBackUptoCard

/-- THE SECOND FORM's CARD OF 'alembiclaw6.PackOne'. -/
def packOneUptoCard : Claim7 := { stood := { row := packOneUptoRow, standIns := [], harness := (true, "3a7b848eb64b91be839e65017bae6dc17327b39c6136c9fcb8464e2685ceb53f"), looks := true }, kinds := [], alts := [], laidByText := true, laidKinds := [.sentinel, .sentinel, .sentinel, .sentinel, .sentinel, .sentinel, .sentinel, .sentinel, .sentinel, .sentinel, .sentinel, .sentinel, .sentinel, .sentinel], laidTests := true, laidLooks := .later }
def PackOneUptoCardSaid : Prop := Claim7.holds Tryd.pinned (.plain (OpenSpec.upto packOneSpec)) packOneUptoCard

/-- THE SECOND FORM's CARD OF 'alembiclaw6.PackSays'. -/
def packSaysUptoCard : Claim7 := { stood := { row := packSaysUptoRow, standIns := [], harness := (true, "3a7b848eb64b91be839e65017bae6dc17327b39c6136c9fcb8464e2685ceb53f"), looks := true }, kinds := [], alts := [], laidByText := true, laidKinds := [.sentinel, .sentinel, .sentinel, .sentinel, .sentinel, .sentinel, .sentinel, .sentinel, .sentinel, .sentinel, .sentinel, .sentinel, .sentinel, .sentinel], laidTests := true, laidLooks := .later }
def PackSaysUptoCardSaid : Prop := Claim7.holds Tryd.pinned (.plain (OpenSpec.upto packSaysSpec)) packSaysUptoCard

/-- THE SECOND FORM's CARD OF 'alembiclaw6.PackSigned'. -/
def packSignedUptoCard : Claim7 := { stood := { row := packSignedUptoRow, standIns := [], harness := (true, "3a7b848eb64b91be839e65017bae6dc17327b39c6136c9fcb8464e2685ceb53f"), looks := true }, kinds := [], alts := [], laidByText := true, laidKinds := [.sentinel, .sentinel, .sentinel, .sentinel, .sentinel, .sentinel, .sentinel, .sentinel, .sentinel, .sentinel, .sentinel, .sentinel, .sentinel, .sentinel], laidTests := true, laidLooks := .later }
def PackSignedUptoCardSaid : Prop := Claim7.holds Tryd.pinned (.plain (OpenSpec.upto packSignedSpec)) packSignedUptoCard
end Rows
end Go.Proofs.YtemkaggjbhpbbaaDoor
