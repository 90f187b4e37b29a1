/-
  DERIVED. GIVEN WITH THE SEED: THE CARDS: each row of YtofhkjacpjfclaaDoorRows.lean that lists a variable, with what it lists TIED to the program's text (the seventh form; the later family's looks); each row that meets fmt, with fmt's text TOLD by the authors' own Lean function (tested against real Go, not proved from fmt's source: count such statements apart). THE CARD IS WHAT COUNTS. Prove the row's statement (the work); the ties are given (YtofhkjacpjfclaaDoorTie.lean); close each card by the builder's one call (the guide's Derived/Test/ToyasCard.lean, 'card_holds'). Laid BY PROGRAM, IN A SANDBOX (cutbox-door.mjs). By AI agents, Wed Nov 11 2026. No macro, syntax, notation, axiom, sorry.
-/
import Derived.Test.YtofhkjacpjfclaaDoorRows
import GoSem.ClaimSeven
namespace Go.Proofs.YtofhkjacpjfclaaDoor
namespace Rows

/-- THE TIED CARD OF 'alembiclaw13.SrcDeep'. -/
def srcDeepCard : Claim7 := { stood := { row := srcDeepRow, standIns := [], harness := (true, "ecd27275a719a37bd5ab7faecb7c42021ac9bc517b5d5eb6279663d558dcb721"), looks := true }, kinds := [], alts := [], laidByText := true, laidKinds := [.sentinel, .sentinel, .sentinel, .sentinel, .sentinel, .sentinel, .sentinel, .sentinel, .sentinel, .sentinel, .sentinel, .sentinel, .sentinel, .sentinel], laidTests := true, laidLooks := .later }
def SrcDeepCardSaid : Prop := Claim7.holds Tryd.pinned (.plain (OpenSpec.ofChange srcDeepSpec)) srcDeepCard

/-- THE TIED CARD OF 'alembiclaw13.SrcOwn'. -/
def srcOwnCard : Claim7 := { stood := { row := srcOwnRow, standIns := [], harness := (true, "ecd27275a719a37bd5ab7faecb7c42021ac9bc517b5d5eb6279663d558dcb721"), looks := true }, kinds := [], alts := [], laidByText := true, laidKinds := [.sentinel, .sentinel, .sentinel, .sentinel, .sentinel], laidTests := true, laidLooks := .later }
def SrcOwnCardSaid : Prop := Claim7.holds Tryd.pinned (.plain (OpenSpec.ofChange srcOwnSpec)) srcOwnCard

/-- THE TIED CARD OF 'alembiclaw25.ImageSays'. -/
def imageSaysCard : Claim7 := { stood := { row := imageSaysRow, standIns := [], harness := (true, "ecd27275a719a37bd5ab7faecb7c42021ac9bc517b5d5eb6279663d558dcb721"), looks := true }, kinds := [], alts := [], laidByText := true, laidKinds := [.sentinel, .sentinel, .sentinel, .sentinel, .sentinel, .sentinel, .sentinel, .sentinel, .sentinel, .sentinel, .sentinel, .sentinel, .sentinel, .sentinel], laidTests := true, laidLooks := .later }
def ImageSaysCardSaid : Prop := Claim7.holds Tryd.pinned (.plain (OpenSpec.ofChange imageSaysSpec)) imageSaysCard

/-- THE TIED CARD OF 'alembiclaw25.ImageBack'. -/
def imageBackCard : Claim7 := { stood := { row := imageBackRow, standIns := [], harness := (true, "ecd27275a719a37bd5ab7faecb7c42021ac9bc517b5d5eb6279663d558dcb721"), looks := true }, kinds := [], alts := [], laidByText := true, laidKinds := [.sentinel, .sentinel, .sentinel, .sentinel, .sentinel, .sentinel, .sentinel, .sentinel, .sentinel, .sentinel, .sentinel, .sentinel, .sentinel, .sentinel], laidTests := true, laidLooks := .later }
def ImageBackCardSaid : Prop := Claim7.holds Tryd.pinned (.plain (OpenSpec.ofChange imageBackSpec)) imageBackCard

/-- THE TIED CARD OF 'alembiclaw25.ImageTurned'. -/
def imageTurnedCard : Claim7 := { stood := { row := imageTurnedRow, standIns := [], harness := (true, "ecd27275a719a37bd5ab7faecb7c42021ac9bc517b5d5eb6279663d558dcb721"), looks := true }, kinds := [], alts := [], laidByText := true, laidKinds := [.sentinel, .sentinel, .sentinel, .sentinel, .sentinel], laidTests := true, laidLooks := .later }
def ImageTurnedCardSaid : Prop := Claim7.holds Tryd.pinned (.plain (OpenSpec.ofChange imageTurnedSpec)) imageTurnedCard

/-- THE TIED CARD OF 'alembiclaw13.SrcTexts'. -/
def srcTextsCard : Claim7 := { stood := { row := srcTextsRow, standIns := [], harness := (true, "ecd27275a719a37bd5ab7faecb7c42021ac9bc517b5d5eb6279663d558dcb721"), looks := true }, kinds := [], alts := [], laidByText := true, laidKinds := [.data, .data, .data, .sentinel, .sentinel, .sentinel, .sentinel, .sentinel], laidTests := true, laidLooks := .later }
def SrcTextsCardSaid : Prop := Claim7.holds Tryd.pinned (.plain (OpenSpec.ofChange srcTextsSpec)) srcTextsCard

/-- THE TIED CARD OF 'alembiclaw13.SrcSays'. -/
def srcSaysCard : Claim7 := { stood := { row := srcSaysRow, standIns := [], harness := (true, "ecd27275a719a37bd5ab7faecb7c42021ac9bc517b5d5eb6279663d558dcb721"), looks := true }, kinds := [], alts := [], laidByText := true, laidKinds := [.data, .data, .data, .sentinel, .sentinel, .sentinel, .sentinel, .sentinel, .sentinel, .sentinel, .sentinel, .sentinel, .sentinel, .sentinel, .sentinel, .sentinel, .sentinel], laidTests := true, laidLooks := .later }
def SrcSaysCardSaid : Prop := Claim7.holds Tryd.pinned (.plain (OpenSpec.ofChange srcSaysSpec)) srcSaysCard

/-- THE SECOND FORM's CARD OF 'alembiclaw13.SrcDeep'. -/
def srcDeepUptoCard : Claim7 := { stood := { row := srcDeepUptoRow, standIns := [], harness := (true, "ecd27275a719a37bd5ab7faecb7c42021ac9bc517b5d5eb6279663d558dcb721"), looks := true }, kinds := [], alts := [], laidByText := true, laidKinds := [.sentinel, .sentinel, .sentinel, .sentinel, .sentinel, .sentinel, .sentinel, .sentinel, .sentinel, .sentinel, .sentinel, .sentinel, .sentinel, .sentinel], laidTests := true, laidLooks := .later }
def SrcDeepUptoCardSaid : Prop := Claim7.holds Tryd.pinned (.plain (OpenSpec.upto srcDeepSpec)) srcDeepUptoCard

/-- THE SECOND FORM's CARD OF 'alembiclaw13.SrcOwn'. -/
def srcOwnUptoCard : Claim7 := { stood := { row := srcOwnUptoRow, standIns := [], harness := (true, "ecd27275a719a37bd5ab7faecb7c42021ac9bc517b5d5eb6279663d558dcb721"), looks := true }, kinds := [], alts := [], laidByText := true, laidKinds := [.sentinel, .sentinel, .sentinel, .sentinel, .sentinel], laidTests := true, laidLooks := .later }
def SrcOwnUptoCardSaid : Prop := Claim7.holds Tryd.pinned (.plain (OpenSpec.upto srcOwnSpec)) srcOwnUptoCard

/-- THE SECOND FORM's CARD OF 'alembiclaw25.ImageSays'. -/
def imageSaysUptoCard : Claim7 := { stood := { row := imageSaysUptoRow, standIns := [], harness := (true, "ecd27275a719a37bd5ab7faecb7c42021ac9bc517b5d5eb6279663d558dcb721"), looks := true }, kinds := [], alts := [], laidByText := true, laidKinds := [.sentinel, .sentinel, .sentinel, .sentinel, .sentinel, .sentinel, .sentinel, .sentinel, .sentinel, .sentinel, .sentinel, .sentinel, .sentinel, .sentinel], laidTests := true, laidLooks := .later }
def ImageSaysUptoCardSaid : Prop := Claim7.holds Tryd.pinned (.plain (OpenSpec.upto imageSaysSpec)) imageSaysUptoCard

/-- THE SECOND FORM's CARD OF 'alembiclaw25.ImageBack'. -/
def imageBackUptoCard : Claim7 := { stood := { row := imageBackUptoRow, standIns := [], harness := (true, "ecd27275a719a37bd5ab7faecb7c42021ac9bc517b5d5eb6279663d558dcb721"), looks := true }, kinds := [], alts := [], laidByText := true, laidKinds := [.sentinel, .sentinel, .sentinel, .sentinel, .sentinel, .sentinel, .sentinel, .sentinel, .sentinel, .sentinel, .sentinel, .sentinel, .sentinel, .sentinel], laidTests := true, laidLooks := .later }
def ImageBackUptoCardSaid : Prop := Claim7.holds Tryd.pinned (.plain (OpenSpec.upto imageBackSpec)) imageBackUptoCard

/-- THE SECOND FORM's CARD OF 'alembiclaw25.ImageTurned'. -/
def imageTurnedUptoCard : Claim7 := { stood := { row := imageTurnedUptoRow, standIns := [], harness := (true, "ecd27275a719a37bd5ab7faecb7c42021ac9bc517b5d5eb6279663d558dcb721"), looks := true }, kinds := [], alts := [], laidByText := true, laidKinds := [.sentinel, .sentinel, .sentinel, .sentinel, .sentinel], laidTests := true, laidLooks := .later }
def ImageTurnedUptoCardSaid : Prop := Claim7.holds Tryd.pinned (.plain (OpenSpec.upto imageTurnedSpec)) imageTurnedUptoCard

/-- THE SECOND FORM's CARD OF 'alembiclaw13.SrcTexts'. -/
def srcTextsUptoCard : Claim7 := { stood := { row := srcTextsUptoRow, standIns := [], harness := (true, "ecd27275a719a37bd5ab7faecb7c42021ac9bc517b5d5eb6279663d558dcb721"), looks := true }, kinds := [], alts := [], laidByText := true, laidKinds := [.data, .data, .data, .sentinel, .sentinel, .sentinel, .sentinel, .sentinel], laidTests := true, laidLooks := .later }
def SrcTextsUptoCardSaid : Prop := Claim7.holds Tryd.pinned (.plain (OpenSpec.upto srcTextsSpec)) srcTextsUptoCard

/-- THE SECOND FORM's CARD OF 'alembiclaw13.SrcSays'. -/
def srcSaysUptoCard : Claim7 := { stood := { row := srcSaysUptoRow, standIns := [], harness := (true, "ecd27275a719a37bd5ab7faecb7c42021ac9bc517b5d5eb6279663d558dcb721"), looks := true }, kinds := [], alts := [], laidByText := true, laidKinds := [.data, .data, .data, .sentinel, .sentinel, .sentinel, .sentinel, .sentinel, .sentinel, .sentinel, .sentinel, .sentinel, .sentinel, .sentinel, .sentinel, .sentinel, .sentinel], laidTests := true, laidLooks := .later }
def SrcSaysUptoCardSaid : Prop := Claim7.holds Tryd.pinned (.plain (OpenSpec.upto srcSaysSpec)) srcSaysUptoCard
end Rows
end Go.Proofs.YtofhkjacpjfclaaDoor
