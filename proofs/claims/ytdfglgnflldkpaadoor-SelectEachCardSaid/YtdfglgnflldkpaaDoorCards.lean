/-
  DERIVED. GIVEN WITH THE SEED: THE CARDS: each row of YtdfglgnflldkpaaDoorRows.lean that lists a variable, with what it lists TIED to the program's text (the seventh form; the later family's looks); each row that meets fmt, with fmt's text TOLD by the authors' own Lean function (tested against real Go, not proved from fmt's source: count such statements apart). THE CARD IS WHAT COUNTS. Prove the row's statement (the work); the ties are given (YtdfglgnflldkpaaDoorTie.lean); close each card by the builder's one call (the guide's Derived/Test/ToyasCard.lean, 'card_holds'). Laid BY PROGRAM, IN A SANDBOX (cutbox-door.mjs). By AI agents, Wed Nov 11 2026. No macro, syntax, notation, axiom, sorry.
-/
import Derived.Test.YtdfglgnflldkpaaDoorRows
import GoSem.ClaimSeven
namespace Go.Proofs.YtdfglgnflldkpaaDoor
namespace Rows

/-- THE TIED CARD OF 'alembiclaw24.SelectHides'. -/
def selectHidesCard : Claim7 := { stood := { row := selectHidesRow, standIns := [], harness := (true, "92292b04e853d01d8cf3885d4f753a51952eaef99bf2156408a64e96f17010d7"), looks := true }, kinds := [], alts := [], laidByText := true, laidKinds := [.sentinel, .sentinel, .sentinel, .sentinel, .sentinel], laidTests := true, laidLooks := .later }
def SelectHidesCardSaid : Prop := Claim7.holds Tryd.pinned (.plain (OpenSpec.ofChange selectHidesSpec)) selectHidesCard

/-- THE TIED CARD OF 'alembiclaw24.SelectConsts'. -/
def selectConstsCard : Claim7 := { stood := { row := selectConstsRow, standIns := [], harness := (true, "92292b04e853d01d8cf3885d4f753a51952eaef99bf2156408a64e96f17010d7"), looks := true }, kinds := [], alts := [], laidByText := true, laidKinds := [.sentinel, .sentinel, .sentinel, .sentinel, .sentinel, .sentinel, .sentinel, .sentinel, .sentinel, .sentinel, .sentinel, .sentinel, .sentinel, .sentinel], laidTests := true, laidLooks := .later }
def SelectConstsCardSaid : Prop := Claim7.holds Tryd.pinned (.plain (OpenSpec.ofChange selectConstsSpec)) selectConstsCard

/-- THE TIED CARD OF 'alembiclaw24.SelectEach'. -/
def selectEachCard : Claim7 := { stood := { row := selectEachRow, standIns := [], harness := (true, "92292b04e853d01d8cf3885d4f753a51952eaef99bf2156408a64e96f17010d7"), looks := true }, kinds := [], alts := [], laidByText := true, laidKinds := [.sentinel, .sentinel, .sentinel, .sentinel, .sentinel], laidTests := true, laidLooks := .later }
def SelectEachCardSaid : Prop := Claim7.holds Tryd.pinned (.plain (OpenSpec.ofChange selectEachSpec)) selectEachCard

/-- THE TIED CARD OF 'alembiclaw24.SelectLoops'. -/
def selectLoopsCard : Claim7 := { stood := { row := selectLoopsRow, standIns := [], harness := (true, "92292b04e853d01d8cf3885d4f753a51952eaef99bf2156408a64e96f17010d7"), looks := true }, kinds := [], alts := [], laidByText := true, laidKinds := [.sentinel, .sentinel, .sentinel, .sentinel, .sentinel], laidTests := true, laidLooks := .later }
def SelectLoopsCardSaid : Prop := Claim7.holds Tryd.pinned (.plain (OpenSpec.ofChange selectLoopsSpec)) selectLoopsCard

/-- THE TIED CARD OF 'alembiclaw24.SelectFar'. -/
def selectFarCard : Claim7 := { stood := { row := selectFarRow, standIns := [], harness := (true, "92292b04e853d01d8cf3885d4f753a51952eaef99bf2156408a64e96f17010d7"), looks := true }, kinds := [], alts := [], laidByText := true, laidKinds := [.sentinel, .sentinel, .sentinel, .sentinel, .sentinel], laidTests := true, laidLooks := .later }
def SelectFarCardSaid : Prop := Claim7.holds Tryd.pinned (.plain (OpenSpec.ofChange selectFarSpec)) selectFarCard

/-- THE TIED CARD OF 'alembiclaw23.MachRuns'. -/
def machRunsCard : Claim7 := { stood := { row := machRunsRow, standIns := [], harness := (true, "92292b04e853d01d8cf3885d4f753a51952eaef99bf2156408a64e96f17010d7"), looks := true }, kinds := [], alts := [], laidByText := true, laidKinds := [.sentinel, .sentinel, .sentinel, .sentinel, .sentinel, .sentinel, .sentinel, .sentinel, .sentinel, .sentinel, .sentinel, .sentinel, .sentinel, .sentinel], laidTests := true, laidLooks := .later }
def MachRunsCardSaid : Prop := Claim7.holds Tryd.pinned (.plain (OpenSpec.ofChange machRunsSpec)) machRunsCard

/-- THE TIED CARD OF 'alembiclaw23.MachLoops'. -/
def machLoopsCard : Claim7 := { stood := { row := machLoopsRow, standIns := [], harness := (true, "92292b04e853d01d8cf3885d4f753a51952eaef99bf2156408a64e96f17010d7"), looks := true }, kinds := [], alts := [], laidByText := true, laidKinds := [.sentinel, .sentinel], laidTests := true, laidLooks := .later }
def MachLoopsCardSaid : Prop := Claim7.holds Tryd.pinned (.plain (OpenSpec.ofChange machLoopsSpec)) machLoopsCard

/-- THE TIED CARD OF 'alembiclaw23.MachFaults'. -/
def machFaultsCard : Claim7 := { stood := { row := machFaultsRow, standIns := [], harness := (true, "92292b04e853d01d8cf3885d4f753a51952eaef99bf2156408a64e96f17010d7"), looks := true }, kinds := [], alts := [], laidByText := true, laidKinds := [.sentinel, .sentinel], laidTests := true, laidLooks := .later }
def MachFaultsCardSaid : Prop := Claim7.holds Tryd.pinned (.plain (OpenSpec.ofChange machFaultsSpec)) machFaultsCard

/-- THE TIED CARD OF 'alembiclaw23.MachOne'. -/
def machOneCard : Claim7 := { stood := { row := machOneRow, standIns := [], harness := (true, "92292b04e853d01d8cf3885d4f753a51952eaef99bf2156408a64e96f17010d7"), looks := true }, kinds := [], alts := [], laidByText := true, laidKinds := [.sentinel, .sentinel], laidTests := true, laidLooks := .later }
def MachOneCardSaid : Prop := Claim7.holds Tryd.pinned (.plain (OpenSpec.ofChange machOneSpec)) machOneCard

/-- THE TIED CARD OF 'alembiclaw23.MachCompares'. -/
def machComparesCard : Claim7 := { stood := { row := machComparesRow, standIns := [], harness := (true, "92292b04e853d01d8cf3885d4f753a51952eaef99bf2156408a64e96f17010d7"), looks := true }, kinds := [], alts := [], laidByText := true, laidKinds := [.sentinel, .sentinel], laidTests := true, laidLooks := .later }
def MachComparesCardSaid : Prop := Claim7.holds Tryd.pinned (.plain (OpenSpec.ofChange machComparesSpec)) machComparesCard

/-- THE TIED CARD OF 'alembiclaw23.MachConsts'. -/
def machConstsCard : Claim7 := { stood := { row := machConstsRow, standIns := [], harness := (true, "92292b04e853d01d8cf3885d4f753a51952eaef99bf2156408a64e96f17010d7"), looks := true }, kinds := [], alts := [], laidByText := true, laidKinds := [.sentinel, .sentinel], laidTests := true, laidLooks := .later }
def MachConstsCardSaid : Prop := Claim7.holds Tryd.pinned (.plain (OpenSpec.ofChange machConstsSpec)) machConstsCard

/-- THE TIED CARD OF 'alembiclaw24.SelectMeans'. -/
def selectMeansCard : Claim7 := { stood := { row := selectMeansRow, standIns := [], harness := (true, "92292b04e853d01d8cf3885d4f753a51952eaef99bf2156408a64e96f17010d7"), looks := true }, kinds := [], alts := [], laidByText := true, laidKinds := [.sentinel, .sentinel, .sentinel, .sentinel, .sentinel, .sentinel, .sentinel, .sentinel, .sentinel, .sentinel, .sentinel, .sentinel, .sentinel, .sentinel], laidTests := true, laidLooks := .later }
def SelectMeansCardSaid : Prop := Claim7.holds Tryd.pinned (.plain (OpenSpec.ofChange selectMeansSpec)) selectMeansCard

/-- THE SECOND FORM's CARD OF 'alembiclaw24.SelectHides'. -/
def selectHidesUptoCard : Claim7 := { stood := { row := selectHidesUptoRow, standIns := [], harness := (true, "92292b04e853d01d8cf3885d4f753a51952eaef99bf2156408a64e96f17010d7"), looks := true }, kinds := [], alts := [], laidByText := true, laidKinds := [.sentinel, .sentinel, .sentinel, .sentinel, .sentinel], laidTests := true, laidLooks := .later }
def SelectHidesUptoCardSaid : Prop := Claim7.holds Tryd.pinned (.plain (OpenSpec.upto selectHidesSpec)) selectHidesUptoCard

/-- THE SECOND FORM's CARD OF 'alembiclaw24.SelectConsts'. -/
def selectConstsUptoCard : Claim7 := { stood := { row := selectConstsUptoRow, standIns := [], harness := (true, "92292b04e853d01d8cf3885d4f753a51952eaef99bf2156408a64e96f17010d7"), looks := true }, kinds := [], alts := [], laidByText := true, laidKinds := [.sentinel, .sentinel, .sentinel, .sentinel, .sentinel, .sentinel, .sentinel, .sentinel, .sentinel, .sentinel, .sentinel, .sentinel, .sentinel, .sentinel], laidTests := true, laidLooks := .later }
def SelectConstsUptoCardSaid : Prop := Claim7.holds Tryd.pinned (.plain (OpenSpec.upto selectConstsSpec)) selectConstsUptoCard

/-- THE SECOND FORM's CARD OF 'alembiclaw24.SelectEach'. -/
def selectEachUptoCard : Claim7 := { stood := { row := selectEachUptoRow, standIns := [], harness := (true, "92292b04e853d01d8cf3885d4f753a51952eaef99bf2156408a64e96f17010d7"), looks := true }, kinds := [], alts := [], laidByText := true, laidKinds := [.sentinel, .sentinel, .sentinel, .sentinel, .sentinel], laidTests := true, laidLooks := .later }
def SelectEachUptoCardSaid : Prop := Claim7.holds Tryd.pinned (.plain (OpenSpec.upto selectEachSpec)) selectEachUptoCard

/-- THE SECOND FORM's CARD OF 'alembiclaw24.SelectLoops'. -/
def selectLoopsUptoCard : Claim7 := { stood := { row := selectLoopsUptoRow, standIns := [], harness := (true, "92292b04e853d01d8cf3885d4f753a51952eaef99bf2156408a64e96f17010d7"), looks := true }, kinds := [], alts := [], laidByText := true, laidKinds := [.sentinel, .sentinel, .sentinel, .sentinel, .sentinel], laidTests := true, laidLooks := .later }
def SelectLoopsUptoCardSaid : Prop := Claim7.holds Tryd.pinned (.plain (OpenSpec.upto selectLoopsSpec)) selectLoopsUptoCard

/-- THE SECOND FORM's CARD OF 'alembiclaw24.SelectFar'. -/
def selectFarUptoCard : Claim7 := { stood := { row := selectFarUptoRow, standIns := [], harness := (true, "92292b04e853d01d8cf3885d4f753a51952eaef99bf2156408a64e96f17010d7"), looks := true }, kinds := [], alts := [], laidByText := true, laidKinds := [.sentinel, .sentinel, .sentinel, .sentinel, .sentinel], laidTests := true, laidLooks := .later }
def SelectFarUptoCardSaid : Prop := Claim7.holds Tryd.pinned (.plain (OpenSpec.upto selectFarSpec)) selectFarUptoCard

/-- THE SECOND FORM's CARD OF 'alembiclaw23.MachRuns'. -/
def machRunsUptoCard : Claim7 := { stood := { row := machRunsUptoRow, standIns := [], harness := (true, "92292b04e853d01d8cf3885d4f753a51952eaef99bf2156408a64e96f17010d7"), looks := true }, kinds := [], alts := [], laidByText := true, laidKinds := [.sentinel, .sentinel, .sentinel, .sentinel, .sentinel, .sentinel, .sentinel, .sentinel, .sentinel, .sentinel, .sentinel, .sentinel, .sentinel, .sentinel], laidTests := true, laidLooks := .later }
def MachRunsUptoCardSaid : Prop := Claim7.holds Tryd.pinned (.plain (OpenSpec.upto machRunsSpec)) machRunsUptoCard

/-- THE SECOND FORM's CARD OF 'alembiclaw23.MachLoops'. -/
def machLoopsUptoCard : Claim7 := { stood := { row := machLoopsUptoRow, standIns := [], harness := (true, "92292b04e853d01d8cf3885d4f753a51952eaef99bf2156408a64e96f17010d7"), looks := true }, kinds := [], alts := [], laidByText := true, laidKinds := [.sentinel, .sentinel], laidTests := true, laidLooks := .later }
def MachLoopsUptoCardSaid : Prop := Claim7.holds Tryd.pinned (.plain (OpenSpec.upto machLoopsSpec)) machLoopsUptoCard

/-- THE SECOND FORM's CARD OF 'alembiclaw23.MachFaults'. -/
def machFaultsUptoCard : Claim7 := { stood := { row := machFaultsUptoRow, standIns := [], harness := (true, "92292b04e853d01d8cf3885d4f753a51952eaef99bf2156408a64e96f17010d7"), looks := true }, kinds := [], alts := [], laidByText := true, laidKinds := [.sentinel, .sentinel], laidTests := true, laidLooks := .later }
def MachFaultsUptoCardSaid : Prop := Claim7.holds Tryd.pinned (.plain (OpenSpec.upto machFaultsSpec)) machFaultsUptoCard

/-- THE SECOND FORM's CARD OF 'alembiclaw23.MachOne'. -/
def machOneUptoCard : Claim7 := { stood := { row := machOneUptoRow, standIns := [], harness := (true, "92292b04e853d01d8cf3885d4f753a51952eaef99bf2156408a64e96f17010d7"), looks := true }, kinds := [], alts := [], laidByText := true, laidKinds := [.sentinel, .sentinel], laidTests := true, laidLooks := .later }
def MachOneUptoCardSaid : Prop := Claim7.holds Tryd.pinned (.plain (OpenSpec.upto machOneSpec)) machOneUptoCard

/-- THE SECOND FORM's CARD OF 'alembiclaw23.MachCompares'. -/
def machComparesUptoCard : Claim7 := { stood := { row := machComparesUptoRow, standIns := [], harness := (true, "92292b04e853d01d8cf3885d4f753a51952eaef99bf2156408a64e96f17010d7"), looks := true }, kinds := [], alts := [], laidByText := true, laidKinds := [.sentinel, .sentinel], laidTests := true, laidLooks := .later }
def MachComparesUptoCardSaid : Prop := Claim7.holds Tryd.pinned (.plain (OpenSpec.upto machComparesSpec)) machComparesUptoCard

/-- THE SECOND FORM's CARD OF 'alembiclaw23.MachConsts'. -/
def machConstsUptoCard : Claim7 := { stood := { row := machConstsUptoRow, standIns := [], harness := (true, "92292b04e853d01d8cf3885d4f753a51952eaef99bf2156408a64e96f17010d7"), looks := true }, kinds := [], alts := [], laidByText := true, laidKinds := [.sentinel, .sentinel], laidTests := true, laidLooks := .later }
def MachConstsUptoCardSaid : Prop := Claim7.holds Tryd.pinned (.plain (OpenSpec.upto machConstsSpec)) machConstsUptoCard

/-- THE SECOND FORM's CARD OF 'alembiclaw24.SelectMeans'. -/
def selectMeansUptoCard : Claim7 := { stood := { row := selectMeansUptoRow, standIns := [], harness := (true, "92292b04e853d01d8cf3885d4f753a51952eaef99bf2156408a64e96f17010d7"), looks := true }, kinds := [], alts := [], laidByText := true, laidKinds := [.sentinel, .sentinel, .sentinel, .sentinel, .sentinel, .sentinel, .sentinel, .sentinel, .sentinel, .sentinel, .sentinel, .sentinel, .sentinel, .sentinel], laidTests := true, laidLooks := .later }
def SelectMeansUptoCardSaid : Prop := Claim7.holds Tryd.pinned (.plain (OpenSpec.upto selectMeansSpec)) selectMeansUptoCard
end Rows
end Go.Proofs.YtdfglgnflldkpaaDoor
