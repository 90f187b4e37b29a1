/-
  DERIVED. GIVEN WITH THE SEED: THE CARDS: each row of YtcmblhedhgiofaaDoorRows.lean that lists a variable, with what it lists TIED to the program's text (the seventh form; the later family's looks); each row that meets fmt, with fmt's text TOLD by the authors' own Lean function (tested against real Go, not proved from fmt's source: count such statements apart). THE CARD IS WHAT COUNTS. Prove the row's statement (the work); the ties are given (YtcmblhedhgiofaaDoorTie.lean); close each card by the builder's one call (the guide's Derived/Test/ToyasCard.lean, 'card_holds'). Laid BY PROGRAM, IN A SANDBOX (cutbox-door.mjs). By AI agents, Wed Nov 11 2026. No macro, syntax, notation, axiom, sorry.
-/
import Derived.Test.YtcmblhedhgiofaaDoorRows
import GoSem.ClaimSeven
namespace Go.Proofs.YtcmblhedhgiofaaDoor
namespace Rows

/-- THE TIED CARD OF 'alembiclaw17.WordsRun'. -/
def wordsRunCard : Claim7 := { stood := { row := wordsRunRow, standIns := [], harness := (true, "eea5546ee5c6d90b41f0e6dcb9da92a4a93ff31768642628f5f5acb5a9c2d3db"), looks := true }, kinds := [], alts := [], laidByText := true, laidKinds := [.sentinel, .sentinel, .sentinel, .sentinel, .sentinel, .sentinel, .sentinel, .sentinel, .sentinel, .sentinel, .sentinel, .sentinel, .sentinel, .sentinel], laidTests := true, laidLooks := .later }
def WordsRunCardSaid : Prop := Claim7.holds Tryd.pinned (.plain (OpenSpec.ofChange wordsRunSpec)) wordsRunCard

/-- THE TIED CARD OF 'alembiclaw17.WordsMeans'. -/
def wordsMeansCard : Claim7 := { stood := { row := wordsMeansRow, standIns := [], harness := (true, "eea5546ee5c6d90b41f0e6dcb9da92a4a93ff31768642628f5f5acb5a9c2d3db"), looks := true }, kinds := [], alts := [], laidByText := true, laidKinds := [.sentinel, .sentinel, .sentinel, .sentinel, .sentinel, .sentinel], laidTests := true, laidLooks := .later }
def WordsMeansCardSaid : Prop := Claim7.holds Tryd.pinned (.plain (OpenSpec.ofChange wordsMeansSpec)) wordsMeansCard

/-- THE TIED CARD OF 'alembiclaw17.WordsLeak'. -/
def wordsLeakCard : Claim7 := { stood := { row := wordsLeakRow, standIns := [], harness := (true, "eea5546ee5c6d90b41f0e6dcb9da92a4a93ff31768642628f5f5acb5a9c2d3db"), looks := true }, kinds := [], alts := [], laidByText := true, laidKinds := [.sentinel, .sentinel, .sentinel, .sentinel, .sentinel, .sentinel], laidTests := true, laidLooks := .later }
def WordsLeakCardSaid : Prop := Claim7.holds Tryd.pinned (.plain (OpenSpec.ofChange wordsLeakSpec)) wordsLeakCard

/-- THE TIED CARD OF 'alembiclaw17.WordsLoops'. -/
def wordsLoopsCard : Claim7 := { stood := { row := wordsLoopsRow, standIns := [], harness := (true, "eea5546ee5c6d90b41f0e6dcb9da92a4a93ff31768642628f5f5acb5a9c2d3db"), looks := true }, kinds := [], alts := [], laidByText := true, laidKinds := [.sentinel, .sentinel, .sentinel, .sentinel, .sentinel, .sentinel], laidTests := true, laidLooks := .later }
def WordsLoopsCardSaid : Prop := Claim7.holds Tryd.pinned (.plain (OpenSpec.ofChange wordsLoopsSpec)) wordsLoopsCard

/-- THE TIED CARD OF 'alembiclaw17.WordsFaults'. -/
def wordsFaultsCard : Claim7 := { stood := { row := wordsFaultsRow, standIns := [], harness := (true, "eea5546ee5c6d90b41f0e6dcb9da92a4a93ff31768642628f5f5acb5a9c2d3db"), looks := true }, kinds := [], alts := [], laidByText := true, laidKinds := [.sentinel, .sentinel, .sentinel, .sentinel, .sentinel, .sentinel], laidTests := true, laidLooks := .later }
def WordsFaultsCardSaid : Prop := Claim7.holds Tryd.pinned (.plain (OpenSpec.ofChange wordsFaultsSpec)) wordsFaultsCard

/-- THE TIED CARD OF 'alembiclaw18.BoundChecks'. -/
def boundChecksCard : Claim7 := { stood := { row := boundChecksRow, standIns := [], harness := (true, "eea5546ee5c6d90b41f0e6dcb9da92a4a93ff31768642628f5f5acb5a9c2d3db"), looks := true }, kinds := [], alts := [], laidByText := true, laidKinds := [.sentinel, .sentinel, .sentinel, .sentinel, .sentinel, .sentinel, .sentinel, .sentinel, .sentinel, .sentinel, .sentinel, .sentinel, .sentinel, .sentinel], laidTests := true, laidLooks := .later }
def BoundChecksCardSaid : Prop := Claim7.holds Tryd.pinned (.plain (OpenSpec.ofChange boundChecksSpec)) boundChecksCard

/-- THE TIED CARD OF 'alembiclaw18.BoundExact'. -/
def boundExactCard : Claim7 := { stood := { row := boundExactRow, standIns := [], harness := (true, "eea5546ee5c6d90b41f0e6dcb9da92a4a93ff31768642628f5f5acb5a9c2d3db"), looks := true }, kinds := [], alts := [], laidByText := true, laidKinds := [.sentinel, .sentinel, .sentinel, .sentinel, .sentinel, .sentinel], laidTests := true, laidLooks := .later }
def BoundExactCardSaid : Prop := Claim7.holds Tryd.pinned (.plain (OpenSpec.ofChange boundExactSpec)) boundExactCard

/-- THE TIED CARD OF 'alembiclaw18.BoundSound'. -/
def boundSoundCard : Claim7 := { stood := { row := boundSoundRow, standIns := [], harness := (true, "eea5546ee5c6d90b41f0e6dcb9da92a4a93ff31768642628f5f5acb5a9c2d3db"), looks := true }, kinds := [], alts := [], laidByText := true, laidKinds := [.sentinel, .sentinel, .sentinel, .sentinel, .sentinel, .sentinel], laidTests := true, laidLooks := .later }
def BoundSoundCardSaid : Prop := Claim7.holds Tryd.pinned (.plain (OpenSpec.ofChange boundSoundSpec)) boundSoundCard

/-- THE TIED CARD OF 'alembiclaw17.WordsValues'. -/
def wordsValuesCard : Claim7 := { stood := { row := wordsValuesRow, standIns := [], harness := (true, "eea5546ee5c6d90b41f0e6dcb9da92a4a93ff31768642628f5f5acb5a9c2d3db"), looks := true }, kinds := [], alts := [], laidByText := true, laidKinds := [.data, .data, .data, .sentinel, .sentinel, .sentinel, .sentinel, .sentinel, .sentinel], laidTests := true, laidLooks := .later }
def WordsValuesCardSaid : Prop := Claim7.holds Tryd.pinned (.plain (OpenSpec.ofChange wordsValuesSpec)) wordsValuesCard

/-- THE SECOND FORM's CARD OF 'alembiclaw17.WordsRun'. -/
def wordsRunUptoCard : Claim7 := { stood := { row := wordsRunUptoRow, standIns := [], harness := (true, "eea5546ee5c6d90b41f0e6dcb9da92a4a93ff31768642628f5f5acb5a9c2d3db"), looks := true }, kinds := [], alts := [], laidByText := true, laidKinds := [.sentinel, .sentinel, .sentinel, .sentinel, .sentinel, .sentinel, .sentinel, .sentinel, .sentinel, .sentinel, .sentinel, .sentinel, .sentinel, .sentinel], laidTests := true, laidLooks := .later }
def WordsRunUptoCardSaid : Prop := Claim7.holds Tryd.pinned (.plain (OpenSpec.upto wordsRunSpec)) wordsRunUptoCard

/-- THE SECOND FORM's CARD OF 'alembiclaw17.WordsMeans'. -/
def wordsMeansUptoCard : Claim7 := { stood := { row := wordsMeansUptoRow, standIns := [], harness := (true, "eea5546ee5c6d90b41f0e6dcb9da92a4a93ff31768642628f5f5acb5a9c2d3db"), looks := true }, kinds := [], alts := [], laidByText := true, laidKinds := [.sentinel, .sentinel, .sentinel, .sentinel, .sentinel, .sentinel], laidTests := true, laidLooks := .later }
def WordsMeansUptoCardSaid : Prop := Claim7.holds Tryd.pinned (.plain (OpenSpec.upto wordsMeansSpec)) wordsMeansUptoCard

/-- THE SECOND FORM's CARD OF 'alembiclaw17.WordsLeak'. -/
def wordsLeakUptoCard : Claim7 := { stood := { row := wordsLeakUptoRow, standIns := [], harness := (true, "eea5546ee5c6d90b41f0e6dcb9da92a4a93ff31768642628f5f5acb5a9c2d3db"), looks := true }, kinds := [], alts := [], laidByText := true, laidKinds := [.sentinel, .sentinel, .sentinel, .sentinel, .sentinel, .sentinel], laidTests := true, laidLooks := .later }
def WordsLeakUptoCardSaid : Prop := Claim7.holds Tryd.pinned (.plain (OpenSpec.upto wordsLeakSpec)) wordsLeakUptoCard

/-- THE SECOND FORM's CARD OF 'alembiclaw17.WordsLoops'. -/
def wordsLoopsUptoCard : Claim7 := { stood := { row := wordsLoopsUptoRow, standIns := [], harness := (true, "eea5546ee5c6d90b41f0e6dcb9da92a4a93ff31768642628f5f5acb5a9c2d3db"), looks := true }, kinds := [], alts := [], laidByText := true, laidKinds := [.sentinel, .sentinel, .sentinel, .sentinel, .sentinel, .sentinel], laidTests := true, laidLooks := .later }
def WordsLoopsUptoCardSaid : Prop := Claim7.holds Tryd.pinned (.plain (OpenSpec.upto wordsLoopsSpec)) wordsLoopsUptoCard

/-- THE SECOND FORM's CARD OF 'alembiclaw17.WordsFaults'. -/
def wordsFaultsUptoCard : Claim7 := { stood := { row := wordsFaultsUptoRow, standIns := [], harness := (true, "eea5546ee5c6d90b41f0e6dcb9da92a4a93ff31768642628f5f5acb5a9c2d3db"), looks := true }, kinds := [], alts := [], laidByText := true, laidKinds := [.sentinel, .sentinel, .sentinel, .sentinel, .sentinel, .sentinel], laidTests := true, laidLooks := .later }
def WordsFaultsUptoCardSaid : Prop := Claim7.holds Tryd.pinned (.plain (OpenSpec.upto wordsFaultsSpec)) wordsFaultsUptoCard

/-- THE SECOND FORM's CARD OF 'alembiclaw18.BoundChecks'. -/
def boundChecksUptoCard : Claim7 := { stood := { row := boundChecksUptoRow, standIns := [], harness := (true, "eea5546ee5c6d90b41f0e6dcb9da92a4a93ff31768642628f5f5acb5a9c2d3db"), looks := true }, kinds := [], alts := [], laidByText := true, laidKinds := [.sentinel, .sentinel, .sentinel, .sentinel, .sentinel, .sentinel, .sentinel, .sentinel, .sentinel, .sentinel, .sentinel, .sentinel, .sentinel, .sentinel], laidTests := true, laidLooks := .later }
def BoundChecksUptoCardSaid : Prop := Claim7.holds Tryd.pinned (.plain (OpenSpec.upto boundChecksSpec)) boundChecksUptoCard

/-- THE SECOND FORM's CARD OF 'alembiclaw18.BoundExact'. -/
def boundExactUptoCard : Claim7 := { stood := { row := boundExactUptoRow, standIns := [], harness := (true, "eea5546ee5c6d90b41f0e6dcb9da92a4a93ff31768642628f5f5acb5a9c2d3db"), looks := true }, kinds := [], alts := [], laidByText := true, laidKinds := [.sentinel, .sentinel, .sentinel, .sentinel, .sentinel, .sentinel], laidTests := true, laidLooks := .later }
def BoundExactUptoCardSaid : Prop := Claim7.holds Tryd.pinned (.plain (OpenSpec.upto boundExactSpec)) boundExactUptoCard

/-- THE SECOND FORM's CARD OF 'alembiclaw18.BoundSound'. -/
def boundSoundUptoCard : Claim7 := { stood := { row := boundSoundUptoRow, standIns := [], harness := (true, "eea5546ee5c6d90b41f0e6dcb9da92a4a93ff31768642628f5f5acb5a9c2d3db"), looks := true }, kinds := [], alts := [], laidByText := true, laidKinds := [.sentinel, .sentinel, .sentinel, .sentinel, .sentinel, .sentinel], laidTests := true, laidLooks := .later }
def BoundSoundUptoCardSaid : Prop := Claim7.holds Tryd.pinned (.plain (OpenSpec.upto boundSoundSpec)) boundSoundUptoCard

/-- THE SECOND FORM's CARD OF 'alembiclaw17.WordsValues'. -/
def wordsValuesUptoCard : Claim7 := { stood := { row := wordsValuesUptoRow, standIns := [], harness := (true, "eea5546ee5c6d90b41f0e6dcb9da92a4a93ff31768642628f5f5acb5a9c2d3db"), looks := true }, kinds := [], alts := [], laidByText := true, laidKinds := [.data, .data, .data, .sentinel, .sentinel, .sentinel, .sentinel, .sentinel, .sentinel], laidTests := true, laidLooks := .later }
def WordsValuesUptoCardSaid : Prop := Claim7.holds Tryd.pinned (.plain (OpenSpec.upto wordsValuesSpec)) wordsValuesUptoCard
end Rows
end Go.Proofs.YtcmblhedhgiofaaDoor
