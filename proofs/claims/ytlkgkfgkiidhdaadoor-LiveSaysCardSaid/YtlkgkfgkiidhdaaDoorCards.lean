/-
  DERIVED. GIVEN WITH THE SEED: THE CARDS: each row of YtlkgkfgkiidhdaaDoorRows.lean that lists a variable, with what it lists TIED to the program's text (the seventh form; the later family's looks); each row that meets fmt, with fmt's text TOLD by the authors' own Lean function (tested against real Go, not proved from fmt's source: count such statements apart). THE CARD IS WHAT COUNTS. Prove the row's statement (the work); the ties are given (YtlkgkfgkiidhdaaDoorTie.lean); close each card by the builder's one call (the guide's Derived/Test/ToyasCard.lean, 'card_holds'). Laid BY PROGRAM, IN A SANDBOX (cutbox-door.mjs). By AI agents, Wed Nov 11 2026. No macro, syntax, notation, axiom, sorry.
-/
import Derived.Test.YtlkgkfgkiidhdaaDoorRows
import GoSem.ClaimSeven
namespace Go.Proofs.YtlkgkfgkiidhdaaDoor
namespace Rows

/-- THE TIED CARD OF 'alembiclaw21.AllocMany'. -/
def allocManyCard : Claim7 := { stood := { row := allocManyRow, standIns := [], harness := (true, "864f508a8b0e81602785229ebc0405c57cf7b6a36a11fb1b2a55f1a5fb117935"), looks := true }, kinds := [], alts := [], laidByText := true, laidKinds := [.sentinel, .sentinel, .sentinel, .sentinel, .sentinel, .sentinel], laidTests := true, laidLooks := .later }
def AllocManyCardSaid : Prop := Claim7.holds Tryd.pinned (.plain (OpenSpec.ofChange allocManySpec)) allocManyCard

/-- THE TIED CARD OF 'alembiclaw20.LiveSays'. -/
def liveSaysCard : Claim7 := { stood := { row := liveSaysRow, standIns := [], harness := (true, "864f508a8b0e81602785229ebc0405c57cf7b6a36a11fb1b2a55f1a5fb117935"), looks := true }, kinds := [], alts := [], laidByText := true, laidKinds := [.sentinel, .sentinel, .sentinel, .sentinel, .sentinel, .sentinel, .sentinel, .sentinel, .sentinel, .sentinel, .sentinel, .sentinel, .sentinel, .sentinel], laidTests := true, laidLooks := .later }
def LiveSaysCardSaid : Prop := Claim7.holds Tryd.pinned (.plain (OpenSpec.ofChange liveSaysSpec)) liveSaysCard

/-- THE TIED CARD OF 'alembiclaw20.LiveChain'. -/
def liveChainCard : Claim7 := { stood := { row := liveChainRow, standIns := [], harness := (true, "864f508a8b0e81602785229ebc0405c57cf7b6a36a11fb1b2a55f1a5fb117935"), looks := true }, kinds := [], alts := [], laidByText := true, laidKinds := [.sentinel, .sentinel, .sentinel, .sentinel, .sentinel], laidTests := true, laidLooks := .later }
def LiveChainCardSaid : Prop := Claim7.holds Tryd.pinned (.plain (OpenSpec.ofChange liveChainSpec)) liveChainCard

/-- THE TIED CARD OF 'alembiclaw20.LiveSound'. -/
def liveSoundCard : Claim7 := { stood := { row := liveSoundRow, standIns := [], harness := (true, "864f508a8b0e81602785229ebc0405c57cf7b6a36a11fb1b2a55f1a5fb117935"), looks := true }, kinds := [], alts := [], laidByText := true, laidKinds := [.sentinel, .sentinel, .sentinel, .sentinel, .sentinel, .sentinel], laidTests := true, laidLooks := .later }
def LiveSoundCardSaid : Prop := Claim7.holds Tryd.pinned (.plain (OpenSpec.ofChange liveSoundSpec)) liveSoundCard

/-- THE TIED CARD OF 'alembiclaw20.LiveDead'. -/
def liveDeadCard : Claim7 := { stood := { row := liveDeadRow, standIns := [], harness := (true, "864f508a8b0e81602785229ebc0405c57cf7b6a36a11fb1b2a55f1a5fb117935"), looks := true }, kinds := [], alts := [], laidByText := true, laidKinds := [.sentinel, .sentinel, .sentinel, .sentinel, .sentinel, .sentinel], laidTests := true, laidLooks := .later }
def LiveDeadCardSaid : Prop := Claim7.holds Tryd.pinned (.plain (OpenSpec.ofChange liveDeadSpec)) liveDeadCard

/-- THE TIED CARD OF 'alembiclaw21.AllocMeans'. -/
def allocMeansCard : Claim7 := { stood := { row := allocMeansRow, standIns := [], harness := (true, "864f508a8b0e81602785229ebc0405c57cf7b6a36a11fb1b2a55f1a5fb117935"), looks := true }, kinds := [], alts := [], laidByText := true, laidKinds := [.sentinel, .sentinel, .sentinel, .sentinel, .sentinel, .sentinel, .sentinel, .sentinel, .sentinel, .sentinel, .sentinel, .sentinel, .sentinel, .sentinel], laidTests := true, laidLooks := .later }
def AllocMeansCardSaid : Prop := Claim7.holds Tryd.pinned (.plain (OpenSpec.ofChange allocMeansSpec)) allocMeansCard

/-- THE TIED CARD OF 'alembiclaw21.AllocHides'. -/
def allocHidesCard : Claim7 := { stood := { row := allocHidesRow, standIns := [], harness := (true, "864f508a8b0e81602785229ebc0405c57cf7b6a36a11fb1b2a55f1a5fb117935"), looks := true }, kinds := [], alts := [], laidByText := true, laidKinds := [.sentinel, .sentinel, .sentinel, .sentinel, .sentinel, .sentinel], laidTests := true, laidLooks := .later }
def AllocHidesCardSaid : Prop := Claim7.holds Tryd.pinned (.plain (OpenSpec.ofChange allocHidesSpec)) allocHidesCard

/-- THE SECOND FORM's CARD OF 'alembiclaw21.AllocMany'. -/
def allocManyUptoCard : Claim7 := { stood := { row := allocManyUptoRow, standIns := [], harness := (true, "864f508a8b0e81602785229ebc0405c57cf7b6a36a11fb1b2a55f1a5fb117935"), looks := true }, kinds := [], alts := [], laidByText := true, laidKinds := [.sentinel, .sentinel, .sentinel, .sentinel, .sentinel, .sentinel], laidTests := true, laidLooks := .later }
def AllocManyUptoCardSaid : Prop := Claim7.holds Tryd.pinned (.plain (OpenSpec.upto allocManySpec)) allocManyUptoCard

/-- THE SECOND FORM's CARD OF 'alembiclaw20.LiveSays'. -/
def liveSaysUptoCard : Claim7 := { stood := { row := liveSaysUptoRow, standIns := [], harness := (true, "864f508a8b0e81602785229ebc0405c57cf7b6a36a11fb1b2a55f1a5fb117935"), looks := true }, kinds := [], alts := [], laidByText := true, laidKinds := [.sentinel, .sentinel, .sentinel, .sentinel, .sentinel, .sentinel, .sentinel, .sentinel, .sentinel, .sentinel, .sentinel, .sentinel, .sentinel, .sentinel], laidTests := true, laidLooks := .later }
def LiveSaysUptoCardSaid : Prop := Claim7.holds Tryd.pinned (.plain (OpenSpec.upto liveSaysSpec)) liveSaysUptoCard

/-- THE SECOND FORM's CARD OF 'alembiclaw20.LiveChain'. -/
def liveChainUptoCard : Claim7 := { stood := { row := liveChainUptoRow, standIns := [], harness := (true, "864f508a8b0e81602785229ebc0405c57cf7b6a36a11fb1b2a55f1a5fb117935"), looks := true }, kinds := [], alts := [], laidByText := true, laidKinds := [.sentinel, .sentinel, .sentinel, .sentinel, .sentinel], laidTests := true, laidLooks := .later }
def LiveChainUptoCardSaid : Prop := Claim7.holds Tryd.pinned (.plain (OpenSpec.upto liveChainSpec)) liveChainUptoCard

/-- THE SECOND FORM's CARD OF 'alembiclaw20.LiveSound'. -/
def liveSoundUptoCard : Claim7 := { stood := { row := liveSoundUptoRow, standIns := [], harness := (true, "864f508a8b0e81602785229ebc0405c57cf7b6a36a11fb1b2a55f1a5fb117935"), looks := true }, kinds := [], alts := [], laidByText := true, laidKinds := [.sentinel, .sentinel, .sentinel, .sentinel, .sentinel, .sentinel], laidTests := true, laidLooks := .later }
def LiveSoundUptoCardSaid : Prop := Claim7.holds Tryd.pinned (.plain (OpenSpec.upto liveSoundSpec)) liveSoundUptoCard

/-- THE SECOND FORM's CARD OF 'alembiclaw20.LiveDead'. -/
def liveDeadUptoCard : Claim7 := { stood := { row := liveDeadUptoRow, standIns := [], harness := (true, "864f508a8b0e81602785229ebc0405c57cf7b6a36a11fb1b2a55f1a5fb117935"), looks := true }, kinds := [], alts := [], laidByText := true, laidKinds := [.sentinel, .sentinel, .sentinel, .sentinel, .sentinel, .sentinel], laidTests := true, laidLooks := .later }
def LiveDeadUptoCardSaid : Prop := Claim7.holds Tryd.pinned (.plain (OpenSpec.upto liveDeadSpec)) liveDeadUptoCard

/-- THE SECOND FORM's CARD OF 'alembiclaw21.AllocMeans'. -/
def allocMeansUptoCard : Claim7 := { stood := { row := allocMeansUptoRow, standIns := [], harness := (true, "864f508a8b0e81602785229ebc0405c57cf7b6a36a11fb1b2a55f1a5fb117935"), looks := true }, kinds := [], alts := [], laidByText := true, laidKinds := [.sentinel, .sentinel, .sentinel, .sentinel, .sentinel, .sentinel, .sentinel, .sentinel, .sentinel, .sentinel, .sentinel, .sentinel, .sentinel, .sentinel], laidTests := true, laidLooks := .later }
def AllocMeansUptoCardSaid : Prop := Claim7.holds Tryd.pinned (.plain (OpenSpec.upto allocMeansSpec)) allocMeansUptoCard

/-- THE SECOND FORM's CARD OF 'alembiclaw21.AllocHides'. -/
def allocHidesUptoCard : Claim7 := { stood := { row := allocHidesUptoRow, standIns := [], harness := (true, "864f508a8b0e81602785229ebc0405c57cf7b6a36a11fb1b2a55f1a5fb117935"), looks := true }, kinds := [], alts := [], laidByText := true, laidKinds := [.sentinel, .sentinel, .sentinel, .sentinel, .sentinel, .sentinel], laidTests := true, laidLooks := .later }
def AllocHidesUptoCardSaid : Prop := Claim7.holds Tryd.pinned (.plain (OpenSpec.upto allocHidesSpec)) allocHidesUptoCard
end Rows
end Go.Proofs.YtlkgkfgkiidhdaaDoor
