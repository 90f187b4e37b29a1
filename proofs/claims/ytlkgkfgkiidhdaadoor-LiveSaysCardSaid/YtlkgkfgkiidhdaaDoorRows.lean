/-
  NARROWER THAN 'FOR EVERY INPUT', by the rows' own cells (each row's printed sentence says how): AllocMany: laid · LiveSays: laid · LiveChain: laid · LiveSound: laid · LiveDead: laid · AllocMeans: laid · AllocHides: laid.
  DERIVED. THE GIVEN ROWS OF THIS SEAT. 7 by the template 'for every input the law returns true; each argument reads behind the call as it read before'; 0 by the template 'total and deterministic' (their statements: YtlkgkfgkiidhdaaDoorTotals.lean).
  GIVEN WITH THE SEED: the statements are not yours to turn. If you find one false, say at which input.
  Laid BY PROGRAM, IN A SANDBOX (cutbox-rows.mjs): the forced cells as the released guide's own fill.sh prints them over the translation 37232334f941e70f… (all of the seat's roots in one cut). By AI agents, Wed Nov 11 2026. No macro, syntax, notation, axiom, sorry.
-/
import Derived.Test.YtlkgkfgkiidhdaaDoorChecked
import GoSem.Claim
import GoSem.ClaimJoined
import GoSem.ClaimMapViews
import Derived.JoinedTies
import Derived.KernelRfl
namespace Go.Proofs.YtlkgkfgkiidhdaaDoor
/- THE CELL 'sum', in the pinned program and in every row, IS THE sha256 OF THE DUMP (.gsa) THAT YtlkgkfgkiidhdaaDoorProg.lean LOADS. Nothing in Lean hashes anything: it is a label: what it is worth is what the hold of that sum in a sandbox is worth. -/
noncomputable def Tryd.pinned : Pinned := { name := "ytlkgkfgkiidhdaadoor", sum := "37232334f941e70fe8eec5aa84445756e1b5a12391b201cd38eb207ccb7b02cd", checked := Tryd.checked }
namespace Rows
def none {H : Type} : Left H := { results := [], args := [] }

/- WHAT THE LISTED PACKAGE-LEVEL VARIABLES READ AS WHEN THE CALL BEGINS. Each datum BY PROGRAM (the guide's laid-datum.mjs) off the statement by which the dump's own 'gosem.cut.vars' lays the variable. In a bare row this is a premise. The card (YtlkgkfgkiidhdaaDoorCards.lean) ties it to the program's text. -/
def laid_alembic_api_ErrRange {H : Type} : DataW H := .iface "*errors.errorString" (.ptr (.agg [.lit (.string [97, 32, 110, 117, 109, 98, 101, 114, 32, 111, 117, 116, 32, 111, 102, 32, 105, 116, 115, 32, 114, 97, 110, 103, 101])]))
def laid_alembic_api_ErrLength {H : Type} : DataW H := .iface "*errors.errorString" (.ptr (.agg [.lit (.string [110, 111, 116, 32, 97, 115, 32, 108, 111, 110, 103, 32, 97, 115, 32, 105, 116, 32, 104, 97, 115, 32, 116, 111, 32, 98, 101])]))
def laid_alembic_api_ErrMany {H : Type} : DataW H := .iface "*errors.errorString" (.ptr (.agg [.lit (.string [116, 111, 111, 32, 109, 97, 110, 121])]))
def laid_alembic_api_ErrShape {H : Type} : DataW H := .iface "*errors.errorString" (.ptr (.agg [.lit (.string [110, 111, 116, 32, 97, 115, 32, 105, 116, 32, 104, 97, 115, 32, 116, 111, 32, 98, 101])]))
def laid_alembic_api_ErrOp {H : Type} : DataW H := .iface "*errors.errorString" (.ptr (.agg [.lit (.string [110, 111, 32, 115, 117, 99, 104, 32, 116, 104, 105, 110, 103, 32, 116, 111, 32, 100, 111])]))
def laid_alembic_api_ErrLabel {H : Type} : DataW H := .iface "*errors.errorString" (.ptr (.agg [.lit (.string [110, 111, 32, 115, 117, 99, 104, 32, 112, 108, 97, 99, 101])]))
def laid_alembic_api_ErrNone {H : Type} : DataW H := .iface "*errors.errorString" (.ptr (.agg [.lit (.string [116, 104, 101, 114, 101, 32, 105, 115, 32, 110, 111, 110, 101])]))
def laid_alembic_api_ErrVar {H : Type} : DataW H := .iface "*errors.errorString" (.ptr (.agg [.lit (.string [110, 111, 32, 115, 117, 99, 104, 32, 118, 97, 114, 105, 97, 98, 108, 101])]))
def laid_alembic_api_ErrSecret {H : Type} : DataW H := .iface "*errors.errorString" (.ptr (.agg [.lit (.string [97, 32, 115, 101, 99, 114, 101, 116, 32, 119, 104, 101, 114, 101, 32, 105, 116, 32, 109, 97, 121, 32, 110, 111, 116, 32, 98, 101])]))
def laid_alembic_api_ErrFar {H : Type} : DataW H := .iface "*errors.errorString" (.ptr (.agg [.lit (.string [116, 111, 111, 32, 102, 97, 114])]))
def laid_alembic_api_ErrFuel {H : Type} : DataW H := .iface "*errors.errorString" (.ptr (.agg [.lit (.string [105, 116, 32, 116, 97, 107, 101, 115, 32, 116, 111, 111, 32, 108, 111, 110, 103])]))
def laid_alembic_api_ErrFault {H : Type} : DataW H := .iface "*errors.errorString" (.ptr (.agg [.lit (.string [119, 104, 101, 114, 101, 32, 116, 104, 101, 114, 101, 32, 105, 115, 32, 110, 111, 116, 104, 105, 110, 103])]))
def laid_alembic_api_ErrWord {H : Type} : DataW H := .iface "*errors.errorString" (.ptr (.agg [.lit (.string [110, 111, 32, 115, 117, 99, 104, 32, 119, 111, 114, 100])]))
def laid_alembic_api_ErrNumber {H : Type} : DataW H := .iface "*errors.errorString" (.ptr (.agg [.lit (.string [110, 111, 116, 32, 97, 32, 110, 117, 109, 98, 101, 114])]))

/-- 'alembiclaw21.AllocMany': WHATEVER THE INPUT: true; the input reads as it did. -/
def allocManySpec : ChangeSpec := { name := "allocMany", fn := fun _ => fun
  | [d1, d2, d3] => { results := [.lit (.bool true)], args := [d1, d2, d3] }
  | _ => none }
def allocManyRow : OpenClaim := { program := "ytlkgkfgkiidhdaadoor", sum := "37232334f941e70fe8eec5aa84445756e1b5a12391b201cd38eb207ccb7b02cd", func := "alembic/alembiclaw21.AllocMany", spec := "allocMany", unfollowed := true, recurses := true, named := ["alembic/api.ErrRange", "alembic/api.ErrMany", "alembic/api.ErrOp", "alembic/api.ErrShape", "alembic/api.ErrLabel", "alembic/api.ErrLength"], apart := false, laid := [("alembic/api.ErrRange", laid_alembic_api_ErrRange), ("alembic/api.ErrLength", laid_alembic_api_ErrLength), ("alembic/api.ErrMany", laid_alembic_api_ErrMany), ("alembic/api.ErrShape", laid_alembic_api_ErrShape), ("alembic/api.ErrOp", laid_alembic_api_ErrOp), ("alembic/api.ErrLabel", laid_alembic_api_ErrLabel)] }
def AllocManySaid : Prop := allocManyRow.holds Tryd.pinned (OpenSpec.ofChange allocManySpec)

/-- ITS FALSE NEIGHBOUR: 'it returns false'. Refute it at one input. -/
def allocManyWrong : ChangeSpec := { name := "allocMany", fn := fun _ => fun
  | [d1, d2, d3] => { results := [.lit (.bool false)], args := [d1, d2, d3] }
  | _ => none }
def AllocManyWrongFalsely : Prop := allocManyRow.holds Tryd.pinned (OpenSpec.ofChange allocManyWrong)

/-- 'alembiclaw20.LiveSays': WHATEVER THE INPUT: true; the input reads as it did. -/
def liveSaysSpec : ChangeSpec := { name := "liveSays", fn := fun _ => fun
  | [d1, d2, d3] => { results := [.lit (.bool true)], args := [d1, d2, d3] }
  | _ => none }
def liveSaysRow : OpenClaim := { program := "ytlkgkfgkiidhdaadoor", sum := "37232334f941e70fe8eec5aa84445756e1b5a12391b201cd38eb207ccb7b02cd", func := "alembic/alembiclaw20.LiveSays", spec := "liveSays", unfollowed := true, recurses := true, named := ["alembic/api.ErrMany", "alembic/api.ErrOp", "alembic/api.ErrRange", "alembic/api.ErrShape", "alembic/api.ErrLabel", "alembic/api.ErrLength", "alembic/api.ErrNone", "alembic/api.ErrVar", "alembic/api.ErrSecret", "alembic/api.ErrFar", "alembic/api.ErrFuel", "alembic/api.ErrFault", "alembic/api.ErrWord", "alembic/api.ErrNumber"], apart := false, laid := [("alembic/api.ErrRange", laid_alembic_api_ErrRange), ("alembic/api.ErrLength", laid_alembic_api_ErrLength), ("alembic/api.ErrMany", laid_alembic_api_ErrMany), ("alembic/api.ErrShape", laid_alembic_api_ErrShape), ("alembic/api.ErrNone", laid_alembic_api_ErrNone), ("alembic/api.ErrOp", laid_alembic_api_ErrOp), ("alembic/api.ErrVar", laid_alembic_api_ErrVar), ("alembic/api.ErrSecret", laid_alembic_api_ErrSecret), ("alembic/api.ErrLabel", laid_alembic_api_ErrLabel), ("alembic/api.ErrFar", laid_alembic_api_ErrFar), ("alembic/api.ErrFuel", laid_alembic_api_ErrFuel), ("alembic/api.ErrFault", laid_alembic_api_ErrFault), ("alembic/api.ErrWord", laid_alembic_api_ErrWord), ("alembic/api.ErrNumber", laid_alembic_api_ErrNumber)] }
def LiveSaysSaid : Prop := liveSaysRow.holds Tryd.pinned (OpenSpec.ofChange liveSaysSpec)

/-- ITS FALSE NEIGHBOUR: 'it returns false'. Refute it at one input. -/
def liveSaysWrong : ChangeSpec := { name := "liveSays", fn := fun _ => fun
  | [d1, d2, d3] => { results := [.lit (.bool false)], args := [d1, d2, d3] }
  | _ => none }
def LiveSaysWrongFalsely : Prop := liveSaysRow.holds Tryd.pinned (OpenSpec.ofChange liveSaysWrong)

/-- 'alembiclaw20.LiveChain': WHATEVER THE INPUT: true; the input reads as it did. -/
def liveChainSpec : ChangeSpec := { name := "liveChain", fn := fun _ => fun
  | [d1, d2] => { results := [.lit (.bool true)], args := [d1, d2] }
  | _ => none }
def liveChainRow : OpenClaim := { program := "ytlkgkfgkiidhdaadoor", sum := "37232334f941e70fe8eec5aa84445756e1b5a12391b201cd38eb207ccb7b02cd", func := "alembic/alembiclaw20.LiveChain", spec := "liveChain", unfollowed := true, recurses := true, named := ["alembic/api.ErrMany", "alembic/api.ErrOp", "alembic/api.ErrRange", "alembic/api.ErrShape", "alembic/api.ErrLabel"], apart := false, laid := [("alembic/api.ErrRange", laid_alembic_api_ErrRange), ("alembic/api.ErrMany", laid_alembic_api_ErrMany), ("alembic/api.ErrShape", laid_alembic_api_ErrShape), ("alembic/api.ErrOp", laid_alembic_api_ErrOp), ("alembic/api.ErrLabel", laid_alembic_api_ErrLabel)] }
def LiveChainSaid : Prop := liveChainRow.holds Tryd.pinned (OpenSpec.ofChange liveChainSpec)

/-- ITS FALSE NEIGHBOUR: 'it returns false'. Refute it at one input. -/
def liveChainWrong : ChangeSpec := { name := "liveChain", fn := fun _ => fun
  | [d1, d2] => { results := [.lit (.bool false)], args := [d1, d2] }
  | _ => none }
def LiveChainWrongFalsely : Prop := liveChainRow.holds Tryd.pinned (OpenSpec.ofChange liveChainWrong)

/-- 'alembiclaw20.LiveSound': WHATEVER THE INPUT: true; the input reads as it did. -/
def liveSoundSpec : ChangeSpec := { name := "liveSound", fn := fun _ => fun
  | [d1, d2, d3] => { results := [.lit (.bool true)], args := [d1, d2, d3] }
  | _ => none }
def liveSoundRow : OpenClaim := { program := "ytlkgkfgkiidhdaadoor", sum := "37232334f941e70fe8eec5aa84445756e1b5a12391b201cd38eb207ccb7b02cd", func := "alembic/alembiclaw20.LiveSound", spec := "liveSound", unfollowed := true, recurses := true, named := ["alembic/api.ErrMany", "alembic/api.ErrOp", "alembic/api.ErrRange", "alembic/api.ErrShape", "alembic/api.ErrLabel", "alembic/api.ErrLength"], apart := false, laid := [("alembic/api.ErrRange", laid_alembic_api_ErrRange), ("alembic/api.ErrLength", laid_alembic_api_ErrLength), ("alembic/api.ErrMany", laid_alembic_api_ErrMany), ("alembic/api.ErrShape", laid_alembic_api_ErrShape), ("alembic/api.ErrOp", laid_alembic_api_ErrOp), ("alembic/api.ErrLabel", laid_alembic_api_ErrLabel)] }
def LiveSoundSaid : Prop := liveSoundRow.holds Tryd.pinned (OpenSpec.ofChange liveSoundSpec)

/-- ITS FALSE NEIGHBOUR: 'it returns false'. Refute it at one input. -/
def liveSoundWrong : ChangeSpec := { name := "liveSound", fn := fun _ => fun
  | [d1, d2, d3] => { results := [.lit (.bool false)], args := [d1, d2, d3] }
  | _ => none }
def LiveSoundWrongFalsely : Prop := liveSoundRow.holds Tryd.pinned (OpenSpec.ofChange liveSoundWrong)

/-- 'alembiclaw20.LiveDead': WHATEVER THE INPUT: true; the input reads as it did. -/
def liveDeadSpec : ChangeSpec := { name := "liveDead", fn := fun _ => fun
  | [d1, d2] => { results := [.lit (.bool true)], args := [d1, d2] }
  | _ => none }
def liveDeadRow : OpenClaim := { program := "ytlkgkfgkiidhdaadoor", sum := "37232334f941e70fe8eec5aa84445756e1b5a12391b201cd38eb207ccb7b02cd", func := "alembic/alembiclaw20.LiveDead", spec := "liveDead", unfollowed := true, recurses := true, named := ["alembic/api.ErrMany", "alembic/api.ErrOp", "alembic/api.ErrRange", "alembic/api.ErrShape", "alembic/api.ErrLabel", "alembic/api.ErrLength"], apart := false, laid := [("alembic/api.ErrRange", laid_alembic_api_ErrRange), ("alembic/api.ErrLength", laid_alembic_api_ErrLength), ("alembic/api.ErrMany", laid_alembic_api_ErrMany), ("alembic/api.ErrShape", laid_alembic_api_ErrShape), ("alembic/api.ErrOp", laid_alembic_api_ErrOp), ("alembic/api.ErrLabel", laid_alembic_api_ErrLabel)] }
def LiveDeadSaid : Prop := liveDeadRow.holds Tryd.pinned (OpenSpec.ofChange liveDeadSpec)

/-- ITS FALSE NEIGHBOUR: 'it returns false'. Refute it at one input. -/
def liveDeadWrong : ChangeSpec := { name := "liveDead", fn := fun _ => fun
  | [d1, d2] => { results := [.lit (.bool false)], args := [d1, d2] }
  | _ => none }
def LiveDeadWrongFalsely : Prop := liveDeadRow.holds Tryd.pinned (OpenSpec.ofChange liveDeadWrong)

/-- 'alembiclaw21.AllocMeans': WHATEVER THE INPUT: true; the input reads as it did. -/
def allocMeansSpec : ChangeSpec := { name := "allocMeans", fn := fun _ => fun
  | [d1, d2, d3] => { results := [.lit (.bool true)], args := [d1, d2, d3] }
  | _ => none }
def allocMeansRow : OpenClaim := { program := "ytlkgkfgkiidhdaadoor", sum := "37232334f941e70fe8eec5aa84445756e1b5a12391b201cd38eb207ccb7b02cd", func := "alembic/alembiclaw21.AllocMeans", spec := "allocMeans", unfollowed := true, recurses := true, named := ["alembic/api.ErrRange", "alembic/api.ErrMany", "alembic/api.ErrOp", "alembic/api.ErrShape", "alembic/api.ErrLabel", "alembic/api.ErrLength", "alembic/api.ErrNone", "alembic/api.ErrVar", "alembic/api.ErrSecret", "alembic/api.ErrFar", "alembic/api.ErrFuel", "alembic/api.ErrFault", "alembic/api.ErrWord", "alembic/api.ErrNumber"], apart := false, laid := [("alembic/api.ErrRange", laid_alembic_api_ErrRange), ("alembic/api.ErrLength", laid_alembic_api_ErrLength), ("alembic/api.ErrMany", laid_alembic_api_ErrMany), ("alembic/api.ErrShape", laid_alembic_api_ErrShape), ("alembic/api.ErrNone", laid_alembic_api_ErrNone), ("alembic/api.ErrOp", laid_alembic_api_ErrOp), ("alembic/api.ErrVar", laid_alembic_api_ErrVar), ("alembic/api.ErrSecret", laid_alembic_api_ErrSecret), ("alembic/api.ErrLabel", laid_alembic_api_ErrLabel), ("alembic/api.ErrFar", laid_alembic_api_ErrFar), ("alembic/api.ErrFuel", laid_alembic_api_ErrFuel), ("alembic/api.ErrFault", laid_alembic_api_ErrFault), ("alembic/api.ErrWord", laid_alembic_api_ErrWord), ("alembic/api.ErrNumber", laid_alembic_api_ErrNumber)] }
def AllocMeansSaid : Prop := allocMeansRow.holds Tryd.pinned (OpenSpec.ofChange allocMeansSpec)

/-- ITS FALSE NEIGHBOUR: 'it returns false'. Refute it at one input. -/
def allocMeansWrong : ChangeSpec := { name := "allocMeans", fn := fun _ => fun
  | [d1, d2, d3] => { results := [.lit (.bool false)], args := [d1, d2, d3] }
  | _ => none }
def AllocMeansWrongFalsely : Prop := allocMeansRow.holds Tryd.pinned (OpenSpec.ofChange allocMeansWrong)

/-- 'alembiclaw21.AllocHides': WHATEVER THE INPUT: true; the input reads as it did. -/
def allocHidesSpec : ChangeSpec := { name := "allocHides", fn := fun _ => fun
  | [d1, d2, d3, d4] => { results := [.lit (.bool true)], args := [d1, d2, d3, d4] }
  | _ => none }
def allocHidesRow : OpenClaim := { program := "ytlkgkfgkiidhdaadoor", sum := "37232334f941e70fe8eec5aa84445756e1b5a12391b201cd38eb207ccb7b02cd", func := "alembic/alembiclaw21.AllocHides", spec := "allocHides", unfollowed := true, recurses := true, named := ["alembic/api.ErrRange", "alembic/api.ErrMany", "alembic/api.ErrOp", "alembic/api.ErrShape", "alembic/api.ErrLabel", "alembic/api.ErrLength"], apart := false, laid := [("alembic/api.ErrRange", laid_alembic_api_ErrRange), ("alembic/api.ErrLength", laid_alembic_api_ErrLength), ("alembic/api.ErrMany", laid_alembic_api_ErrMany), ("alembic/api.ErrShape", laid_alembic_api_ErrShape), ("alembic/api.ErrOp", laid_alembic_api_ErrOp), ("alembic/api.ErrLabel", laid_alembic_api_ErrLabel)] }
def AllocHidesSaid : Prop := allocHidesRow.holds Tryd.pinned (OpenSpec.ofChange allocHidesSpec)

/-- ITS FALSE NEIGHBOUR: 'it returns false'. Refute it at one input. -/
def allocHidesWrong : ChangeSpec := { name := "allocHides", fn := fun _ => fun
  | [d1, d2, d3, d4] => { results := [.lit (.bool false)], args := [d1, d2, d3, d4] }
  | _ => none }
def AllocHidesWrongFalsely : Prop := allocHidesRow.holds Tryd.pinned (OpenSpec.ofChange allocHidesWrong)

/- THE SECOND FORM. 'bulk': how many values and letters a reading holds, each counted each time it is reached (what is shared counts as often as it is met; a slice's spare places count too). A statement '..UptoSaid' is the law's where the arguments, and the package variables that the reading takes, are together of bulk at most 1048576: NARROWER than '..Said'. Prove '..Said' where nothing that the law and all that it calls make is longer than what came in: it says more and counts as full. Else prove '..UptoSaid'. A law counts once. -/
mutual
def uptoBulk {H : Type} : DataW H → Nat
  | .lit (.string bytes) => bytes.length + 1
  | .lit _ => 1
  | .nil => 1
  | .ptr d => uptoBulk d + 1
  | .slice elems spare => uptoBulkAll elems + uptoBulkAll spare + 1
  | .agg parts => uptoBulkAll parts + 1
  | .iface _ d => uptoBulk d + 1
  | .map entries => uptoBulkEntries entries + 1
  | .held _ => 1
def uptoBulkAll {H : Type} : List (DataW H) → Nat
  | [] => 0
  | d :: r => uptoBulk d + uptoBulkAll r
def uptoBulkEntries {H : Type} : List (Lit × DataW H) → Nat
  | [] => 0
  | x :: r => uptoBulkEntry x + uptoBulkEntries r
def uptoBulkEntry {H : Type} : Lit × DataW H → Nat
  | (.string bytes, d) => bytes.length + uptoBulk d + 1
  | (_, d) => uptoBulk d + 1
 end
def uptoSmall : (H : Type) → List (DataW H) → Bool := fun _ ds => decide (uptoBulkAll ds ≤ 1048576)
def OpenSpec.upto (s : _root_.Go.ChangeSpec) : _root_.Go.OpenSpec := { _root_.Go.OpenSpec.ofChange s with cond := some uptoSmall }

/-- 'alembiclaw21.AllocMany', WHERE WHAT IT READS IS OF BULK AT MOST 1048576: true; the input reads as it did. -/
def allocManyUptoRow : OpenClaim := { program := "ytlkgkfgkiidhdaadoor", sum := "37232334f941e70fe8eec5aa84445756e1b5a12391b201cd38eb207ccb7b02cd", func := "alembic/alembiclaw21.AllocMany", spec := "allocMany", unfollowed := true, recurses := true, named := ["alembic/api.ErrRange", "alembic/api.ErrMany", "alembic/api.ErrOp", "alembic/api.ErrShape", "alembic/api.ErrLabel", "alembic/api.ErrLength"], apart := false, laid := [("alembic/api.ErrRange", laid_alembic_api_ErrRange), ("alembic/api.ErrLength", laid_alembic_api_ErrLength), ("alembic/api.ErrMany", laid_alembic_api_ErrMany), ("alembic/api.ErrShape", laid_alembic_api_ErrShape), ("alembic/api.ErrOp", laid_alembic_api_ErrOp), ("alembic/api.ErrLabel", laid_alembic_api_ErrLabel)], narrowed := true }
def AllocManyUptoSaid : Prop := allocManyUptoRow.holds Tryd.pinned (OpenSpec.upto allocManySpec)

/-- 'alembiclaw20.LiveSays', WHERE WHAT IT READS IS OF BULK AT MOST 1048576: true; the input reads as it did. -/
def liveSaysUptoRow : OpenClaim := { program := "ytlkgkfgkiidhdaadoor", sum := "37232334f941e70fe8eec5aa84445756e1b5a12391b201cd38eb207ccb7b02cd", func := "alembic/alembiclaw20.LiveSays", spec := "liveSays", unfollowed := true, recurses := true, named := ["alembic/api.ErrMany", "alembic/api.ErrOp", "alembic/api.ErrRange", "alembic/api.ErrShape", "alembic/api.ErrLabel", "alembic/api.ErrLength", "alembic/api.ErrNone", "alembic/api.ErrVar", "alembic/api.ErrSecret", "alembic/api.ErrFar", "alembic/api.ErrFuel", "alembic/api.ErrFault", "alembic/api.ErrWord", "alembic/api.ErrNumber"], apart := false, laid := [("alembic/api.ErrRange", laid_alembic_api_ErrRange), ("alembic/api.ErrLength", laid_alembic_api_ErrLength), ("alembic/api.ErrMany", laid_alembic_api_ErrMany), ("alembic/api.ErrShape", laid_alembic_api_ErrShape), ("alembic/api.ErrNone", laid_alembic_api_ErrNone), ("alembic/api.ErrOp", laid_alembic_api_ErrOp), ("alembic/api.ErrVar", laid_alembic_api_ErrVar), ("alembic/api.ErrSecret", laid_alembic_api_ErrSecret), ("alembic/api.ErrLabel", laid_alembic_api_ErrLabel), ("alembic/api.ErrFar", laid_alembic_api_ErrFar), ("alembic/api.ErrFuel", laid_alembic_api_ErrFuel), ("alembic/api.ErrFault", laid_alembic_api_ErrFault), ("alembic/api.ErrWord", laid_alembic_api_ErrWord), ("alembic/api.ErrNumber", laid_alembic_api_ErrNumber)], narrowed := true }
def LiveSaysUptoSaid : Prop := liveSaysUptoRow.holds Tryd.pinned (OpenSpec.upto liveSaysSpec)

/-- 'alembiclaw20.LiveChain', WHERE WHAT IT READS IS OF BULK AT MOST 1048576: true; the input reads as it did. -/
def liveChainUptoRow : OpenClaim := { program := "ytlkgkfgkiidhdaadoor", sum := "37232334f941e70fe8eec5aa84445756e1b5a12391b201cd38eb207ccb7b02cd", func := "alembic/alembiclaw20.LiveChain", spec := "liveChain", unfollowed := true, recurses := true, named := ["alembic/api.ErrMany", "alembic/api.ErrOp", "alembic/api.ErrRange", "alembic/api.ErrShape", "alembic/api.ErrLabel"], apart := false, laid := [("alembic/api.ErrRange", laid_alembic_api_ErrRange), ("alembic/api.ErrMany", laid_alembic_api_ErrMany), ("alembic/api.ErrShape", laid_alembic_api_ErrShape), ("alembic/api.ErrOp", laid_alembic_api_ErrOp), ("alembic/api.ErrLabel", laid_alembic_api_ErrLabel)], narrowed := true }
def LiveChainUptoSaid : Prop := liveChainUptoRow.holds Tryd.pinned (OpenSpec.upto liveChainSpec)

/-- 'alembiclaw20.LiveSound', WHERE WHAT IT READS IS OF BULK AT MOST 1048576: true; the input reads as it did. -/
def liveSoundUptoRow : OpenClaim := { program := "ytlkgkfgkiidhdaadoor", sum := "37232334f941e70fe8eec5aa84445756e1b5a12391b201cd38eb207ccb7b02cd", func := "alembic/alembiclaw20.LiveSound", spec := "liveSound", unfollowed := true, recurses := true, named := ["alembic/api.ErrMany", "alembic/api.ErrOp", "alembic/api.ErrRange", "alembic/api.ErrShape", "alembic/api.ErrLabel", "alembic/api.ErrLength"], apart := false, laid := [("alembic/api.ErrRange", laid_alembic_api_ErrRange), ("alembic/api.ErrLength", laid_alembic_api_ErrLength), ("alembic/api.ErrMany", laid_alembic_api_ErrMany), ("alembic/api.ErrShape", laid_alembic_api_ErrShape), ("alembic/api.ErrOp", laid_alembic_api_ErrOp), ("alembic/api.ErrLabel", laid_alembic_api_ErrLabel)], narrowed := true }
def LiveSoundUptoSaid : Prop := liveSoundUptoRow.holds Tryd.pinned (OpenSpec.upto liveSoundSpec)

/-- 'alembiclaw20.LiveDead', WHERE WHAT IT READS IS OF BULK AT MOST 1048576: true; the input reads as it did. -/
def liveDeadUptoRow : OpenClaim := { program := "ytlkgkfgkiidhdaadoor", sum := "37232334f941e70fe8eec5aa84445756e1b5a12391b201cd38eb207ccb7b02cd", func := "alembic/alembiclaw20.LiveDead", spec := "liveDead", unfollowed := true, recurses := true, named := ["alembic/api.ErrMany", "alembic/api.ErrOp", "alembic/api.ErrRange", "alembic/api.ErrShape", "alembic/api.ErrLabel", "alembic/api.ErrLength"], apart := false, laid := [("alembic/api.ErrRange", laid_alembic_api_ErrRange), ("alembic/api.ErrLength", laid_alembic_api_ErrLength), ("alembic/api.ErrMany", laid_alembic_api_ErrMany), ("alembic/api.ErrShape", laid_alembic_api_ErrShape), ("alembic/api.ErrOp", laid_alembic_api_ErrOp), ("alembic/api.ErrLabel", laid_alembic_api_ErrLabel)], narrowed := true }
def LiveDeadUptoSaid : Prop := liveDeadUptoRow.holds Tryd.pinned (OpenSpec.upto liveDeadSpec)

/-- 'alembiclaw21.AllocMeans', WHERE WHAT IT READS IS OF BULK AT MOST 1048576: true; the input reads as it did. -/
def allocMeansUptoRow : OpenClaim := { program := "ytlkgkfgkiidhdaadoor", sum := "37232334f941e70fe8eec5aa84445756e1b5a12391b201cd38eb207ccb7b02cd", func := "alembic/alembiclaw21.AllocMeans", spec := "allocMeans", unfollowed := true, recurses := true, named := ["alembic/api.ErrRange", "alembic/api.ErrMany", "alembic/api.ErrOp", "alembic/api.ErrShape", "alembic/api.ErrLabel", "alembic/api.ErrLength", "alembic/api.ErrNone", "alembic/api.ErrVar", "alembic/api.ErrSecret", "alembic/api.ErrFar", "alembic/api.ErrFuel", "alembic/api.ErrFault", "alembic/api.ErrWord", "alembic/api.ErrNumber"], apart := false, laid := [("alembic/api.ErrRange", laid_alembic_api_ErrRange), ("alembic/api.ErrLength", laid_alembic_api_ErrLength), ("alembic/api.ErrMany", laid_alembic_api_ErrMany), ("alembic/api.ErrShape", laid_alembic_api_ErrShape), ("alembic/api.ErrNone", laid_alembic_api_ErrNone), ("alembic/api.ErrOp", laid_alembic_api_ErrOp), ("alembic/api.ErrVar", laid_alembic_api_ErrVar), ("alembic/api.ErrSecret", laid_alembic_api_ErrSecret), ("alembic/api.ErrLabel", laid_alembic_api_ErrLabel), ("alembic/api.ErrFar", laid_alembic_api_ErrFar), ("alembic/api.ErrFuel", laid_alembic_api_ErrFuel), ("alembic/api.ErrFault", laid_alembic_api_ErrFault), ("alembic/api.ErrWord", laid_alembic_api_ErrWord), ("alembic/api.ErrNumber", laid_alembic_api_ErrNumber)], narrowed := true }
def AllocMeansUptoSaid : Prop := allocMeansUptoRow.holds Tryd.pinned (OpenSpec.upto allocMeansSpec)

/-- 'alembiclaw21.AllocHides', WHERE WHAT IT READS IS OF BULK AT MOST 1048576: true; the input reads as it did. -/
def allocHidesUptoRow : OpenClaim := { program := "ytlkgkfgkiidhdaadoor", sum := "37232334f941e70fe8eec5aa84445756e1b5a12391b201cd38eb207ccb7b02cd", func := "alembic/alembiclaw21.AllocHides", spec := "allocHides", unfollowed := true, recurses := true, named := ["alembic/api.ErrRange", "alembic/api.ErrMany", "alembic/api.ErrOp", "alembic/api.ErrShape", "alembic/api.ErrLabel", "alembic/api.ErrLength"], apart := false, laid := [("alembic/api.ErrRange", laid_alembic_api_ErrRange), ("alembic/api.ErrLength", laid_alembic_api_ErrLength), ("alembic/api.ErrMany", laid_alembic_api_ErrMany), ("alembic/api.ErrShape", laid_alembic_api_ErrShape), ("alembic/api.ErrOp", laid_alembic_api_ErrOp), ("alembic/api.ErrLabel", laid_alembic_api_ErrLabel)], narrowed := true }
def AllocHidesUptoSaid : Prop := allocHidesUptoRow.holds Tryd.pinned (OpenSpec.upto allocHidesSpec)

end Rows
end Go.Proofs.YtlkgkfgkiidhdaaDoor
