/-
  NARROWER THAN 'FOR EVERY INPUT', by the rows' own cells (each row's printed sentence says how): SelectHides: laid · SelectConsts: laid · SelectEach: laid · SelectLoops: laid · SelectFar: laid · MachRuns: laid · MachLoops: laid · MachFaults: laid · MachOne: laid · MachCompares: laid · MachConsts: laid · SelectMeans: laid.
  DERIVED. THE GIVEN ROWS OF THIS SEAT. 12 by the template 'for every input the law returns true; each argument reads behind the call as it read before'; 0 by the template 'total and deterministic' (their statements: YtdfglgnflldkpaaDoorTotals.lean).
  GIVEN WITH THE SEED: the statements are not yours to turn. If you find one false, say at which input.
  Laid BY PROGRAM, IN A SANDBOX (cutbox-rows.mjs): the forced cells as the released guide's own fill.sh prints them over the translation a7ca9afbaeaddf25… (all of the seat's roots in one cut). By AI agents, Wed Nov 11 2026. No macro, syntax, notation, axiom, sorry.
-/
import Derived.Test.YtdfglgnflldkpaaDoorChecked
import GoSem.Claim
import GoSem.ClaimJoined
import GoSem.ClaimMapViews
import Derived.JoinedTies
import Derived.KernelRfl
namespace Go.Proofs.YtdfglgnflldkpaaDoor
/- THE CELL 'sum', in the pinned program and in every row, IS THE sha256 OF THE DUMP (.gsa) THAT YtdfglgnflldkpaaDoorProg.lean LOADS. Nothing in Lean hashes anything: it is a label: what it is worth is what the hold of that sum in a sandbox is worth. -/
noncomputable def Tryd.pinned : Pinned := { name := "ytdfglgnflldkpaadoor", sum := "a7ca9afbaeaddf25f148b886b2b43ec54daecb046cc7238e64b0159c94397a6b", checked := Tryd.checked }
namespace Rows
def none {H : Type} : Left H := { results := [], args := [] }

/- WHAT THE LISTED PACKAGE-LEVEL VARIABLES READ AS WHEN THE CALL BEGINS. Each datum BY PROGRAM (the guide's laid-datum.mjs) off the statement by which the dump's own 'gosem.cut.vars' lays the variable. In a bare row this is a premise. The card (YtdfglgnflldkpaaDoorCards.lean) ties it to the program's text. -/
def laid_alembic_api_ErrRange {H : Type} : DataW H := .iface "*errors.errorString" (.ptr (.agg [.lit (.string [97, 32, 110, 117, 109, 98, 101, 114, 32, 111, 117, 116, 32, 111, 102, 32, 105, 116, 115, 32, 114, 97, 110, 103, 101])]))
def laid_alembic_api_ErrMany {H : Type} : DataW H := .iface "*errors.errorString" (.ptr (.agg [.lit (.string [116, 111, 111, 32, 109, 97, 110, 121])]))
def laid_alembic_api_ErrShape {H : Type} : DataW H := .iface "*errors.errorString" (.ptr (.agg [.lit (.string [110, 111, 116, 32, 97, 115, 32, 105, 116, 32, 104, 97, 115, 32, 116, 111, 32, 98, 101])]))
def laid_alembic_api_ErrOp {H : Type} : DataW H := .iface "*errors.errorString" (.ptr (.agg [.lit (.string [110, 111, 32, 115, 117, 99, 104, 32, 116, 104, 105, 110, 103, 32, 116, 111, 32, 100, 111])]))
def laid_alembic_api_ErrLabel {H : Type} : DataW H := .iface "*errors.errorString" (.ptr (.agg [.lit (.string [110, 111, 32, 115, 117, 99, 104, 32, 112, 108, 97, 99, 101])]))
def laid_alembic_api_ErrLength {H : Type} : DataW H := .iface "*errors.errorString" (.ptr (.agg [.lit (.string [110, 111, 116, 32, 97, 115, 32, 108, 111, 110, 103, 32, 97, 115, 32, 105, 116, 32, 104, 97, 115, 32, 116, 111, 32, 98, 101])]))
def laid_alembic_api_ErrNone {H : Type} : DataW H := .iface "*errors.errorString" (.ptr (.agg [.lit (.string [116, 104, 101, 114, 101, 32, 105, 115, 32, 110, 111, 110, 101])]))
def laid_alembic_api_ErrVar {H : Type} : DataW H := .iface "*errors.errorString" (.ptr (.agg [.lit (.string [110, 111, 32, 115, 117, 99, 104, 32, 118, 97, 114, 105, 97, 98, 108, 101])]))
def laid_alembic_api_ErrSecret {H : Type} : DataW H := .iface "*errors.errorString" (.ptr (.agg [.lit (.string [97, 32, 115, 101, 99, 114, 101, 116, 32, 119, 104, 101, 114, 101, 32, 105, 116, 32, 109, 97, 121, 32, 110, 111, 116, 32, 98, 101])]))
def laid_alembic_api_ErrFar {H : Type} : DataW H := .iface "*errors.errorString" (.ptr (.agg [.lit (.string [116, 111, 111, 32, 102, 97, 114])]))
def laid_alembic_api_ErrFuel {H : Type} : DataW H := .iface "*errors.errorString" (.ptr (.agg [.lit (.string [105, 116, 32, 116, 97, 107, 101, 115, 32, 116, 111, 111, 32, 108, 111, 110, 103])]))
def laid_alembic_api_ErrFault {H : Type} : DataW H := .iface "*errors.errorString" (.ptr (.agg [.lit (.string [119, 104, 101, 114, 101, 32, 116, 104, 101, 114, 101, 32, 105, 115, 32, 110, 111, 116, 104, 105, 110, 103])]))
def laid_alembic_api_ErrWord {H : Type} : DataW H := .iface "*errors.errorString" (.ptr (.agg [.lit (.string [110, 111, 32, 115, 117, 99, 104, 32, 119, 111, 114, 100])]))
def laid_alembic_api_ErrNumber {H : Type} : DataW H := .iface "*errors.errorString" (.ptr (.agg [.lit (.string [110, 111, 116, 32, 97, 32, 110, 117, 109, 98, 101, 114])]))

/-- 'alembiclaw24.SelectHides': WHATEVER THE INPUT: true; the input reads as it did. -/
def selectHidesSpec : ChangeSpec := { name := "selectHides", fn := fun _ => fun
  | [d1, d2, d3] => { results := [.lit (.bool true)], args := [d1, d2, d3] }
  | _ => none }
def selectHidesRow : OpenClaim := { program := "ytdfglgnflldkpaadoor", sum := "a7ca9afbaeaddf25f148b886b2b43ec54daecb046cc7238e64b0159c94397a6b", func := "alembic/alembiclaw24.SelectHides", spec := "selectHides", named := ["alembic/api.ErrMany", "alembic/api.ErrOp", "alembic/api.ErrRange", "alembic/api.ErrShape", "alembic/api.ErrLabel"], apart := false, laid := [("alembic/api.ErrRange", laid_alembic_api_ErrRange), ("alembic/api.ErrMany", laid_alembic_api_ErrMany), ("alembic/api.ErrShape", laid_alembic_api_ErrShape), ("alembic/api.ErrOp", laid_alembic_api_ErrOp), ("alembic/api.ErrLabel", laid_alembic_api_ErrLabel)] }
def SelectHidesSaid : Prop := selectHidesRow.holds Tryd.pinned (OpenSpec.ofChange selectHidesSpec)

/-- ITS FALSE NEIGHBOUR: 'it returns false'. Refute it at one input. -/
def selectHidesWrong : ChangeSpec := { name := "selectHides", fn := fun _ => fun
  | [d1, d2, d3] => { results := [.lit (.bool false)], args := [d1, d2, d3] }
  | _ => none }
def SelectHidesWrongFalsely : Prop := selectHidesRow.holds Tryd.pinned (OpenSpec.ofChange selectHidesWrong)

/-- 'alembiclaw24.SelectConsts': WHATEVER THE INPUT: true; the input reads as it did. -/
def selectConstsSpec : ChangeSpec := { name := "selectConsts", fn := fun _ => fun
  | [d1, d2, d3] => { results := [.lit (.bool true)], args := [d1, d2, d3] }
  | _ => none }
def selectConstsRow : OpenClaim := { program := "ytdfglgnflldkpaadoor", sum := "a7ca9afbaeaddf25f148b886b2b43ec54daecb046cc7238e64b0159c94397a6b", func := "alembic/alembiclaw24.SelectConsts", spec := "selectConsts", named := ["alembic/api.ErrMany", "alembic/api.ErrOp", "alembic/api.ErrRange", "alembic/api.ErrShape", "alembic/api.ErrLabel", "alembic/api.ErrLength", "alembic/api.ErrNone", "alembic/api.ErrVar", "alembic/api.ErrSecret", "alembic/api.ErrFar", "alembic/api.ErrFuel", "alembic/api.ErrFault", "alembic/api.ErrWord", "alembic/api.ErrNumber"], apart := false, laid := [("alembic/api.ErrRange", laid_alembic_api_ErrRange), ("alembic/api.ErrLength", laid_alembic_api_ErrLength), ("alembic/api.ErrMany", laid_alembic_api_ErrMany), ("alembic/api.ErrShape", laid_alembic_api_ErrShape), ("alembic/api.ErrNone", laid_alembic_api_ErrNone), ("alembic/api.ErrOp", laid_alembic_api_ErrOp), ("alembic/api.ErrVar", laid_alembic_api_ErrVar), ("alembic/api.ErrSecret", laid_alembic_api_ErrSecret), ("alembic/api.ErrLabel", laid_alembic_api_ErrLabel), ("alembic/api.ErrFar", laid_alembic_api_ErrFar), ("alembic/api.ErrFuel", laid_alembic_api_ErrFuel), ("alembic/api.ErrFault", laid_alembic_api_ErrFault), ("alembic/api.ErrWord", laid_alembic_api_ErrWord), ("alembic/api.ErrNumber", laid_alembic_api_ErrNumber)] }
def SelectConstsSaid : Prop := selectConstsRow.holds Tryd.pinned (OpenSpec.ofChange selectConstsSpec)

/-- ITS FALSE NEIGHBOUR: 'it returns false'. Refute it at one input. -/
def selectConstsWrong : ChangeSpec := { name := "selectConsts", fn := fun _ => fun
  | [d1, d2, d3] => { results := [.lit (.bool false)], args := [d1, d2, d3] }
  | _ => none }
def SelectConstsWrongFalsely : Prop := selectConstsRow.holds Tryd.pinned (OpenSpec.ofChange selectConstsWrong)

/-- 'alembiclaw24.SelectEach': WHATEVER THE INPUT: true; the input reads as it did. -/
def selectEachSpec : ChangeSpec := { name := "selectEach", fn := fun _ => fun
  | [d1, d2, d3, d4, d5, d6, d7, d8] => { results := [.lit (.bool true)], args := [d1, d2, d3, d4, d5, d6, d7, d8] }
  | _ => none }
def selectEachRow : OpenClaim := { program := "ytdfglgnflldkpaadoor", sum := "a7ca9afbaeaddf25f148b886b2b43ec54daecb046cc7238e64b0159c94397a6b", func := "alembic/alembiclaw24.SelectEach", spec := "selectEach", named := ["alembic/api.ErrMany", "alembic/api.ErrOp", "alembic/api.ErrRange", "alembic/api.ErrShape", "alembic/api.ErrLabel"], apart := false, laid := [("alembic/api.ErrRange", laid_alembic_api_ErrRange), ("alembic/api.ErrMany", laid_alembic_api_ErrMany), ("alembic/api.ErrShape", laid_alembic_api_ErrShape), ("alembic/api.ErrOp", laid_alembic_api_ErrOp), ("alembic/api.ErrLabel", laid_alembic_api_ErrLabel)] }
def SelectEachSaid : Prop := selectEachRow.holds Tryd.pinned (OpenSpec.ofChange selectEachSpec)

/-- ITS FALSE NEIGHBOUR: 'it returns false'. Refute it at one input. -/
def selectEachWrong : ChangeSpec := { name := "selectEach", fn := fun _ => fun
  | [d1, d2, d3, d4, d5, d6, d7, d8] => { results := [.lit (.bool false)], args := [d1, d2, d3, d4, d5, d6, d7, d8] }
  | _ => none }
def SelectEachWrongFalsely : Prop := selectEachRow.holds Tryd.pinned (OpenSpec.ofChange selectEachWrong)

/-- 'alembiclaw24.SelectLoops': WHATEVER THE INPUT: true; the input reads as it did. -/
def selectLoopsSpec : ChangeSpec := { name := "selectLoops", fn := fun _ => fun
  | [d] => { results := [.lit (.bool true)], args := [d] }
  | _ => none }
def selectLoopsRow : OpenClaim := { program := "ytdfglgnflldkpaadoor", sum := "a7ca9afbaeaddf25f148b886b2b43ec54daecb046cc7238e64b0159c94397a6b", func := "alembic/alembiclaw24.SelectLoops", spec := "selectLoops", named := ["alembic/api.ErrMany", "alembic/api.ErrOp", "alembic/api.ErrRange", "alembic/api.ErrShape", "alembic/api.ErrLabel"], apart := false, laid := [("alembic/api.ErrRange", laid_alembic_api_ErrRange), ("alembic/api.ErrMany", laid_alembic_api_ErrMany), ("alembic/api.ErrShape", laid_alembic_api_ErrShape), ("alembic/api.ErrOp", laid_alembic_api_ErrOp), ("alembic/api.ErrLabel", laid_alembic_api_ErrLabel)] }
def SelectLoopsSaid : Prop := selectLoopsRow.holds Tryd.pinned (OpenSpec.ofChange selectLoopsSpec)

/-- ITS FALSE NEIGHBOUR: 'it returns false'. Refute it at one input. -/
def selectLoopsWrong : ChangeSpec := { name := "selectLoops", fn := fun _ => fun
  | [d] => { results := [.lit (.bool false)], args := [d] }
  | _ => none }
def SelectLoopsWrongFalsely : Prop := selectLoopsRow.holds Tryd.pinned (OpenSpec.ofChange selectLoopsWrong)

/-- 'alembiclaw24.SelectFar': WHATEVER THE INPUT: true; the input reads as it did. -/
def selectFarSpec : ChangeSpec := { name := "selectFar", fn := fun _ => fun
  | [d1, d2, d3] => { results := [.lit (.bool true)], args := [d1, d2, d3] }
  | _ => none }
def selectFarRow : OpenClaim := { program := "ytdfglgnflldkpaadoor", sum := "a7ca9afbaeaddf25f148b886b2b43ec54daecb046cc7238e64b0159c94397a6b", func := "alembic/alembiclaw24.SelectFar", spec := "selectFar", named := ["alembic/api.ErrMany", "alembic/api.ErrOp", "alembic/api.ErrRange", "alembic/api.ErrShape", "alembic/api.ErrLabel"], apart := false, laid := [("alembic/api.ErrRange", laid_alembic_api_ErrRange), ("alembic/api.ErrMany", laid_alembic_api_ErrMany), ("alembic/api.ErrShape", laid_alembic_api_ErrShape), ("alembic/api.ErrOp", laid_alembic_api_ErrOp), ("alembic/api.ErrLabel", laid_alembic_api_ErrLabel)] }
def SelectFarSaid : Prop := selectFarRow.holds Tryd.pinned (OpenSpec.ofChange selectFarSpec)

/-- ITS FALSE NEIGHBOUR: 'it returns false'. Refute it at one input. -/
def selectFarWrong : ChangeSpec := { name := "selectFar", fn := fun _ => fun
  | [d1, d2, d3] => { results := [.lit (.bool false)], args := [d1, d2, d3] }
  | _ => none }
def SelectFarWrongFalsely : Prop := selectFarRow.holds Tryd.pinned (OpenSpec.ofChange selectFarWrong)

/-- 'alembiclaw23.MachRuns': WHATEVER THE INPUT: true; the input reads as it did. -/
def machRunsSpec : ChangeSpec := { name := "machRuns", fn := fun _ => fun
  | [d1, d2, d3] => { results := [.lit (.bool true)], args := [d1, d2, d3] }
  | _ => none }
def machRunsRow : OpenClaim := { program := "ytdfglgnflldkpaadoor", sum := "a7ca9afbaeaddf25f148b886b2b43ec54daecb046cc7238e64b0159c94397a6b", func := "alembic/alembiclaw23.MachRuns", spec := "machRuns", named := ["alembic/api.ErrMany", "alembic/api.ErrRange", "alembic/api.ErrLength", "alembic/api.ErrShape", "alembic/api.ErrNone", "alembic/api.ErrOp", "alembic/api.ErrVar", "alembic/api.ErrSecret", "alembic/api.ErrLabel", "alembic/api.ErrFar", "alembic/api.ErrFuel", "alembic/api.ErrFault", "alembic/api.ErrWord", "alembic/api.ErrNumber"], apart := false, laid := [("alembic/api.ErrRange", laid_alembic_api_ErrRange), ("alembic/api.ErrLength", laid_alembic_api_ErrLength), ("alembic/api.ErrMany", laid_alembic_api_ErrMany), ("alembic/api.ErrShape", laid_alembic_api_ErrShape), ("alembic/api.ErrNone", laid_alembic_api_ErrNone), ("alembic/api.ErrOp", laid_alembic_api_ErrOp), ("alembic/api.ErrVar", laid_alembic_api_ErrVar), ("alembic/api.ErrSecret", laid_alembic_api_ErrSecret), ("alembic/api.ErrLabel", laid_alembic_api_ErrLabel), ("alembic/api.ErrFar", laid_alembic_api_ErrFar), ("alembic/api.ErrFuel", laid_alembic_api_ErrFuel), ("alembic/api.ErrFault", laid_alembic_api_ErrFault), ("alembic/api.ErrWord", laid_alembic_api_ErrWord), ("alembic/api.ErrNumber", laid_alembic_api_ErrNumber)] }
def MachRunsSaid : Prop := machRunsRow.holds Tryd.pinned (OpenSpec.ofChange machRunsSpec)

/-- ITS FALSE NEIGHBOUR: 'it returns false'. Refute it at one input. -/
def machRunsWrong : ChangeSpec := { name := "machRuns", fn := fun _ => fun
  | [d1, d2, d3] => { results := [.lit (.bool false)], args := [d1, d2, d3] }
  | _ => none }
def MachRunsWrongFalsely : Prop := machRunsRow.holds Tryd.pinned (OpenSpec.ofChange machRunsWrong)

/-- 'alembiclaw23.MachLoops': WHATEVER THE INPUT: true; the input reads as it did. -/
def machLoopsSpec : ChangeSpec := { name := "machLoops", fn := fun _ => fun
  | [d1, d2] => { results := [.lit (.bool true)], args := [d1, d2] }
  | _ => none }
def machLoopsRow : OpenClaim := { program := "ytdfglgnflldkpaadoor", sum := "a7ca9afbaeaddf25f148b886b2b43ec54daecb046cc7238e64b0159c94397a6b", func := "alembic/alembiclaw23.MachLoops", spec := "machLoops", named := ["alembic/api.ErrMany", "alembic/api.ErrRange"], apart := false, laid := [("alembic/api.ErrRange", laid_alembic_api_ErrRange), ("alembic/api.ErrMany", laid_alembic_api_ErrMany)] }
def MachLoopsSaid : Prop := machLoopsRow.holds Tryd.pinned (OpenSpec.ofChange machLoopsSpec)

/-- ITS FALSE NEIGHBOUR: 'it returns false'. Refute it at one input. -/
def machLoopsWrong : ChangeSpec := { name := "machLoops", fn := fun _ => fun
  | [d1, d2] => { results := [.lit (.bool false)], args := [d1, d2] }
  | _ => none }
def MachLoopsWrongFalsely : Prop := machLoopsRow.holds Tryd.pinned (OpenSpec.ofChange machLoopsWrong)

/-- 'alembiclaw23.MachFaults': WHATEVER THE INPUT: true; the input reads as it did. -/
def machFaultsSpec : ChangeSpec := { name := "machFaults", fn := fun _ => fun
  | [d1, d2] => { results := [.lit (.bool true)], args := [d1, d2] }
  | _ => none }
def machFaultsRow : OpenClaim := { program := "ytdfglgnflldkpaadoor", sum := "a7ca9afbaeaddf25f148b886b2b43ec54daecb046cc7238e64b0159c94397a6b", func := "alembic/alembiclaw23.MachFaults", spec := "machFaults", named := ["alembic/api.ErrMany", "alembic/api.ErrRange"], apart := false, laid := [("alembic/api.ErrRange", laid_alembic_api_ErrRange), ("alembic/api.ErrMany", laid_alembic_api_ErrMany)] }
def MachFaultsSaid : Prop := machFaultsRow.holds Tryd.pinned (OpenSpec.ofChange machFaultsSpec)

/-- ITS FALSE NEIGHBOUR: 'it returns false'. Refute it at one input. -/
def machFaultsWrong : ChangeSpec := { name := "machFaults", fn := fun _ => fun
  | [d1, d2] => { results := [.lit (.bool false)], args := [d1, d2] }
  | _ => none }
def MachFaultsWrongFalsely : Prop := machFaultsRow.holds Tryd.pinned (OpenSpec.ofChange machFaultsWrong)

/-- 'alembiclaw23.MachOne': WHATEVER THE INPUT: true; the input reads as it did. -/
def machOneSpec : ChangeSpec := { name := "machOne", fn := fun _ => fun
  | [d1, d2, d3, d4] => { results := [.lit (.bool true)], args := [d1, d2, d3, d4] }
  | _ => none }
def machOneRow : OpenClaim := { program := "ytdfglgnflldkpaadoor", sum := "a7ca9afbaeaddf25f148b886b2b43ec54daecb046cc7238e64b0159c94397a6b", func := "alembic/alembiclaw23.MachOne", spec := "machOne", named := ["alembic/api.ErrMany", "alembic/api.ErrRange"], apart := false, laid := [("alembic/api.ErrRange", laid_alembic_api_ErrRange), ("alembic/api.ErrMany", laid_alembic_api_ErrMany)] }
def MachOneSaid : Prop := machOneRow.holds Tryd.pinned (OpenSpec.ofChange machOneSpec)

/-- ITS FALSE NEIGHBOUR: 'it returns false'. Refute it at one input. -/
def machOneWrong : ChangeSpec := { name := "machOne", fn := fun _ => fun
  | [d1, d2, d3, d4] => { results := [.lit (.bool false)], args := [d1, d2, d3, d4] }
  | _ => none }
def MachOneWrongFalsely : Prop := machOneRow.holds Tryd.pinned (OpenSpec.ofChange machOneWrong)

/-- 'alembiclaw23.MachCompares': WHATEVER THE INPUT: true; the input reads as it did. -/
def machComparesSpec : ChangeSpec := { name := "machCompares", fn := fun _ => fun
  | [d1, d2, d3] => { results := [.lit (.bool true)], args := [d1, d2, d3] }
  | _ => none }
def machComparesRow : OpenClaim := { program := "ytdfglgnflldkpaadoor", sum := "a7ca9afbaeaddf25f148b886b2b43ec54daecb046cc7238e64b0159c94397a6b", func := "alembic/alembiclaw23.MachCompares", spec := "machCompares", named := ["alembic/api.ErrMany", "alembic/api.ErrRange"], apart := false, laid := [("alembic/api.ErrRange", laid_alembic_api_ErrRange), ("alembic/api.ErrMany", laid_alembic_api_ErrMany)] }
def MachComparesSaid : Prop := machComparesRow.holds Tryd.pinned (OpenSpec.ofChange machComparesSpec)

/-- ITS FALSE NEIGHBOUR: 'it returns false'. Refute it at one input. -/
def machComparesWrong : ChangeSpec := { name := "machCompares", fn := fun _ => fun
  | [d1, d2, d3] => { results := [.lit (.bool false)], args := [d1, d2, d3] }
  | _ => none }
def MachComparesWrongFalsely : Prop := machComparesRow.holds Tryd.pinned (OpenSpec.ofChange machComparesWrong)

/-- 'alembiclaw23.MachConsts': WHATEVER THE INPUT: true; the input reads as it did. -/
def machConstsSpec : ChangeSpec := { name := "machConsts", fn := fun _ => fun
  | [d1, d2] => { results := [.lit (.bool true)], args := [d1, d2] }
  | _ => none }
def machConstsRow : OpenClaim := { program := "ytdfglgnflldkpaadoor", sum := "a7ca9afbaeaddf25f148b886b2b43ec54daecb046cc7238e64b0159c94397a6b", func := "alembic/alembiclaw23.MachConsts", spec := "machConsts", named := ["alembic/api.ErrMany", "alembic/api.ErrRange"], apart := false, laid := [("alembic/api.ErrRange", laid_alembic_api_ErrRange), ("alembic/api.ErrMany", laid_alembic_api_ErrMany)] }
def MachConstsSaid : Prop := machConstsRow.holds Tryd.pinned (OpenSpec.ofChange machConstsSpec)

/-- ITS FALSE NEIGHBOUR: 'it returns false'. Refute it at one input. -/
def machConstsWrong : ChangeSpec := { name := "machConsts", fn := fun _ => fun
  | [d1, d2] => { results := [.lit (.bool false)], args := [d1, d2] }
  | _ => none }
def MachConstsWrongFalsely : Prop := machConstsRow.holds Tryd.pinned (OpenSpec.ofChange machConstsWrong)

/-- 'alembiclaw24.SelectMeans': WHATEVER THE INPUT: true; the input reads as it did. -/
def selectMeansSpec : ChangeSpec := { name := "selectMeans", fn := fun _ => fun
  | [d1, d2] => { results := [.lit (.bool true)], args := [d1, d2] }
  | _ => none }
def selectMeansRow : OpenClaim := { program := "ytdfglgnflldkpaadoor", sum := "a7ca9afbaeaddf25f148b886b2b43ec54daecb046cc7238e64b0159c94397a6b", func := "alembic/alembiclaw24.SelectMeans", spec := "selectMeans", named := ["alembic/api.ErrMany", "alembic/api.ErrOp", "alembic/api.ErrRange", "alembic/api.ErrShape", "alembic/api.ErrLabel", "alembic/api.ErrLength", "alembic/api.ErrNone", "alembic/api.ErrVar", "alembic/api.ErrSecret", "alembic/api.ErrFar", "alembic/api.ErrFuel", "alembic/api.ErrFault", "alembic/api.ErrWord", "alembic/api.ErrNumber"], apart := false, laid := [("alembic/api.ErrRange", laid_alembic_api_ErrRange), ("alembic/api.ErrLength", laid_alembic_api_ErrLength), ("alembic/api.ErrMany", laid_alembic_api_ErrMany), ("alembic/api.ErrShape", laid_alembic_api_ErrShape), ("alembic/api.ErrNone", laid_alembic_api_ErrNone), ("alembic/api.ErrOp", laid_alembic_api_ErrOp), ("alembic/api.ErrVar", laid_alembic_api_ErrVar), ("alembic/api.ErrSecret", laid_alembic_api_ErrSecret), ("alembic/api.ErrLabel", laid_alembic_api_ErrLabel), ("alembic/api.ErrFar", laid_alembic_api_ErrFar), ("alembic/api.ErrFuel", laid_alembic_api_ErrFuel), ("alembic/api.ErrFault", laid_alembic_api_ErrFault), ("alembic/api.ErrWord", laid_alembic_api_ErrWord), ("alembic/api.ErrNumber", laid_alembic_api_ErrNumber)] }
def SelectMeansSaid : Prop := selectMeansRow.holds Tryd.pinned (OpenSpec.ofChange selectMeansSpec)

/-- ITS FALSE NEIGHBOUR: 'it returns false'. Refute it at one input. -/
def selectMeansWrong : ChangeSpec := { name := "selectMeans", fn := fun _ => fun
  | [d1, d2] => { results := [.lit (.bool false)], args := [d1, d2] }
  | _ => none }
def SelectMeansWrongFalsely : Prop := selectMeansRow.holds Tryd.pinned (OpenSpec.ofChange selectMeansWrong)

/- THE SECOND FORM. 'bulk': how many values and letters a reading holds, each counted each time it is reached (what is shared counts as often as it is met; a slice's spare places count too). A statement '..UptoSaid' is the law's where the arguments, and the package variables that the reading takes, are together of bulk at most 1048576: NARROWER than '..Said'. Prove '..Said' where nothing that the law and all that it calls make is longer than what came in: it says more and counts as full. Else prove '..UptoSaid'. A law counts once. -/
mutual
def uptoBulk {H : Type} : DataW H → Nat
  | .lit (.string bytes) => bytes.length + 1
  | .lit _ => 1
  | .nil => 1
  | .ptr d => uptoBulk d + 1
  | .slice elems spare => uptoBulkAll elems + uptoBulkAll spare + 1
  | .agg parts => uptoBulkAll parts + 1
  | .iface _ d => uptoBulk d + 1
  | .map entries => uptoBulkEntries entries + 1
  | .held _ => 1
def uptoBulkAll {H : Type} : List (DataW H) → Nat
  | [] => 0
  | d :: r => uptoBulk d + uptoBulkAll r
def uptoBulkEntries {H : Type} : List (Lit × DataW H) → Nat
  | [] => 0
  | x :: r => uptoBulkEntry x + uptoBulkEntries r
def uptoBulkEntry {H : Type} : Lit × DataW H → Nat
  | (.string bytes, d) => bytes.length + uptoBulk d + 1
  | (_, d) => uptoBulk d + 1
 end
def uptoSmall : (H : Type) → List (DataW H) → Bool := fun _ ds => decide (uptoBulkAll ds ≤ 1048576)
def OpenSpec.upto (s : _root_.Go.ChangeSpec) : _root_.Go.OpenSpec := { _root_.Go.OpenSpec.ofChange s with cond := some uptoSmall }

/-- 'alembiclaw24.SelectHides', WHERE WHAT IT READS IS OF BULK AT MOST 1048576: true; the input reads as it did. -/
def selectHidesUptoRow : OpenClaim := { program := "ytdfglgnflldkpaadoor", sum := "a7ca9afbaeaddf25f148b886b2b43ec54daecb046cc7238e64b0159c94397a6b", func := "alembic/alembiclaw24.SelectHides", spec := "selectHides", named := ["alembic/api.ErrMany", "alembic/api.ErrOp", "alembic/api.ErrRange", "alembic/api.ErrShape", "alembic/api.ErrLabel"], apart := false, laid := [("alembic/api.ErrRange", laid_alembic_api_ErrRange), ("alembic/api.ErrMany", laid_alembic_api_ErrMany), ("alembic/api.ErrShape", laid_alembic_api_ErrShape), ("alembic/api.ErrOp", laid_alembic_api_ErrOp), ("alembic/api.ErrLabel", laid_alembic_api_ErrLabel)], narrowed := true }
def SelectHidesUptoSaid : Prop := selectHidesUptoRow.holds Tryd.pinned (OpenSpec.upto selectHidesSpec)

/-- 'alembiclaw24.SelectConsts', WHERE WHAT IT READS IS OF BULK AT MOST 1048576: true; the input reads as it did. -/
def selectConstsUptoRow : OpenClaim := { program := "ytdfglgnflldkpaadoor", sum := "a7ca9afbaeaddf25f148b886b2b43ec54daecb046cc7238e64b0159c94397a6b", func := "alembic/alembiclaw24.SelectConsts", spec := "selectConsts", named := ["alembic/api.ErrMany", "alembic/api.ErrOp", "alembic/api.ErrRange", "alembic/api.ErrShape", "alembic/api.ErrLabel", "alembic/api.ErrLength", "alembic/api.ErrNone", "alembic/api.ErrVar", "alembic/api.ErrSecret", "alembic/api.ErrFar", "alembic/api.ErrFuel", "alembic/api.ErrFault", "alembic/api.ErrWord", "alembic/api.ErrNumber"], apart := false, laid := [("alembic/api.ErrRange", laid_alembic_api_ErrRange), ("alembic/api.ErrLength", laid_alembic_api_ErrLength), ("alembic/api.ErrMany", laid_alembic_api_ErrMany), ("alembic/api.ErrShape", laid_alembic_api_ErrShape), ("alembic/api.ErrNone", laid_alembic_api_ErrNone), ("alembic/api.ErrOp", laid_alembic_api_ErrOp), ("alembic/api.ErrVar", laid_alembic_api_ErrVar), ("alembic/api.ErrSecret", laid_alembic_api_ErrSecret), ("alembic/api.ErrLabel", laid_alembic_api_ErrLabel), ("alembic/api.ErrFar", laid_alembic_api_ErrFar), ("alembic/api.ErrFuel", laid_alembic_api_ErrFuel), ("alembic/api.ErrFault", laid_alembic_api_ErrFault), ("alembic/api.ErrWord", laid_alembic_api_ErrWord), ("alembic/api.ErrNumber", laid_alembic_api_ErrNumber)], narrowed := true }
def SelectConstsUptoSaid : Prop := selectConstsUptoRow.holds Tryd.pinned (OpenSpec.upto selectConstsSpec)

/-- 'alembiclaw24.SelectEach', WHERE WHAT IT READS IS OF BULK AT MOST 1048576: true; the input reads as it did. -/
def selectEachUptoRow : OpenClaim := { program := "ytdfglgnflldkpaadoor", sum := "a7ca9afbaeaddf25f148b886b2b43ec54daecb046cc7238e64b0159c94397a6b", func := "alembic/alembiclaw24.SelectEach", spec := "selectEach", named := ["alembic/api.ErrMany", "alembic/api.ErrOp", "alembic/api.ErrRange", "alembic/api.ErrShape", "alembic/api.ErrLabel"], apart := false, laid := [("alembic/api.ErrRange", laid_alembic_api_ErrRange), ("alembic/api.ErrMany", laid_alembic_api_ErrMany), ("alembic/api.ErrShape", laid_alembic_api_ErrShape), ("alembic/api.ErrOp", laid_alembic_api_ErrOp), ("alembic/api.ErrLabel", laid_alembic_api_ErrLabel)], narrowed := true }
def SelectEachUptoSaid : Prop := selectEachUptoRow.holds Tryd.pinned (OpenSpec.upto selectEachSpec)

/-- 'alembiclaw24.SelectLoops', WHERE WHAT IT READS IS OF BULK AT MOST 1048576: true; the input reads as it did. -/
def selectLoopsUptoRow : OpenClaim := { program := "ytdfglgnflldkpaadoor", sum := "a7ca9afbaeaddf25f148b886b2b43ec54daecb046cc7238e64b0159c94397a6b", func := "alembic/alembiclaw24.SelectLoops", spec := "selectLoops", named := ["alembic/api.ErrMany", "alembic/api.ErrOp", "alembic/api.ErrRange", "alembic/api.ErrShape", "alembic/api.ErrLabel"], apart := false, laid := [("alembic/api.ErrRange", laid_alembic_api_ErrRange), ("alembic/api.ErrMany", laid_alembic_api_ErrMany), ("alembic/api.ErrShape", laid_alembic_api_ErrShape), ("alembic/api.ErrOp", laid_alembic_api_ErrOp), ("alembic/api.ErrLabel", laid_alembic_api_ErrLabel)], narrowed := true }
def SelectLoopsUptoSaid : Prop := selectLoopsUptoRow.holds Tryd.pinned (OpenSpec.upto selectLoopsSpec)

/-- 'alembiclaw24.SelectFar', WHERE WHAT IT READS IS OF BULK AT MOST 1048576: true; the input reads as it did. -/
def selectFarUptoRow : OpenClaim := { program := "ytdfglgnflldkpaadoor", sum := "a7ca9afbaeaddf25f148b886b2b43ec54daecb046cc7238e64b0159c94397a6b", func := "alembic/alembiclaw24.SelectFar", spec := "selectFar", named := ["alembic/api.ErrMany", "alembic/api.ErrOp", "alembic/api.ErrRange", "alembic/api.ErrShape", "alembic/api.ErrLabel"], apart := false, laid := [("alembic/api.ErrRange", laid_alembic_api_ErrRange), ("alembic/api.ErrMany", laid_alembic_api_ErrMany), ("alembic/api.ErrShape", laid_alembic_api_ErrShape), ("alembic/api.ErrOp", laid_alembic_api_ErrOp), ("alembic/api.ErrLabel", laid_alembic_api_ErrLabel)], narrowed := true }
def SelectFarUptoSaid : Prop := selectFarUptoRow.holds Tryd.pinned (OpenSpec.upto selectFarSpec)

/-- 'alembiclaw23.MachRuns', WHERE WHAT IT READS IS OF BULK AT MOST 1048576: true; the input reads as it did. -/
def machRunsUptoRow : OpenClaim := { program := "ytdfglgnflldkpaadoor", sum := "a7ca9afbaeaddf25f148b886b2b43ec54daecb046cc7238e64b0159c94397a6b", func := "alembic/alembiclaw23.MachRuns", spec := "machRuns", named := ["alembic/api.ErrMany", "alembic/api.ErrRange", "alembic/api.ErrLength", "alembic/api.ErrShape", "alembic/api.ErrNone", "alembic/api.ErrOp", "alembic/api.ErrVar", "alembic/api.ErrSecret", "alembic/api.ErrLabel", "alembic/api.ErrFar", "alembic/api.ErrFuel", "alembic/api.ErrFault", "alembic/api.ErrWord", "alembic/api.ErrNumber"], apart := false, laid := [("alembic/api.ErrRange", laid_alembic_api_ErrRange), ("alembic/api.ErrLength", laid_alembic_api_ErrLength), ("alembic/api.ErrMany", laid_alembic_api_ErrMany), ("alembic/api.ErrShape", laid_alembic_api_ErrShape), ("alembic/api.ErrNone", laid_alembic_api_ErrNone), ("alembic/api.ErrOp", laid_alembic_api_ErrOp), ("alembic/api.ErrVar", laid_alembic_api_ErrVar), ("alembic/api.ErrSecret", laid_alembic_api_ErrSecret), ("alembic/api.ErrLabel", laid_alembic_api_ErrLabel), ("alembic/api.ErrFar", laid_alembic_api_ErrFar), ("alembic/api.ErrFuel", laid_alembic_api_ErrFuel), ("alembic/api.ErrFault", laid_alembic_api_ErrFault), ("alembic/api.ErrWord", laid_alembic_api_ErrWord), ("alembic/api.ErrNumber", laid_alembic_api_ErrNumber)], narrowed := true }
def MachRunsUptoSaid : Prop := machRunsUptoRow.holds Tryd.pinned (OpenSpec.upto machRunsSpec)

/-- 'alembiclaw23.MachLoops', WHERE WHAT IT READS IS OF BULK AT MOST 1048576: true; the input reads as it did. -/
def machLoopsUptoRow : OpenClaim := { program := "ytdfglgnflldkpaadoor", sum := "a7ca9afbaeaddf25f148b886b2b43ec54daecb046cc7238e64b0159c94397a6b", func := "alembic/alembiclaw23.MachLoops", spec := "machLoops", named := ["alembic/api.ErrMany", "alembic/api.ErrRange"], apart := false, laid := [("alembic/api.ErrRange", laid_alembic_api_ErrRange), ("alembic/api.ErrMany", laid_alembic_api_ErrMany)], narrowed := true }
def MachLoopsUptoSaid : Prop := machLoopsUptoRow.holds Tryd.pinned (OpenSpec.upto machLoopsSpec)

/-- 'alembiclaw23.MachFaults', WHERE WHAT IT READS IS OF BULK AT MOST 1048576: true; the input reads as it did. -/
def machFaultsUptoRow : OpenClaim := { program := "ytdfglgnflldkpaadoor", sum := "a7ca9afbaeaddf25f148b886b2b43ec54daecb046cc7238e64b0159c94397a6b", func := "alembic/alembiclaw23.MachFaults", spec := "machFaults", named := ["alembic/api.ErrMany", "alembic/api.ErrRange"], apart := false, laid := [("alembic/api.ErrRange", laid_alembic_api_ErrRange), ("alembic/api.ErrMany", laid_alembic_api_ErrMany)], narrowed := true }
def MachFaultsUptoSaid : Prop := machFaultsUptoRow.holds Tryd.pinned (OpenSpec.upto machFaultsSpec)

/-- 'alembiclaw23.MachOne', WHERE WHAT IT READS IS OF BULK AT MOST 1048576: true; the input reads as it did. -/
def machOneUptoRow : OpenClaim := { program := "ytdfglgnflldkpaadoor", sum := "a7ca9afbaeaddf25f148b886b2b43ec54daecb046cc7238e64b0159c94397a6b", func := "alembic/alembiclaw23.MachOne", spec := "machOne", named := ["alembic/api.ErrMany", "alembic/api.ErrRange"], apart := false, laid := [("alembic/api.ErrRange", laid_alembic_api_ErrRange), ("alembic/api.ErrMany", laid_alembic_api_ErrMany)], narrowed := true }
def MachOneUptoSaid : Prop := machOneUptoRow.holds Tryd.pinned (OpenSpec.upto machOneSpec)

/-- 'alembiclaw23.MachCompares', WHERE WHAT IT READS IS OF BULK AT MOST 1048576: true; the input reads as it did. -/
def machComparesUptoRow : OpenClaim := { program := "ytdfglgnflldkpaadoor", sum := "a7ca9afbaeaddf25f148b886b2b43ec54daecb046cc7238e64b0159c94397a6b", func := "alembic/alembiclaw23.MachCompares", spec := "machCompares", named := ["alembic/api.ErrMany", "alembic/api.ErrRange"], apart := false, laid := [("alembic/api.ErrRange", laid_alembic_api_ErrRange), ("alembic/api.ErrMany", laid_alembic_api_ErrMany)], narrowed := true }
def MachComparesUptoSaid : Prop := machComparesUptoRow.holds Tryd.pinned (OpenSpec.upto machComparesSpec)

/-- 'alembiclaw23.MachConsts', WHERE WHAT IT READS IS OF BULK AT MOST 1048576: true; the input reads as it did. -/
def machConstsUptoRow : OpenClaim := { program := "ytdfglgnflldkpaadoor", sum := "a7ca9afbaeaddf25f148b886b2b43ec54daecb046cc7238e64b0159c94397a6b", func := "alembic/alembiclaw23.MachConsts", spec := "machConsts", named := ["alembic/api.ErrMany", "alembic/api.ErrRange"], apart := false, laid := [("alembic/api.ErrRange", laid_alembic_api_ErrRange), ("alembic/api.ErrMany", laid_alembic_api_ErrMany)], narrowed := true }
def MachConstsUptoSaid : Prop := machConstsUptoRow.holds Tryd.pinned (OpenSpec.upto machConstsSpec)

/-- 'alembiclaw24.SelectMeans', WHERE WHAT IT READS IS OF BULK AT MOST 1048576: true; the input reads as it did. -/
def selectMeansUptoRow : OpenClaim := { program := "ytdfglgnflldkpaadoor", sum := "a7ca9afbaeaddf25f148b886b2b43ec54daecb046cc7238e64b0159c94397a6b", func := "alembic/alembiclaw24.SelectMeans", spec := "selectMeans", named := ["alembic/api.ErrMany", "alembic/api.ErrOp", "alembic/api.ErrRange", "alembic/api.ErrShape", "alembic/api.ErrLabel", "alembic/api.ErrLength", "alembic/api.ErrNone", "alembic/api.ErrVar", "alembic/api.ErrSecret", "alembic/api.ErrFar", "alembic/api.ErrFuel", "alembic/api.ErrFault", "alembic/api.ErrWord", "alembic/api.ErrNumber"], apart := false, laid := [("alembic/api.ErrRange", laid_alembic_api_ErrRange), ("alembic/api.ErrLength", laid_alembic_api_ErrLength), ("alembic/api.ErrMany", laid_alembic_api_ErrMany), ("alembic/api.ErrShape", laid_alembic_api_ErrShape), ("alembic/api.ErrNone", laid_alembic_api_ErrNone), ("alembic/api.ErrOp", laid_alembic_api_ErrOp), ("alembic/api.ErrVar", laid_alembic_api_ErrVar), ("alembic/api.ErrSecret", laid_alembic_api_ErrSecret), ("alembic/api.ErrLabel", laid_alembic_api_ErrLabel), ("alembic/api.ErrFar", laid_alembic_api_ErrFar), ("alembic/api.ErrFuel", laid_alembic_api_ErrFuel), ("alembic/api.ErrFault", laid_alembic_api_ErrFault), ("alembic/api.ErrWord", laid_alembic_api_ErrWord), ("alembic/api.ErrNumber", laid_alembic_api_ErrNumber)], narrowed := true }
def SelectMeansUptoSaid : Prop := selectMeansUptoRow.holds Tryd.pinned (OpenSpec.upto selectMeansSpec)

end Rows
end Go.Proofs.YtdfglgnflldkpaaDoor
