/-
  NARROWER THAN 'FOR EVERY INPUT', by the rows' own cells (each row's printed sentence says how): WordsRun: laid · WordsMeans: laid · WordsLeak: laid · WordsLoops: laid · WordsFaults: laid · BoundChecks: laid · BoundExact: laid · BoundSound: laid · WordsValues: laid.
  DERIVED. THE GIVEN ROWS OF THIS SEAT. 9 by the template 'for every input the law returns true; each argument reads behind the call as it read before'; 0 by the template 'total and deterministic' (their statements: YtcmblhedhgiofaaDoorTotals.lean).
  GIVEN WITH THE SEED: the statements are not yours to turn. If you find one false, say at which input.
  Laid BY PROGRAM, IN A SANDBOX (cutbox-rows.mjs): the forced cells as the released guide's own fill.sh prints them over the translation 8d97899b1d758172… (all of the seat's roots in one cut). By AI agents, Wed Nov 11 2026. No macro, syntax, notation, axiom, sorry.
-/
import Derived.Test.YtcmblhedhgiofaaDoorChecked
import GoSem.Claim
import GoSem.ClaimJoined
import GoSem.ClaimMapViews
import Derived.JoinedTies
import Derived.KernelRfl
namespace Go.Proofs.YtcmblhedhgiofaaDoor
/- THE CELL 'sum', in the pinned program and in every row, IS THE sha256 OF THE DUMP (.gsa) THAT YtcmblhedhgiofaaDoorProg.lean LOADS. Nothing in Lean hashes anything: it is a label: what it is worth is what the hold of that sum in a sandbox is worth. -/
noncomputable def Tryd.pinned : Pinned := { name := "ytcmblhedhgiofaadoor", sum := "8d97899b1d7581726e6056aaf70bb09272cad78da24a18816ee7e4f5b86b8427", checked := Tryd.checked }
namespace Rows
def none {H : Type} : Left H := { results := [], args := [] }

/- WHAT THE LISTED PACKAGE-LEVEL VARIABLES READ AS WHEN THE CALL BEGINS. Each datum BY PROGRAM (the guide's laid-datum.mjs) off the statement by which the dump's own 'gosem.cut.vars' lays the variable. In a bare row this is a premise. The card (YtcmblhedhgiofaaDoorCards.lean) ties it to the program's text. -/
def laid_alembic_api_ErrRange {H : Type} : DataW H := .iface "*errors.errorString" (.ptr (.agg [.lit (.string [97, 32, 110, 117, 109, 98, 101, 114, 32, 111, 117, 116, 32, 111, 102, 32, 105, 116, 115, 32, 114, 97, 110, 103, 101])]))
def laid_alembic_api_ErrLength {H : Type} : DataW H := .iface "*errors.errorString" (.ptr (.agg [.lit (.string [110, 111, 116, 32, 97, 115, 32, 108, 111, 110, 103, 32, 97, 115, 32, 105, 116, 32, 104, 97, 115, 32, 116, 111, 32, 98, 101])]))
def laid_alembic_api_ErrMany {H : Type} : DataW H := .iface "*errors.errorString" (.ptr (.agg [.lit (.string [116, 111, 111, 32, 109, 97, 110, 121])]))
def laid_alembic_api_ErrShape {H : Type} : DataW H := .iface "*errors.errorString" (.ptr (.agg [.lit (.string [110, 111, 116, 32, 97, 115, 32, 105, 116, 32, 104, 97, 115, 32, 116, 111, 32, 98, 101])]))
def laid_alembic_api_ErrNone {H : Type} : DataW H := .iface "*errors.errorString" (.ptr (.agg [.lit (.string [116, 104, 101, 114, 101, 32, 105, 115, 32, 110, 111, 110, 101])]))
def laid_alembic_api_ErrOp {H : Type} : DataW H := .iface "*errors.errorString" (.ptr (.agg [.lit (.string [110, 111, 32, 115, 117, 99, 104, 32, 116, 104, 105, 110, 103, 32, 116, 111, 32, 100, 111])]))
def laid_alembic_api_ErrVar {H : Type} : DataW H := .iface "*errors.errorString" (.ptr (.agg [.lit (.string [110, 111, 32, 115, 117, 99, 104, 32, 118, 97, 114, 105, 97, 98, 108, 101])]))
def laid_alembic_api_ErrSecret {H : Type} : DataW H := .iface "*errors.errorString" (.ptr (.agg [.lit (.string [97, 32, 115, 101, 99, 114, 101, 116, 32, 119, 104, 101, 114, 101, 32, 105, 116, 32, 109, 97, 121, 32, 110, 111, 116, 32, 98, 101])]))
def laid_alembic_api_ErrLabel {H : Type} : DataW H := .iface "*errors.errorString" (.ptr (.agg [.lit (.string [110, 111, 32, 115, 117, 99, 104, 32, 112, 108, 97, 99, 101])]))
def laid_alembic_api_ErrFar {H : Type} : DataW H := .iface "*errors.errorString" (.ptr (.agg [.lit (.string [116, 111, 111, 32, 102, 97, 114])]))
def laid_alembic_api_ErrFuel {H : Type} : DataW H := .iface "*errors.errorString" (.ptr (.agg [.lit (.string [105, 116, 32, 116, 97, 107, 101, 115, 32, 116, 111, 111, 32, 108, 111, 110, 103])]))
def laid_alembic_api_ErrFault {H : Type} : DataW H := .iface "*errors.errorString" (.ptr (.agg [.lit (.string [119, 104, 101, 114, 101, 32, 116, 104, 101, 114, 101, 32, 105, 115, 32, 110, 111, 116, 104, 105, 110, 103])]))
def laid_alembic_api_ErrWord {H : Type} : DataW H := .iface "*errors.errorString" (.ptr (.agg [.lit (.string [110, 111, 32, 115, 117, 99, 104, 32, 119, 111, 114, 100])]))
def laid_alembic_api_ErrNumber {H : Type} : DataW H := .iface "*errors.errorString" (.ptr (.agg [.lit (.string [110, 111, 116, 32, 97, 32, 110, 117, 109, 98, 101, 114])]))
def laid_math_bits_deBruijn32tab {H : Type} : DataW H := .agg [.lit (.int .u8 0), .lit (.int .u8 1), .lit (.int .u8 28), .lit (.int .u8 2), .lit (.int .u8 29), .lit (.int .u8 14), .lit (.int .u8 24), .lit (.int .u8 3), .lit (.int .u8 30), .lit (.int .u8 22), .lit (.int .u8 20), .lit (.int .u8 15), .lit (.int .u8 25), .lit (.int .u8 17), .lit (.int .u8 4), .lit (.int .u8 8), .lit (.int .u8 31), .lit (.int .u8 27), .lit (.int .u8 13), .lit (.int .u8 23), .lit (.int .u8 21), .lit (.int .u8 19), .lit (.int .u8 16), .lit (.int .u8 7), .lit (.int .u8 26), .lit (.int .u8 12), .lit (.int .u8 18), .lit (.int .u8 6), .lit (.int .u8 11), .lit (.int .u8 5), .lit (.int .u8 10), .lit (.int .u8 9)]
def laid_math_bits_deBruijn64tab {H : Type} : DataW H := .agg [.lit (.int .u8 0), .lit (.int .u8 1), .lit (.int .u8 56), .lit (.int .u8 2), .lit (.int .u8 57), .lit (.int .u8 49), .lit (.int .u8 28), .lit (.int .u8 3), .lit (.int .u8 61), .lit (.int .u8 58), .lit (.int .u8 42), .lit (.int .u8 50), .lit (.int .u8 38), .lit (.int .u8 29), .lit (.int .u8 17), .lit (.int .u8 4), .lit (.int .u8 62), .lit (.int .u8 47), .lit (.int .u8 59), .lit (.int .u8 36), .lit (.int .u8 45), .lit (.int .u8 43), .lit (.int .u8 51), .lit (.int .u8 22), .lit (.int .u8 53), .lit (.int .u8 39), .lit (.int .u8 33), .lit (.int .u8 30), .lit (.int .u8 24), .lit (.int .u8 18), .lit (.int .u8 12), .lit (.int .u8 5), .lit (.int .u8 63), .lit (.int .u8 55), .lit (.int .u8 48), .lit (.int .u8 27), .lit (.int .u8 60), .lit (.int .u8 41), .lit (.int .u8 37), .lit (.int .u8 16), .lit (.int .u8 46), .lit (.int .u8 35), .lit (.int .u8 44), .lit (.int .u8 21), .lit (.int .u8 52), .lit (.int .u8 32), .lit (.int .u8 23), .lit (.int .u8 11), .lit (.int .u8 54), .lit (.int .u8 26), .lit (.int .u8 40), .lit (.int .u8 15), .lit (.int .u8 34), .lit (.int .u8 20), .lit (.int .u8 31), .lit (.int .u8 10), .lit (.int .u8 25), .lit (.int .u8 14), .lit (.int .u8 19), .lit (.int .u8 9), .lit (.int .u8 13), .lit (.int .u8 8), .lit (.int .u8 7), .lit (.int .u8 6)]
def laid_internal_strconv_uint64pow10 {H : Type} : DataW H := .agg [.lit (.int .u64 1), .lit (.int .u64 10), .lit (.int .u64 100), .lit (.int .u64 1000), .lit (.int .u64 10000), .lit (.int .u64 100000), .lit (.int .u64 1000000), .lit (.int .u64 10000000), .lit (.int .u64 100000000), .lit (.int .u64 1000000000), .lit (.int .u64 10000000000), .lit (.int .u64 100000000000), .lit (.int .u64 1000000000000), .lit (.int .u64 10000000000000), .lit (.int .u64 100000000000000), .lit (.int .u64 1000000000000000), .lit (.int .u64 10000000000000000), .lit (.int .u64 100000000000000000), .lit (.int .u64 1000000000000000000), .lit (.int .u64 10000000000000000000)]

/-- 'alembiclaw17.WordsRun': WHATEVER THE INPUT: true; the input reads as it did. -/
def wordsRunSpec : ChangeSpec := { name := "wordsRun", fn := fun _ => fun
  | [d1, d2, d3] => { results := [.lit (.bool true)], args := [d1, d2, d3] }
  | _ => none }
def wordsRunRow : OpenClaim := { program := "ytcmblhedhgiofaadoor", sum := "8d97899b1d7581726e6056aaf70bb09272cad78da24a18816ee7e4f5b86b8427", func := "alembic/alembiclaw17.WordsRun", spec := "wordsRun", unfollowed := true, recurses := true, named := ["alembic/api.ErrMany", "alembic/api.ErrOp", "alembic/api.ErrRange", "alembic/api.ErrShape", "alembic/api.ErrLabel", "alembic/api.ErrLength", "alembic/api.ErrNone", "alembic/api.ErrVar", "alembic/api.ErrSecret", "alembic/api.ErrFar", "alembic/api.ErrFuel", "alembic/api.ErrFault", "alembic/api.ErrWord", "alembic/api.ErrNumber"], apart := false, laid := [("alembic/api.ErrRange", laid_alembic_api_ErrRange), ("alembic/api.ErrLength", laid_alembic_api_ErrLength), ("alembic/api.ErrMany", laid_alembic_api_ErrMany), ("alembic/api.ErrShape", laid_alembic_api_ErrShape), ("alembic/api.ErrNone", laid_alembic_api_ErrNone), ("alembic/api.ErrOp", laid_alembic_api_ErrOp), ("alembic/api.ErrVar", laid_alembic_api_ErrVar), ("alembic/api.ErrSecret", laid_alembic_api_ErrSecret), ("alembic/api.ErrLabel", laid_alembic_api_ErrLabel), ("alembic/api.ErrFar", laid_alembic_api_ErrFar), ("alembic/api.ErrFuel", laid_alembic_api_ErrFuel), ("alembic/api.ErrFault", laid_alembic_api_ErrFault), ("alembic/api.ErrWord", laid_alembic_api_ErrWord), ("alembic/api.ErrNumber", laid_alembic_api_ErrNumber)] }
def WordsRunSaid : Prop := wordsRunRow.holds Tryd.pinned (OpenSpec.ofChange wordsRunSpec)

/-- ITS FALSE NEIGHBOUR: 'it returns false'. Refute it at one input. -/
def wordsRunWrong : ChangeSpec := { name := "wordsRun", fn := fun _ => fun
  | [d1, d2, d3] => { results := [.lit (.bool false)], args := [d1, d2, d3] }
  | _ => none }
def WordsRunWrongFalsely : Prop := wordsRunRow.holds Tryd.pinned (OpenSpec.ofChange wordsRunWrong)

/-- 'alembiclaw17.WordsMeans': WHATEVER THE INPUT: true; the input reads as it did. -/
def wordsMeansSpec : ChangeSpec := { name := "wordsMeans", fn := fun _ => fun
  | [d1, d2, d3, d4] => { results := [.lit (.bool true)], args := [d1, d2, d3, d4] }
  | _ => none }
def wordsMeansRow : OpenClaim := { program := "ytcmblhedhgiofaadoor", sum := "8d97899b1d7581726e6056aaf70bb09272cad78da24a18816ee7e4f5b86b8427", func := "alembic/alembiclaw17.WordsMeans", spec := "wordsMeans", unfollowed := true, recurses := true, named := ["alembic/api.ErrMany", "alembic/api.ErrOp", "alembic/api.ErrRange", "alembic/api.ErrShape", "alembic/api.ErrLabel", "alembic/api.ErrLength"], apart := false, laid := [("alembic/api.ErrRange", laid_alembic_api_ErrRange), ("alembic/api.ErrLength", laid_alembic_api_ErrLength), ("alembic/api.ErrMany", laid_alembic_api_ErrMany), ("alembic/api.ErrShape", laid_alembic_api_ErrShape), ("alembic/api.ErrOp", laid_alembic_api_ErrOp), ("alembic/api.ErrLabel", laid_alembic_api_ErrLabel)] }
def WordsMeansSaid : Prop := wordsMeansRow.holds Tryd.pinned (OpenSpec.ofChange wordsMeansSpec)

/-- ITS FALSE NEIGHBOUR: 'it returns false'. Refute it at one input. -/
def wordsMeansWrong : ChangeSpec := { name := "wordsMeans", fn := fun _ => fun
  | [d1, d2, d3, d4] => { results := [.lit (.bool false)], args := [d1, d2, d3, d4] }
  | _ => none }
def WordsMeansWrongFalsely : Prop := wordsMeansRow.holds Tryd.pinned (OpenSpec.ofChange wordsMeansWrong)

/-- 'alembiclaw17.WordsLeak': WHATEVER THE INPUT: true; the input reads as it did. -/
def wordsLeakSpec : ChangeSpec := { name := "wordsLeak", fn := fun _ => fun
  | [d1, d2, d3] => { results := [.lit (.bool true)], args := [d1, d2, d3] }
  | _ => none }
def wordsLeakRow : OpenClaim := { program := "ytcmblhedhgiofaadoor", sum := "8d97899b1d7581726e6056aaf70bb09272cad78da24a18816ee7e4f5b86b8427", func := "alembic/alembiclaw17.WordsLeak", spec := "wordsLeak", unfollowed := true, recurses := true, named := ["alembic/api.ErrMany", "alembic/api.ErrOp", "alembic/api.ErrRange", "alembic/api.ErrShape", "alembic/api.ErrLabel", "alembic/api.ErrLength"], apart := false, laid := [("alembic/api.ErrRange", laid_alembic_api_ErrRange), ("alembic/api.ErrLength", laid_alembic_api_ErrLength), ("alembic/api.ErrMany", laid_alembic_api_ErrMany), ("alembic/api.ErrShape", laid_alembic_api_ErrShape), ("alembic/api.ErrOp", laid_alembic_api_ErrOp), ("alembic/api.ErrLabel", laid_alembic_api_ErrLabel)] }
def WordsLeakSaid : Prop := wordsLeakRow.holds Tryd.pinned (OpenSpec.ofChange wordsLeakSpec)

/-- ITS FALSE NEIGHBOUR: 'it returns false'. Refute it at one input. -/
def wordsLeakWrong : ChangeSpec := { name := "wordsLeak", fn := fun _ => fun
  | [d1, d2, d3] => { results := [.lit (.bool false)], args := [d1, d2, d3] }
  | _ => none }
def WordsLeakWrongFalsely : Prop := wordsLeakRow.holds Tryd.pinned (OpenSpec.ofChange wordsLeakWrong)

/-- 'alembiclaw17.WordsLoops': WHATEVER THE INPUT: true; the input reads as it did. -/
def wordsLoopsSpec : ChangeSpec := { name := "wordsLoops", fn := fun _ => fun
  | [d] => { results := [.lit (.bool true)], args := [d] }
  | _ => none }
def wordsLoopsRow : OpenClaim := { program := "ytcmblhedhgiofaadoor", sum := "8d97899b1d7581726e6056aaf70bb09272cad78da24a18816ee7e4f5b86b8427", func := "alembic/alembiclaw17.WordsLoops", spec := "wordsLoops", unfollowed := true, recurses := true, named := ["alembic/api.ErrMany", "alembic/api.ErrOp", "alembic/api.ErrRange", "alembic/api.ErrShape", "alembic/api.ErrLabel", "alembic/api.ErrLength"], apart := false, laid := [("alembic/api.ErrRange", laid_alembic_api_ErrRange), ("alembic/api.ErrLength", laid_alembic_api_ErrLength), ("alembic/api.ErrMany", laid_alembic_api_ErrMany), ("alembic/api.ErrShape", laid_alembic_api_ErrShape), ("alembic/api.ErrOp", laid_alembic_api_ErrOp), ("alembic/api.ErrLabel", laid_alembic_api_ErrLabel)] }
def WordsLoopsSaid : Prop := wordsLoopsRow.holds Tryd.pinned (OpenSpec.ofChange wordsLoopsSpec)

/-- ITS FALSE NEIGHBOUR: 'it returns false'. Refute it at one input. -/
def wordsLoopsWrong : ChangeSpec := { name := "wordsLoops", fn := fun _ => fun
  | [d] => { results := [.lit (.bool false)], args := [d] }
  | _ => none }
def WordsLoopsWrongFalsely : Prop := wordsLoopsRow.holds Tryd.pinned (OpenSpec.ofChange wordsLoopsWrong)

/-- 'alembiclaw17.WordsFaults': WHATEVER THE INPUT: true; the input reads as it did. -/
def wordsFaultsSpec : ChangeSpec := { name := "wordsFaults", fn := fun _ => fun
  | [d1, d2, d3] => { results := [.lit (.bool true)], args := [d1, d2, d3] }
  | _ => none }
def wordsFaultsRow : OpenClaim := { program := "ytcmblhedhgiofaadoor", sum := "8d97899b1d7581726e6056aaf70bb09272cad78da24a18816ee7e4f5b86b8427", func := "alembic/alembiclaw17.WordsFaults", spec := "wordsFaults", unfollowed := true, recurses := true, named := ["alembic/api.ErrMany", "alembic/api.ErrOp", "alembic/api.ErrRange", "alembic/api.ErrShape", "alembic/api.ErrLabel", "alembic/api.ErrLength"], apart := false, laid := [("alembic/api.ErrRange", laid_alembic_api_ErrRange), ("alembic/api.ErrLength", laid_alembic_api_ErrLength), ("alembic/api.ErrMany", laid_alembic_api_ErrMany), ("alembic/api.ErrShape", laid_alembic_api_ErrShape), ("alembic/api.ErrOp", laid_alembic_api_ErrOp), ("alembic/api.ErrLabel", laid_alembic_api_ErrLabel)] }
def WordsFaultsSaid : Prop := wordsFaultsRow.holds Tryd.pinned (OpenSpec.ofChange wordsFaultsSpec)

/-- ITS FALSE NEIGHBOUR: 'it returns false'. Refute it at one input. -/
def wordsFaultsWrong : ChangeSpec := { name := "wordsFaults", fn := fun _ => fun
  | [d1, d2, d3] => { results := [.lit (.bool false)], args := [d1, d2, d3] }
  | _ => none }
def WordsFaultsWrongFalsely : Prop := wordsFaultsRow.holds Tryd.pinned (OpenSpec.ofChange wordsFaultsWrong)

/-- 'alembiclaw18.BoundChecks': WHATEVER THE INPUT: true; the input reads as it did. -/
def boundChecksSpec : ChangeSpec := { name := "boundChecks", fn := fun _ => fun
  | [d1, d2, d3, d4, d5, d6, d7] => { results := [.lit (.bool true)], args := [d1, d2, d3, d4, d5, d6, d7] }
  | _ => none }
def boundChecksRow : OpenClaim := { program := "ytcmblhedhgiofaadoor", sum := "8d97899b1d7581726e6056aaf70bb09272cad78da24a18816ee7e4f5b86b8427", func := "alembic/alembiclaw18.BoundChecks", spec := "boundChecks", unfollowed := true, recurses := true, named := ["alembic/api.ErrLength", "alembic/api.ErrMany", "alembic/api.ErrOp", "alembic/api.ErrRange", "alembic/api.ErrShape", "alembic/api.ErrLabel", "alembic/api.ErrNone", "alembic/api.ErrVar", "alembic/api.ErrSecret", "alembic/api.ErrFar", "alembic/api.ErrFuel", "alembic/api.ErrFault", "alembic/api.ErrWord", "alembic/api.ErrNumber"], apart := false, laid := [("alembic/api.ErrRange", laid_alembic_api_ErrRange), ("alembic/api.ErrLength", laid_alembic_api_ErrLength), ("alembic/api.ErrMany", laid_alembic_api_ErrMany), ("alembic/api.ErrShape", laid_alembic_api_ErrShape), ("alembic/api.ErrNone", laid_alembic_api_ErrNone), ("alembic/api.ErrOp", laid_alembic_api_ErrOp), ("alembic/api.ErrVar", laid_alembic_api_ErrVar), ("alembic/api.ErrSecret", laid_alembic_api_ErrSecret), ("alembic/api.ErrLabel", laid_alembic_api_ErrLabel), ("alembic/api.ErrFar", laid_alembic_api_ErrFar), ("alembic/api.ErrFuel", laid_alembic_api_ErrFuel), ("alembic/api.ErrFault", laid_alembic_api_ErrFault), ("alembic/api.ErrWord", laid_alembic_api_ErrWord), ("alembic/api.ErrNumber", laid_alembic_api_ErrNumber)] }
def BoundChecksSaid : Prop := boundChecksRow.holds Tryd.pinned (OpenSpec.ofChange boundChecksSpec)

/-- ITS FALSE NEIGHBOUR: 'it returns false'. Refute it at one input. -/
def boundChecksWrong : ChangeSpec := { name := "boundChecks", fn := fun _ => fun
  | [d1, d2, d3, d4, d5, d6, d7] => { results := [.lit (.bool false)], args := [d1, d2, d3, d4, d5, d6, d7] }
  | _ => none }
def BoundChecksWrongFalsely : Prop := boundChecksRow.holds Tryd.pinned (OpenSpec.ofChange boundChecksWrong)

/-- 'alembiclaw18.BoundExact': WHATEVER THE INPUT: true; the input reads as it did. -/
def boundExactSpec : ChangeSpec := { name := "boundExact", fn := fun _ => fun
  | [d1, d2, d3] => { results := [.lit (.bool true)], args := [d1, d2, d3] }
  | _ => none }
def boundExactRow : OpenClaim := { program := "ytcmblhedhgiofaadoor", sum := "8d97899b1d7581726e6056aaf70bb09272cad78da24a18816ee7e4f5b86b8427", func := "alembic/alembiclaw18.BoundExact", spec := "boundExact", unfollowed := true, recurses := true, named := ["alembic/api.ErrLength", "alembic/api.ErrMany", "alembic/api.ErrOp", "alembic/api.ErrRange", "alembic/api.ErrShape", "alembic/api.ErrLabel"], apart := false, laid := [("alembic/api.ErrRange", laid_alembic_api_ErrRange), ("alembic/api.ErrLength", laid_alembic_api_ErrLength), ("alembic/api.ErrMany", laid_alembic_api_ErrMany), ("alembic/api.ErrShape", laid_alembic_api_ErrShape), ("alembic/api.ErrOp", laid_alembic_api_ErrOp), ("alembic/api.ErrLabel", laid_alembic_api_ErrLabel)] }
def BoundExactSaid : Prop := boundExactRow.holds Tryd.pinned (OpenSpec.ofChange boundExactSpec)

/-- ITS FALSE NEIGHBOUR: 'it returns false'. Refute it at one input. -/
def boundExactWrong : ChangeSpec := { name := "boundExact", fn := fun _ => fun
  | [d1, d2, d3] => { results := [.lit (.bool false)], args := [d1, d2, d3] }
  | _ => none }
def BoundExactWrongFalsely : Prop := boundExactRow.holds Tryd.pinned (OpenSpec.ofChange boundExactWrong)

/-- 'alembiclaw18.BoundSound': WHATEVER THE INPUT: true; the input reads as it did. -/
def boundSoundSpec : ChangeSpec := { name := "boundSound", fn := fun _ => fun
  | [d1, d2, d3] => { results := [.lit (.bool true)], args := [d1, d2, d3] }
  | _ => none }
def boundSoundRow : OpenClaim := { program := "ytcmblhedhgiofaadoor", sum := "8d97899b1d7581726e6056aaf70bb09272cad78da24a18816ee7e4f5b86b8427", func := "alembic/alembiclaw18.BoundSound", spec := "boundSound", unfollowed := true, recurses := true, named := ["alembic/api.ErrLength", "alembic/api.ErrMany", "alembic/api.ErrOp", "alembic/api.ErrRange", "alembic/api.ErrShape", "alembic/api.ErrLabel"], apart := false, laid := [("alembic/api.ErrRange", laid_alembic_api_ErrRange), ("alembic/api.ErrLength", laid_alembic_api_ErrLength), ("alembic/api.ErrMany", laid_alembic_api_ErrMany), ("alembic/api.ErrShape", laid_alembic_api_ErrShape), ("alembic/api.ErrOp", laid_alembic_api_ErrOp), ("alembic/api.ErrLabel", laid_alembic_api_ErrLabel)] }
def BoundSoundSaid : Prop := boundSoundRow.holds Tryd.pinned (OpenSpec.ofChange boundSoundSpec)

/-- ITS FALSE NEIGHBOUR: 'it returns false'. Refute it at one input. -/
def boundSoundWrong : ChangeSpec := { name := "boundSound", fn := fun _ => fun
  | [d1, d2, d3] => { results := [.lit (.bool false)], args := [d1, d2, d3] }
  | _ => none }
def BoundSoundWrongFalsely : Prop := boundSoundRow.holds Tryd.pinned (OpenSpec.ofChange boundSoundWrong)

/-- 'alembiclaw17.WordsValues': WHATEVER THE INPUT: true; the input reads as it did. -/
def wordsValuesSpec : ChangeSpec := { name := "wordsValues", fn := fun _ => fun
  | [d1, d2, d3, d4] => { results := [.lit (.bool true)], args := [d1, d2, d3, d4] }
  | _ => none }
def wordsValuesRow : OpenClaim := { program := "ytcmblhedhgiofaadoor", sum := "8d97899b1d7581726e6056aaf70bb09272cad78da24a18816ee7e4f5b86b8427", func := "alembic/alembiclaw17.WordsValues", spec := "wordsValues", unfollowed := true, recurses := true, named := ["alembic/api.ErrMany", "alembic/api.ErrOp", "alembic/api.ErrRange", "alembic/api.ErrShape", "alembic/api.ErrLabel", "alembic/api.ErrLength", "internal/strconv.uint64pow10", "math/bits.deBruijn32tab", "math/bits.deBruijn64tab"], apart := false, laid := [("math/bits.deBruijn32tab", laid_math_bits_deBruijn32tab), ("math/bits.deBruijn64tab", laid_math_bits_deBruijn64tab), ("internal/strconv.uint64pow10", laid_internal_strconv_uint64pow10), ("alembic/api.ErrRange", laid_alembic_api_ErrRange), ("alembic/api.ErrLength", laid_alembic_api_ErrLength), ("alembic/api.ErrMany", laid_alembic_api_ErrMany), ("alembic/api.ErrShape", laid_alembic_api_ErrShape), ("alembic/api.ErrOp", laid_alembic_api_ErrOp), ("alembic/api.ErrLabel", laid_alembic_api_ErrLabel)] }
def WordsValuesSaid : Prop := wordsValuesRow.holds Tryd.pinned (OpenSpec.ofChange wordsValuesSpec)

/-- ITS FALSE NEIGHBOUR: 'it returns false'. Refute it at one input. -/
def wordsValuesWrong : ChangeSpec := { name := "wordsValues", fn := fun _ => fun
  | [d1, d2, d3, d4] => { results := [.lit (.bool false)], args := [d1, d2, d3, d4] }
  | _ => none }
def WordsValuesWrongFalsely : Prop := wordsValuesRow.holds Tryd.pinned (OpenSpec.ofChange wordsValuesWrong)

/- THE SECOND FORM. 'bulk': how many values and letters a reading holds, each counted each time it is reached (what is shared counts as often as it is met; a slice's spare places count too). A statement '..UptoSaid' is the law's where the arguments, and the package variables that the reading takes, are together of bulk at most 1048576: NARROWER than '..Said'. Prove '..Said' where nothing that the law and all that it calls make is longer than what came in: it says more and counts as full. Else prove '..UptoSaid'. A law counts once. -/
mutual
def uptoBulk {H : Type} : DataW H → Nat
  | .lit (.string bytes) => bytes.length + 1
  | .lit _ => 1
  | .nil => 1
  | .ptr d => uptoBulk d + 1
  | .slice elems spare => uptoBulkAll elems + uptoBulkAll spare + 1
  | .agg parts => uptoBulkAll parts + 1
  | .iface _ d => uptoBulk d + 1
  | .map entries => uptoBulkEntries entries + 1
  | .held _ => 1
def uptoBulkAll {H : Type} : List (DataW H) → Nat
  | [] => 0
  | d :: r => uptoBulk d + uptoBulkAll r
def uptoBulkEntries {H : Type} : List (Lit × DataW H) → Nat
  | [] => 0
  | x :: r => uptoBulkEntry x + uptoBulkEntries r
def uptoBulkEntry {H : Type} : Lit × DataW H → Nat
  | (.string bytes, d) => bytes.length + uptoBulk d + 1
  | (_, d) => uptoBulk d + 1
 end
def uptoSmall : (H : Type) → List (DataW H) → Bool := fun _ ds => decide (uptoBulkAll ds ≤ 1048576)
def OpenSpec.upto (s : _root_.Go.ChangeSpec) : _root_.Go.OpenSpec := { _root_.Go.OpenSpec.ofChange s with cond := some uptoSmall }

/-- 'alembiclaw17.WordsRun', WHERE WHAT IT READS IS OF BULK AT MOST 1048576: true; the input reads as it did. -/
def wordsRunUptoRow : OpenClaim := { program := "ytcmblhedhgiofaadoor", sum := "8d97899b1d7581726e6056aaf70bb09272cad78da24a18816ee7e4f5b86b8427", func := "alembic/alembiclaw17.WordsRun", spec := "wordsRun", unfollowed := true, recurses := true, named := ["alembic/api.ErrMany", "alembic/api.ErrOp", "alembic/api.ErrRange", "alembic/api.ErrShape", "alembic/api.ErrLabel", "alembic/api.ErrLength", "alembic/api.ErrNone", "alembic/api.ErrVar", "alembic/api.ErrSecret", "alembic/api.ErrFar", "alembic/api.ErrFuel", "alembic/api.ErrFault", "alembic/api.ErrWord", "alembic/api.ErrNumber"], apart := false, laid := [("alembic/api.ErrRange", laid_alembic_api_ErrRange), ("alembic/api.ErrLength", laid_alembic_api_ErrLength), ("alembic/api.ErrMany", laid_alembic_api_ErrMany), ("alembic/api.ErrShape", laid_alembic_api_ErrShape), ("alembic/api.ErrNone", laid_alembic_api_ErrNone), ("alembic/api.ErrOp", laid_alembic_api_ErrOp), ("alembic/api.ErrVar", laid_alembic_api_ErrVar), ("alembic/api.ErrSecret", laid_alembic_api_ErrSecret), ("alembic/api.ErrLabel", laid_alembic_api_ErrLabel), ("alembic/api.ErrFar", laid_alembic_api_ErrFar), ("alembic/api.ErrFuel", laid_alembic_api_ErrFuel), ("alembic/api.ErrFault", laid_alembic_api_ErrFault), ("alembic/api.ErrWord", laid_alembic_api_ErrWord), ("alembic/api.ErrNumber", laid_alembic_api_ErrNumber)], narrowed := true }
def WordsRunUptoSaid : Prop := wordsRunUptoRow.holds Tryd.pinned (OpenSpec.upto wordsRunSpec)

/-- 'alembiclaw17.WordsMeans', WHERE WHAT IT READS IS OF BULK AT MOST 1048576: true; the input reads as it did. -/
def wordsMeansUptoRow : OpenClaim := { program := "ytcmblhedhgiofaadoor", sum := "8d97899b1d7581726e6056aaf70bb09272cad78da24a18816ee7e4f5b86b8427", func := "alembic/alembiclaw17.WordsMeans", spec := "wordsMeans", unfollowed := true, recurses := true, named := ["alembic/api.ErrMany", "alembic/api.ErrOp", "alembic/api.ErrRange", "alembic/api.ErrShape", "alembic/api.ErrLabel", "alembic/api.ErrLength"], apart := false, laid := [("alembic/api.ErrRange", laid_alembic_api_ErrRange), ("alembic/api.ErrLength", laid_alembic_api_ErrLength), ("alembic/api.ErrMany", laid_alembic_api_ErrMany), ("alembic/api.ErrShape", laid_alembic_api_ErrShape), ("alembic/api.ErrOp", laid_alembic_api_ErrOp), ("alembic/api.ErrLabel", laid_alembic_api_ErrLabel)], narrowed := true }
def WordsMeansUptoSaid : Prop := wordsMeansUptoRow.holds Tryd.pinned (OpenSpec.upto wordsMeansSpec)

/-- 'alembiclaw17.WordsLeak', WHERE WHAT IT READS IS OF BULK AT MOST 1048576: true; the input reads as it did. -/
def wordsLeakUptoRow : OpenClaim := { program := "ytcmblhedhgiofaadoor", sum := "8d97899b1d7581726e6056aaf70bb09272cad78da24a18816ee7e4f5b86b8427", func := "alembic/alembiclaw17.WordsLeak", spec := "wordsLeak", unfollowed := true, recurses := true, named := ["alembic/api.ErrMany", "alembic/api.ErrOp", "alembic/api.ErrRange", "alembic/api.ErrShape", "alembic/api.ErrLabel", "alembic/api.ErrLength"], apart := false, laid := [("alembic/api.ErrRange", laid_alembic_api_ErrRange), ("alembic/api.ErrLength", laid_alembic_api_ErrLength), ("alembic/api.ErrMany", laid_alembic_api_ErrMany), ("alembic/api.ErrShape", laid_alembic_api_ErrShape), ("alembic/api.ErrOp", laid_alembic_api_ErrOp), ("alembic/api.ErrLabel", laid_alembic_api_ErrLabel)], narrowed := true }
def WordsLeakUptoSaid : Prop := wordsLeakUptoRow.holds Tryd.pinned (OpenSpec.upto wordsLeakSpec)

/-- 'alembiclaw17.WordsLoops', WHERE WHAT IT READS IS OF BULK AT MOST 1048576: true; the input reads as it did. -/
def wordsLoopsUptoRow : OpenClaim := { program := "ytcmblhedhgiofaadoor", sum := "8d97899b1d7581726e6056aaf70bb09272cad78da24a18816ee7e4f5b86b8427", func := "alembic/alembiclaw17.WordsLoops", spec := "wordsLoops", unfollowed := true, recurses := true, named := ["alembic/api.ErrMany", "alembic/api.ErrOp", "alembic/api.ErrRange", "alembic/api.ErrShape", "alembic/api.ErrLabel", "alembic/api.ErrLength"], apart := false, laid := [("alembic/api.ErrRange", laid_alembic_api_ErrRange), ("alembic/api.ErrLength", laid_alembic_api_ErrLength), ("alembic/api.ErrMany", laid_alembic_api_ErrMany), ("alembic/api.ErrShape", laid_alembic_api_ErrShape), ("alembic/api.ErrOp", laid_alembic_api_ErrOp), ("alembic/api.ErrLabel", laid_alembic_api_ErrLabel)], narrowed := true }
def WordsLoopsUptoSaid : Prop := wordsLoopsUptoRow.holds Tryd.pinned (OpenSpec.upto wordsLoopsSpec)

/-- 'alembiclaw17.WordsFaults', WHERE WHAT IT READS IS OF BULK AT MOST 1048576: true; the input reads as it did. -/
def wordsFaultsUptoRow : OpenClaim := { program := "ytcmblhedhgiofaadoor", sum := "8d97899b1d7581726e6056aaf70bb09272cad78da24a18816ee7e4f5b86b8427", func := "alembic/alembiclaw17.WordsFaults", spec := "wordsFaults", unfollowed := true, recurses := true, named := ["alembic/api.ErrMany", "alembic/api.ErrOp", "alembic/api.ErrRange", "alembic/api.ErrShape", "alembic/api.ErrLabel", "alembic/api.ErrLength"], apart := false, laid := [("alembic/api.ErrRange", laid_alembic_api_ErrRange), ("alembic/api.ErrLength", laid_alembic_api_ErrLength), ("alembic/api.ErrMany", laid_alembic_api_ErrMany), ("alembic/api.ErrShape", laid_alembic_api_ErrShape), ("alembic/api.ErrOp", laid_alembic_api_ErrOp), ("alembic/api.ErrLabel", laid_alembic_api_ErrLabel)], narrowed := true }
def WordsFaultsUptoSaid : Prop := wordsFaultsUptoRow.holds Tryd.pinned (OpenSpec.upto wordsFaultsSpec)

/-- 'alembiclaw18.BoundChecks', WHERE WHAT IT READS IS OF BULK AT MOST 1048576: true; the input reads as it did. -/
def boundChecksUptoRow : OpenClaim := { program := "ytcmblhedhgiofaadoor", sum := "8d97899b1d7581726e6056aaf70bb09272cad78da24a18816ee7e4f5b86b8427", func := "alembic/alembiclaw18.BoundChecks", spec := "boundChecks", unfollowed := true, recurses := true, named := ["alembic/api.ErrLength", "alembic/api.ErrMany", "alembic/api.ErrOp", "alembic/api.ErrRange", "alembic/api.ErrShape", "alembic/api.ErrLabel", "alembic/api.ErrNone", "alembic/api.ErrVar", "alembic/api.ErrSecret", "alembic/api.ErrFar", "alembic/api.ErrFuel", "alembic/api.ErrFault", "alembic/api.ErrWord", "alembic/api.ErrNumber"], apart := false, laid := [("alembic/api.ErrRange", laid_alembic_api_ErrRange), ("alembic/api.ErrLength", laid_alembic_api_ErrLength), ("alembic/api.ErrMany", laid_alembic_api_ErrMany), ("alembic/api.ErrShape", laid_alembic_api_ErrShape), ("alembic/api.ErrNone", laid_alembic_api_ErrNone), ("alembic/api.ErrOp", laid_alembic_api_ErrOp), ("alembic/api.ErrVar", laid_alembic_api_ErrVar), ("alembic/api.ErrSecret", laid_alembic_api_ErrSecret), ("alembic/api.ErrLabel", laid_alembic_api_ErrLabel), ("alembic/api.ErrFar", laid_alembic_api_ErrFar), ("alembic/api.ErrFuel", laid_alembic_api_ErrFuel), ("alembic/api.ErrFault", laid_alembic_api_ErrFault), ("alembic/api.ErrWord", laid_alembic_api_ErrWord), ("alembic/api.ErrNumber", laid_alembic_api_ErrNumber)], narrowed := true }
def BoundChecksUptoSaid : Prop := boundChecksUptoRow.holds Tryd.pinned (OpenSpec.upto boundChecksSpec)

/-- 'alembiclaw18.BoundExact', WHERE WHAT IT READS IS OF BULK AT MOST 1048576: true; the input reads as it did. -/
def boundExactUptoRow : OpenClaim := { program := "ytcmblhedhgiofaadoor", sum := "8d97899b1d7581726e6056aaf70bb09272cad78da24a18816ee7e4f5b86b8427", func := "alembic/alembiclaw18.BoundExact", spec := "boundExact", unfollowed := true, recurses := true, named := ["alembic/api.ErrLength", "alembic/api.ErrMany", "alembic/api.ErrOp", "alembic/api.ErrRange", "alembic/api.ErrShape", "alembic/api.ErrLabel"], apart := false, laid := [("alembic/api.ErrRange", laid_alembic_api_ErrRange), ("alembic/api.ErrLength", laid_alembic_api_ErrLength), ("alembic/api.ErrMany", laid_alembic_api_ErrMany), ("alembic/api.ErrShape", laid_alembic_api_ErrShape), ("alembic/api.ErrOp", laid_alembic_api_ErrOp), ("alembic/api.ErrLabel", laid_alembic_api_ErrLabel)], narrowed := true }
def BoundExactUptoSaid : Prop := boundExactUptoRow.holds Tryd.pinned (OpenSpec.upto boundExactSpec)

/-- 'alembiclaw18.BoundSound', WHERE WHAT IT READS IS OF BULK AT MOST 1048576: true; the input reads as it did. -/
def boundSoundUptoRow : OpenClaim := { program := "ytcmblhedhgiofaadoor", sum := "8d97899b1d7581726e6056aaf70bb09272cad78da24a18816ee7e4f5b86b8427", func := "alembic/alembiclaw18.BoundSound", spec := "boundSound", unfollowed := true, recurses := true, named := ["alembic/api.ErrLength", "alembic/api.ErrMany", "alembic/api.ErrOp", "alembic/api.ErrRange", "alembic/api.ErrShape", "alembic/api.ErrLabel"], apart := false, laid := [("alembic/api.ErrRange", laid_alembic_api_ErrRange), ("alembic/api.ErrLength", laid_alembic_api_ErrLength), ("alembic/api.ErrMany", laid_alembic_api_ErrMany), ("alembic/api.ErrShape", laid_alembic_api_ErrShape), ("alembic/api.ErrOp", laid_alembic_api_ErrOp), ("alembic/api.ErrLabel", laid_alembic_api_ErrLabel)], narrowed := true }
def BoundSoundUptoSaid : Prop := boundSoundUptoRow.holds Tryd.pinned (OpenSpec.upto boundSoundSpec)

/-- 'alembiclaw17.WordsValues', WHERE WHAT IT READS IS OF BULK AT MOST 1048576: true; the input reads as it did. -/
def wordsValuesUptoRow : OpenClaim := { program := "ytcmblhedhgiofaadoor", sum := "8d97899b1d7581726e6056aaf70bb09272cad78da24a18816ee7e4f5b86b8427", func := "alembic/alembiclaw17.WordsValues", spec := "wordsValues", unfollowed := true, recurses := true, named := ["alembic/api.ErrMany", "alembic/api.ErrOp", "alembic/api.ErrRange", "alembic/api.ErrShape", "alembic/api.ErrLabel", "alembic/api.ErrLength", "internal/strconv.uint64pow10", "math/bits.deBruijn32tab", "math/bits.deBruijn64tab"], apart := false, laid := [("math/bits.deBruijn32tab", laid_math_bits_deBruijn32tab), ("math/bits.deBruijn64tab", laid_math_bits_deBruijn64tab), ("internal/strconv.uint64pow10", laid_internal_strconv_uint64pow10), ("alembic/api.ErrRange", laid_alembic_api_ErrRange), ("alembic/api.ErrLength", laid_alembic_api_ErrLength), ("alembic/api.ErrMany", laid_alembic_api_ErrMany), ("alembic/api.ErrShape", laid_alembic_api_ErrShape), ("alembic/api.ErrOp", laid_alembic_api_ErrOp), ("alembic/api.ErrLabel", laid_alembic_api_ErrLabel)], narrowed := true }
def WordsValuesUptoSaid : Prop := wordsValuesUptoRow.holds Tryd.pinned (OpenSpec.upto wordsValuesSpec)

end Rows
end Go.Proofs.YtcmblhedhgiofaaDoor
