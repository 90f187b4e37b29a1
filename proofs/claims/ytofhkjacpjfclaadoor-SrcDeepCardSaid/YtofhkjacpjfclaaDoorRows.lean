/-
  NARROWER THAN 'FOR EVERY INPUT', by the rows' own cells (each row's printed sentence says how): SrcDeep: laid · SrcOwn: loops, laid · ImageSays: laid · ImageBack: laid · ImageTurned: laid · SrcTexts: loops, laid · SrcSays: loops, laid.
  DERIVED. THE GIVEN ROWS OF THIS SEAT. 7 by the template 'for every input the law returns true; each argument reads behind the call as it read before'; 0 by the template 'total and deterministic' (their statements: YtofhkjacpjfclaaDoorTotals.lean).
  GIVEN WITH THE SEED: the statements are not yours to turn. If you find one false, say at which input.
  Laid BY PROGRAM, IN A SANDBOX (cutbox-rows.mjs): the forced cells as the released guide's own fill.sh prints them over the translation 6dbe9709936fb177… (all of the seat's roots in one cut). By AI agents, Wed Nov 11 2026. No macro, syntax, notation, axiom, sorry.
-/
import Derived.Test.YtofhkjacpjfclaaDoorChecked
import GoSem.Claim
import GoSem.ClaimJoined
import GoSem.ClaimMapViews
import Derived.JoinedTies
import Derived.KernelRfl
namespace Go.Proofs.YtofhkjacpjfclaaDoor
/- THE CELL 'sum', in the pinned program and in every row, IS THE sha256 OF THE DUMP (.gsa) THAT YtofhkjacpjfclaaDoorProg.lean LOADS. Nothing in Lean hashes anything: it is a label: what it is worth is what the hold of that sum in a sandbox is worth. -/
noncomputable def Tryd.pinned : Pinned := { name := "ytofhkjacpjfclaadoor", sum := "6dbe9709936fb1776f5527c4609ce689855bc07f192762e18a5bed8e49ab25e8", checked := Tryd.checked }
namespace Rows
def none {H : Type} : Left H := { results := [], args := [] }

/- WHAT THE LISTED PACKAGE-LEVEL VARIABLES READ AS WHEN THE CALL BEGINS. Each datum BY PROGRAM (the guide's laid-datum.mjs) off the statement by which the dump's own 'gosem.cut.vars' lays the variable. In a bare row this is a premise. The card (YtofhkjacpjfclaaDoorCards.lean) ties it to the program's text. -/
def laid_alembic_api_ErrRange {H : Type} : DataW H := .iface "*errors.errorString" (.ptr (.agg [.lit (.string [97, 32, 110, 117, 109, 98, 101, 114, 32, 111, 117, 116, 32, 111, 102, 32, 105, 116, 115, 32, 114, 97, 110, 103, 101])]))
def laid_alembic_api_ErrLength {H : Type} : DataW H := .iface "*errors.errorString" (.ptr (.agg [.lit (.string [110, 111, 116, 32, 97, 115, 32, 108, 111, 110, 103, 32, 97, 115, 32, 105, 116, 32, 104, 97, 115, 32, 116, 111, 32, 98, 101])]))
def laid_alembic_api_ErrMany {H : Type} : DataW H := .iface "*errors.errorString" (.ptr (.agg [.lit (.string [116, 111, 111, 32, 109, 97, 110, 121])]))
def laid_alembic_api_ErrShape {H : Type} : DataW H := .iface "*errors.errorString" (.ptr (.agg [.lit (.string [110, 111, 116, 32, 97, 115, 32, 105, 116, 32, 104, 97, 115, 32, 116, 111, 32, 98, 101])]))
def laid_alembic_api_ErrNone {H : Type} : DataW H := .iface "*errors.errorString" (.ptr (.agg [.lit (.string [116, 104, 101, 114, 101, 32, 105, 115, 32, 110, 111, 110, 101])]))
def laid_alembic_api_ErrOp {H : Type} : DataW H := .iface "*errors.errorString" (.ptr (.agg [.lit (.string [110, 111, 32, 115, 117, 99, 104, 32, 116, 104, 105, 110, 103, 32, 116, 111, 32, 100, 111])]))
def laid_alembic_api_ErrVar {H : Type} : DataW H := .iface "*errors.errorString" (.ptr (.agg [.lit (.string [110, 111, 32, 115, 117, 99, 104, 32, 118, 97, 114, 105, 97, 98, 108, 101])]))
def laid_alembic_api_ErrSecret {H : Type} : DataW H := .iface "*errors.errorString" (.ptr (.agg [.lit (.string [97, 32, 115, 101, 99, 114, 101, 116, 32, 119, 104, 101, 114, 101, 32, 105, 116, 32, 109, 97, 121, 32, 110, 111, 116, 32, 98, 101])]))
def laid_alembic_api_ErrLabel {H : Type} : DataW H := .iface "*errors.errorString" (.ptr (.agg [.lit (.string [110, 111, 32, 115, 117, 99, 104, 32, 112, 108, 97, 99, 101])]))
def laid_alembic_api_ErrFar {H : Type} : DataW H := .iface "*errors.errorString" (.ptr (.agg [.lit (.string [116, 111, 111, 32, 102, 97, 114])]))
def laid_alembic_api_ErrFuel {H : Type} : DataW H := .iface "*errors.errorString" (.ptr (.agg [.lit (.string [105, 116, 32, 116, 97, 107, 101, 115, 32, 116, 111, 111, 32, 108, 111, 110, 103])]))
def laid_alembic_api_ErrFault {H : Type} : DataW H := .iface "*errors.errorString" (.ptr (.agg [.lit (.string [119, 104, 101, 114, 101, 32, 116, 104, 101, 114, 101, 32, 105, 115, 32, 110, 111, 116, 104, 105, 110, 103])]))
def laid_alembic_api_ErrWord {H : Type} : DataW H := .iface "*errors.errorString" (.ptr (.agg [.lit (.string [110, 111, 32, 115, 117, 99, 104, 32, 119, 111, 114, 100])]))
def laid_alembic_api_ErrNumber {H : Type} : DataW H := .iface "*errors.errorString" (.ptr (.agg [.lit (.string [110, 111, 116, 32, 97, 32, 110, 117, 109, 98, 101, 114])]))
def laid_math_bits_deBruijn32tab {H : Type} : DataW H := .agg [.lit (.int .u8 0), .lit (.int .u8 1), .lit (.int .u8 28), .lit (.int .u8 2), .lit (.int .u8 29), .lit (.int .u8 14), .lit (.int .u8 24), .lit (.int .u8 3), .lit (.int .u8 30), .lit (.int .u8 22), .lit (.int .u8 20), .lit (.int .u8 15), .lit (.int .u8 25), .lit (.int .u8 17), .lit (.int .u8 4), .lit (.int .u8 8), .lit (.int .u8 31), .lit (.int .u8 27), .lit (.int .u8 13), .lit (.int .u8 23), .lit (.int .u8 21), .lit (.int .u8 19), .lit (.int .u8 16), .lit (.int .u8 7), .lit (.int .u8 26), .lit (.int .u8 12), .lit (.int .u8 18), .lit (.int .u8 6), .lit (.int .u8 11), .lit (.int .u8 5), .lit (.int .u8 10), .lit (.int .u8 9)]
def laid_math_bits_deBruijn64tab {H : Type} : DataW H := .agg [.lit (.int .u8 0), .lit (.int .u8 1), .lit (.int .u8 56), .lit (.int .u8 2), .lit (.int .u8 57), .lit (.int .u8 49), .lit (.int .u8 28), .lit (.int .u8 3), .lit (.int .u8 61), .lit (.int .u8 58), .lit (.int .u8 42), .lit (.int .u8 50), .lit (.int .u8 38), .lit (.int .u8 29), .lit (.int .u8 17), .lit (.int .u8 4), .lit (.int .u8 62), .lit (.int .u8 47), .lit (.int .u8 59), .lit (.int .u8 36), .lit (.int .u8 45), .lit (.int .u8 43), .lit (.int .u8 51), .lit (.int .u8 22), .lit (.int .u8 53), .lit (.int .u8 39), .lit (.int .u8 33), .lit (.int .u8 30), .lit (.int .u8 24), .lit (.int .u8 18), .lit (.int .u8 12), .lit (.int .u8 5), .lit (.int .u8 63), .lit (.int .u8 55), .lit (.int .u8 48), .lit (.int .u8 27), .lit (.int .u8 60), .lit (.int .u8 41), .lit (.int .u8 37), .lit (.int .u8 16), .lit (.int .u8 46), .lit (.int .u8 35), .lit (.int .u8 44), .lit (.int .u8 21), .lit (.int .u8 52), .lit (.int .u8 32), .lit (.int .u8 23), .lit (.int .u8 11), .lit (.int .u8 54), .lit (.int .u8 26), .lit (.int .u8 40), .lit (.int .u8 15), .lit (.int .u8 34), .lit (.int .u8 20), .lit (.int .u8 31), .lit (.int .u8 10), .lit (.int .u8 25), .lit (.int .u8 14), .lit (.int .u8 19), .lit (.int .u8 9), .lit (.int .u8 13), .lit (.int .u8 8), .lit (.int .u8 7), .lit (.int .u8 6)]
def laid_internal_strconv_uint64pow10 {H : Type} : DataW H := .agg [.lit (.int .u64 1), .lit (.int .u64 10), .lit (.int .u64 100), .lit (.int .u64 1000), .lit (.int .u64 10000), .lit (.int .u64 100000), .lit (.int .u64 1000000), .lit (.int .u64 10000000), .lit (.int .u64 100000000), .lit (.int .u64 1000000000), .lit (.int .u64 10000000000), .lit (.int .u64 100000000000), .lit (.int .u64 1000000000000), .lit (.int .u64 10000000000000), .lit (.int .u64 100000000000000), .lit (.int .u64 1000000000000000), .lit (.int .u64 10000000000000000), .lit (.int .u64 100000000000000000), .lit (.int .u64 1000000000000000000), .lit (.int .u64 10000000000000000000)]

/-- 'alembiclaw13.SrcDeep': WHATEVER THE INPUT: true; the input reads as it did. -/
def srcDeepSpec : ChangeSpec := { name := "srcDeep", fn := fun _ => fun
  | [d1, d2] => { results := [.lit (.bool true)], args := [d1, d2] }
  | _ => none }
def srcDeepRow : OpenClaim := { program := "ytofhkjacpjfclaadoor", sum := "6dbe9709936fb1776f5527c4609ce689855bc07f192762e18a5bed8e49ab25e8", func := "alembic/alembiclaw13.SrcDeep", spec := "srcDeep", unfollowed := true, recurses := true, named := ["alembic/api.ErrMany", "alembic/api.ErrRange", "alembic/api.ErrOp", "alembic/api.ErrVar", "alembic/api.ErrShape", "alembic/api.ErrLength", "alembic/api.ErrNone", "alembic/api.ErrSecret", "alembic/api.ErrLabel", "alembic/api.ErrFar", "alembic/api.ErrFuel", "alembic/api.ErrFault", "alembic/api.ErrWord", "alembic/api.ErrNumber"], apart := false, laid := [("alembic/api.ErrRange", laid_alembic_api_ErrRange), ("alembic/api.ErrLength", laid_alembic_api_ErrLength), ("alembic/api.ErrMany", laid_alembic_api_ErrMany), ("alembic/api.ErrShape", laid_alembic_api_ErrShape), ("alembic/api.ErrNone", laid_alembic_api_ErrNone), ("alembic/api.ErrOp", laid_alembic_api_ErrOp), ("alembic/api.ErrVar", laid_alembic_api_ErrVar), ("alembic/api.ErrSecret", laid_alembic_api_ErrSecret), ("alembic/api.ErrLabel", laid_alembic_api_ErrLabel), ("alembic/api.ErrFar", laid_alembic_api_ErrFar), ("alembic/api.ErrFuel", laid_alembic_api_ErrFuel), ("alembic/api.ErrFault", laid_alembic_api_ErrFault), ("alembic/api.ErrWord", laid_alembic_api_ErrWord), ("alembic/api.ErrNumber", laid_alembic_api_ErrNumber)] }
def SrcDeepSaid : Prop := srcDeepRow.holds Tryd.pinned (OpenSpec.ofChange srcDeepSpec)

/-- ITS FALSE NEIGHBOUR: 'it returns false'. Refute it at one input. -/
def srcDeepWrong : ChangeSpec := { name := "srcDeep", fn := fun _ => fun
  | [d1, d2] => { results := [.lit (.bool false)], args := [d1, d2] }
  | _ => none }
def SrcDeepWrongFalsely : Prop := srcDeepRow.holds Tryd.pinned (OpenSpec.ofChange srcDeepWrong)

/-- 'alembiclaw13.SrcOwn': WHATEVER THE INPUT: true; the input reads as it did. -/
def srcOwnSpec : ChangeSpec := { name := "srcOwn", fn := fun _ => fun
  | [d] => { results := [.lit (.bool true)], args := [d] }
  | _ => none }
def srcOwnRow : OpenClaim := { program := "ytofhkjacpjfclaadoor", sum := "6dbe9709936fb1776f5527c4609ce689855bc07f192762e18a5bed8e49ab25e8", func := "alembic/alembiclaw13.SrcOwn", spec := "srcOwn", unfollowed := true, recurses := true, named := ["alembic/api.ErrMany", "alembic/api.ErrRange", "alembic/api.ErrOp", "alembic/api.ErrVar", "alembic/api.ErrShape"], loops := true, apart := false, laid := [("alembic/api.ErrRange", laid_alembic_api_ErrRange), ("alembic/api.ErrMany", laid_alembic_api_ErrMany), ("alembic/api.ErrShape", laid_alembic_api_ErrShape), ("alembic/api.ErrOp", laid_alembic_api_ErrOp), ("alembic/api.ErrVar", laid_alembic_api_ErrVar)] }
def SrcOwnSaid : Prop := srcOwnRow.holds Tryd.pinned (OpenSpec.ofChange srcOwnSpec)

/-- ITS FALSE NEIGHBOUR: 'it returns false'. Refute it at one input. -/
def srcOwnWrong : ChangeSpec := { name := "srcOwn", fn := fun _ => fun
  | [d] => { results := [.lit (.bool false)], args := [d] }
  | _ => none }
def SrcOwnWrongFalsely : Prop := srcOwnRow.holds Tryd.pinned (OpenSpec.ofChange srcOwnWrong)

/-- 'alembiclaw25.ImageSays': WHATEVER THE INPUT: true; the input reads as it did. -/
def imageSaysSpec : ChangeSpec := { name := "imageSays", fn := fun _ => fun
  | [d1, d2, d3] => { results := [.lit (.bool true)], args := [d1, d2, d3] }
  | _ => none }
def imageSaysRow : OpenClaim := { program := "ytofhkjacpjfclaadoor", sum := "6dbe9709936fb1776f5527c4609ce689855bc07f192762e18a5bed8e49ab25e8", func := "alembic/alembiclaw25.ImageSays", spec := "imageSays", unfollowed := true, recurses := true, named := ["alembic/api.ErrMany", "alembic/api.ErrRange", "alembic/api.ErrOp", "alembic/api.ErrLength", "alembic/api.ErrShape", "alembic/api.ErrNone", "alembic/api.ErrVar", "alembic/api.ErrSecret", "alembic/api.ErrLabel", "alembic/api.ErrFar", "alembic/api.ErrFuel", "alembic/api.ErrFault", "alembic/api.ErrWord", "alembic/api.ErrNumber"], apart := false, laid := [("alembic/api.ErrRange", laid_alembic_api_ErrRange), ("alembic/api.ErrLength", laid_alembic_api_ErrLength), ("alembic/api.ErrMany", laid_alembic_api_ErrMany), ("alembic/api.ErrShape", laid_alembic_api_ErrShape), ("alembic/api.ErrNone", laid_alembic_api_ErrNone), ("alembic/api.ErrOp", laid_alembic_api_ErrOp), ("alembic/api.ErrVar", laid_alembic_api_ErrVar), ("alembic/api.ErrSecret", laid_alembic_api_ErrSecret), ("alembic/api.ErrLabel", laid_alembic_api_ErrLabel), ("alembic/api.ErrFar", laid_alembic_api_ErrFar), ("alembic/api.ErrFuel", laid_alembic_api_ErrFuel), ("alembic/api.ErrFault", laid_alembic_api_ErrFault), ("alembic/api.ErrWord", laid_alembic_api_ErrWord), ("alembic/api.ErrNumber", laid_alembic_api_ErrNumber)] }
def ImageSaysSaid : Prop := imageSaysRow.holds Tryd.pinned (OpenSpec.ofChange imageSaysSpec)

/-- ITS FALSE NEIGHBOUR: 'it returns false'. Refute it at one input. -/
def imageSaysWrong : ChangeSpec := { name := "imageSays", fn := fun _ => fun
  | [d1, d2, d3] => { results := [.lit (.bool false)], args := [d1, d2, d3] }
  | _ => none }
def ImageSaysWrongFalsely : Prop := imageSaysRow.holds Tryd.pinned (OpenSpec.ofChange imageSaysWrong)

/-- 'alembiclaw25.ImageBack': WHATEVER THE INPUT: true; the input reads as it did. -/
def imageBackSpec : ChangeSpec := { name := "imageBack", fn := fun _ => fun
  | [d1, d2, d3] => { results := [.lit (.bool true)], args := [d1, d2, d3] }
  | _ => none }
def imageBackRow : OpenClaim := { program := "ytofhkjacpjfclaadoor", sum := "6dbe9709936fb1776f5527c4609ce689855bc07f192762e18a5bed8e49ab25e8", func := "alembic/alembiclaw25.ImageBack", spec := "imageBack", unfollowed := true, recurses := true, named := ["alembic/api.ErrMany", "alembic/api.ErrRange", "alembic/api.ErrOp", "alembic/api.ErrLength", "alembic/api.ErrShape", "alembic/api.ErrNone", "alembic/api.ErrVar", "alembic/api.ErrSecret", "alembic/api.ErrLabel", "alembic/api.ErrFar", "alembic/api.ErrFuel", "alembic/api.ErrFault", "alembic/api.ErrWord", "alembic/api.ErrNumber"], apart := false, laid := [("alembic/api.ErrRange", laid_alembic_api_ErrRange), ("alembic/api.ErrLength", laid_alembic_api_ErrLength), ("alembic/api.ErrMany", laid_alembic_api_ErrMany), ("alembic/api.ErrShape", laid_alembic_api_ErrShape), ("alembic/api.ErrNone", laid_alembic_api_ErrNone), ("alembic/api.ErrOp", laid_alembic_api_ErrOp), ("alembic/api.ErrVar", laid_alembic_api_ErrVar), ("alembic/api.ErrSecret", laid_alembic_api_ErrSecret), ("alembic/api.ErrLabel", laid_alembic_api_ErrLabel), ("alembic/api.ErrFar", laid_alembic_api_ErrFar), ("alembic/api.ErrFuel", laid_alembic_api_ErrFuel), ("alembic/api.ErrFault", laid_alembic_api_ErrFault), ("alembic/api.ErrWord", laid_alembic_api_ErrWord), ("alembic/api.ErrNumber", laid_alembic_api_ErrNumber)] }
def ImageBackSaid : Prop := imageBackRow.holds Tryd.pinned (OpenSpec.ofChange imageBackSpec)

/-- ITS FALSE NEIGHBOUR: 'it returns false'. Refute it at one input. -/
def imageBackWrong : ChangeSpec := { name := "imageBack", fn := fun _ => fun
  | [d1, d2, d3] => { results := [.lit (.bool false)], args := [d1, d2, d3] }
  | _ => none }
def ImageBackWrongFalsely : Prop := imageBackRow.holds Tryd.pinned (OpenSpec.ofChange imageBackWrong)

/-- 'alembiclaw25.ImageTurned': WHATEVER THE INPUT: true; the input reads as it did. -/
def imageTurnedSpec : ChangeSpec := { name := "imageTurned", fn := fun _ => fun
  | [d1, d2, d3] => { results := [.lit (.bool true)], args := [d1, d2, d3] }
  | _ => none }
def imageTurnedRow : OpenClaim := { program := "ytofhkjacpjfclaadoor", sum := "6dbe9709936fb1776f5527c4609ce689855bc07f192762e18a5bed8e49ab25e8", func := "alembic/alembiclaw25.ImageTurned", spec := "imageTurned", unfollowed := true, recurses := true, named := ["alembic/api.ErrMany", "alembic/api.ErrRange", "alembic/api.ErrOp", "alembic/api.ErrLength", "alembic/api.ErrShape"], apart := false, laid := [("alembic/api.ErrRange", laid_alembic_api_ErrRange), ("alembic/api.ErrLength", laid_alembic_api_ErrLength), ("alembic/api.ErrMany", laid_alembic_api_ErrMany), ("alembic/api.ErrShape", laid_alembic_api_ErrShape), ("alembic/api.ErrOp", laid_alembic_api_ErrOp)] }
def ImageTurnedSaid : Prop := imageTurnedRow.holds Tryd.pinned (OpenSpec.ofChange imageTurnedSpec)

/-- ITS FALSE NEIGHBOUR: 'it returns false'. Refute it at one input. -/
def imageTurnedWrong : ChangeSpec := { name := "imageTurned", fn := fun _ => fun
  | [d1, d2, d3] => { results := [.lit (.bool false)], args := [d1, d2, d3] }
  | _ => none }
def ImageTurnedWrongFalsely : Prop := imageTurnedRow.holds Tryd.pinned (OpenSpec.ofChange imageTurnedWrong)

/-- 'alembiclaw13.SrcTexts': WHATEVER THE INPUT: true; the input reads as it did. -/
def srcTextsSpec : ChangeSpec := { name := "srcTexts", fn := fun _ => fun
  | [d] => { results := [.lit (.bool true)], args := [d] }
  | _ => none }
def srcTextsRow : OpenClaim := { program := "ytofhkjacpjfclaadoor", sum := "6dbe9709936fb1776f5527c4609ce689855bc07f192762e18a5bed8e49ab25e8", func := "alembic/alembiclaw13.SrcTexts", spec := "srcTexts", inPlace := ["internal/abi.NoEscape", "internal/bytealg.MakeNoZero"], unfollowed := true, recurses := true, named := ["alembic/api.ErrMany", "alembic/api.ErrRange", "alembic/api.ErrOp", "alembic/api.ErrVar", "alembic/api.ErrShape", "internal/strconv.uint64pow10", "math/bits.deBruijn32tab", "math/bits.deBruijn64tab"], loops := true, apart := false, laid := [("math/bits.deBruijn32tab", laid_math_bits_deBruijn32tab), ("math/bits.deBruijn64tab", laid_math_bits_deBruijn64tab), ("internal/strconv.uint64pow10", laid_internal_strconv_uint64pow10), ("alembic/api.ErrRange", laid_alembic_api_ErrRange), ("alembic/api.ErrMany", laid_alembic_api_ErrMany), ("alembic/api.ErrShape", laid_alembic_api_ErrShape), ("alembic/api.ErrOp", laid_alembic_api_ErrOp), ("alembic/api.ErrVar", laid_alembic_api_ErrVar)] }
def SrcTextsSaid : Prop := srcTextsRow.holds Tryd.pinned (OpenSpec.ofChange srcTextsSpec)

/-- ITS FALSE NEIGHBOUR: 'it returns false'. Refute it at one input. -/
def srcTextsWrong : ChangeSpec := { name := "srcTexts", fn := fun _ => fun
  | [d] => { results := [.lit (.bool false)], args := [d] }
  | _ => none }
def SrcTextsWrongFalsely : Prop := srcTextsRow.holds Tryd.pinned (OpenSpec.ofChange srcTextsWrong)

/-- 'alembiclaw13.SrcSays': WHATEVER THE INPUT: true; the input reads as it did. -/
def srcSaysSpec : ChangeSpec := { name := "srcSays", fn := fun _ => fun
  | [d1, d2, d3, d4] => { results := [.lit (.bool true)], args := [d1, d2, d3, d4] }
  | _ => none }
def srcSaysRow : OpenClaim := { program := "ytofhkjacpjfclaadoor", sum := "6dbe9709936fb1776f5527c4609ce689855bc07f192762e18a5bed8e49ab25e8", func := "alembic/alembiclaw13.SrcSays", spec := "srcSays", inPlace := ["internal/abi.NoEscape", "internal/bytealg.MakeNoZero"], unfollowed := true, recurses := true, named := ["alembic/api.ErrMany", "alembic/api.ErrRange", "alembic/api.ErrOp", "alembic/api.ErrVar", "alembic/api.ErrShape", "alembic/api.ErrLength", "alembic/api.ErrNone", "alembic/api.ErrSecret", "alembic/api.ErrLabel", "alembic/api.ErrFar", "alembic/api.ErrFuel", "alembic/api.ErrFault", "alembic/api.ErrWord", "alembic/api.ErrNumber", "internal/strconv.uint64pow10", "math/bits.deBruijn32tab", "math/bits.deBruijn64tab"], loops := true, apart := false, laid := [("math/bits.deBruijn32tab", laid_math_bits_deBruijn32tab), ("math/bits.deBruijn64tab", laid_math_bits_deBruijn64tab), ("internal/strconv.uint64pow10", laid_internal_strconv_uint64pow10), ("alembic/api.ErrRange", laid_alembic_api_ErrRange), ("alembic/api.ErrLength", laid_alembic_api_ErrLength), ("alembic/api.ErrMany", laid_alembic_api_ErrMany), ("alembic/api.ErrShape", laid_alembic_api_ErrShape), ("alembic/api.ErrNone", laid_alembic_api_ErrNone), ("alembic/api.ErrOp", laid_alembic_api_ErrOp), ("alembic/api.ErrVar", laid_alembic_api_ErrVar), ("alembic/api.ErrSecret", laid_alembic_api_ErrSecret), ("alembic/api.ErrLabel", laid_alembic_api_ErrLabel), ("alembic/api.ErrFar", laid_alembic_api_ErrFar), ("alembic/api.ErrFuel", laid_alembic_api_ErrFuel), ("alembic/api.ErrFault", laid_alembic_api_ErrFault), ("alembic/api.ErrWord", laid_alembic_api_ErrWord), ("alembic/api.ErrNumber", laid_alembic_api_ErrNumber)] }
def SrcSaysSaid : Prop := srcSaysRow.holds Tryd.pinned (OpenSpec.ofChange srcSaysSpec)

/-- ITS FALSE NEIGHBOUR: 'it returns false'. Refute it at one input. -/
def srcSaysWrong : ChangeSpec := { name := "srcSays", fn := fun _ => fun
  | [d1, d2, d3, d4] => { results := [.lit (.bool false)], args := [d1, d2, d3, d4] }
  | _ => none }
def SrcSaysWrongFalsely : Prop := srcSaysRow.holds Tryd.pinned (OpenSpec.ofChange srcSaysWrong)

/- THE SECOND FORM. 'bulk': how many values and letters a reading holds, each counted each time it is reached (what is shared counts as often as it is met; a slice's spare places count too). A statement '..UptoSaid' is the law's where the arguments, and the package variables that the reading takes, are together of bulk at most 1048576: NARROWER than '..Said'. Prove '..Said' where nothing that the law and all that it calls make is longer than what came in: it says more and counts as full. Else prove '..UptoSaid'. A law counts once. -/
mutual
def uptoBulk {H : Type} : DataW H → Nat
  | .lit (.string bytes) => bytes.length + 1
  | .lit _ => 1
  | .nil => 1
  | .ptr d => uptoBulk d + 1
  | .slice elems spare => uptoBulkAll elems + uptoBulkAll spare + 1
  | .agg parts => uptoBulkAll parts + 1
  | .iface _ d => uptoBulk d + 1
  | .map entries => uptoBulkEntries entries + 1
  | .held _ => 1
def uptoBulkAll {H : Type} : List (DataW H) → Nat
  | [] => 0
  | d :: r => uptoBulk d + uptoBulkAll r
def uptoBulkEntries {H : Type} : List (Lit × DataW H) → Nat
  | [] => 0
  | x :: r => uptoBulkEntry x + uptoBulkEntries r
def uptoBulkEntry {H : Type} : Lit × DataW H → Nat
  | (.string bytes, d) => bytes.length + uptoBulk d + 1
  | (_, d) => uptoBulk d + 1
 end
def uptoSmall : (H : Type) → List (DataW H) → Bool := fun _ ds => decide (uptoBulkAll ds ≤ 1048576)
def OpenSpec.upto (s : _root_.Go.ChangeSpec) : _root_.Go.OpenSpec := { _root_.Go.OpenSpec.ofChange s with cond := some uptoSmall }

/-- 'alembiclaw13.SrcDeep', WHERE WHAT IT READS IS OF BULK AT MOST 1048576: true; the input reads as it did. -/
def srcDeepUptoRow : OpenClaim := { program := "ytofhkjacpjfclaadoor", sum := "6dbe9709936fb1776f5527c4609ce689855bc07f192762e18a5bed8e49ab25e8", func := "alembic/alembiclaw13.SrcDeep", spec := "srcDeep", unfollowed := true, recurses := true, named := ["alembic/api.ErrMany", "alembic/api.ErrRange", "alembic/api.ErrOp", "alembic/api.ErrVar", "alembic/api.ErrShape", "alembic/api.ErrLength", "alembic/api.ErrNone", "alembic/api.ErrSecret", "alembic/api.ErrLabel", "alembic/api.ErrFar", "alembic/api.ErrFuel", "alembic/api.ErrFault", "alembic/api.ErrWord", "alembic/api.ErrNumber"], apart := false, laid := [("alembic/api.ErrRange", laid_alembic_api_ErrRange), ("alembic/api.ErrLength", laid_alembic_api_ErrLength), ("alembic/api.ErrMany", laid_alembic_api_ErrMany), ("alembic/api.ErrShape", laid_alembic_api_ErrShape), ("alembic/api.ErrNone", laid_alembic_api_ErrNone), ("alembic/api.ErrOp", laid_alembic_api_ErrOp), ("alembic/api.ErrVar", laid_alembic_api_ErrVar), ("alembic/api.ErrSecret", laid_alembic_api_ErrSecret), ("alembic/api.ErrLabel", laid_alembic_api_ErrLabel), ("alembic/api.ErrFar", laid_alembic_api_ErrFar), ("alembic/api.ErrFuel", laid_alembic_api_ErrFuel), ("alembic/api.ErrFault", laid_alembic_api_ErrFault), ("alembic/api.ErrWord", laid_alembic_api_ErrWord), ("alembic/api.ErrNumber", laid_alembic_api_ErrNumber)], narrowed := true }
def SrcDeepUptoSaid : Prop := srcDeepUptoRow.holds Tryd.pinned (OpenSpec.upto srcDeepSpec)

/-- 'alembiclaw13.SrcOwn', WHERE WHAT IT READS IS OF BULK AT MOST 1048576: true; the input reads as it did. -/
def srcOwnUptoRow : OpenClaim := { program := "ytofhkjacpjfclaadoor", sum := "6dbe9709936fb1776f5527c4609ce689855bc07f192762e18a5bed8e49ab25e8", func := "alembic/alembiclaw13.SrcOwn", spec := "srcOwn", unfollowed := true, recurses := true, named := ["alembic/api.ErrMany", "alembic/api.ErrRange", "alembic/api.ErrOp", "alembic/api.ErrVar", "alembic/api.ErrShape"], loops := true, apart := false, laid := [("alembic/api.ErrRange", laid_alembic_api_ErrRange), ("alembic/api.ErrMany", laid_alembic_api_ErrMany), ("alembic/api.ErrShape", laid_alembic_api_ErrShape), ("alembic/api.ErrOp", laid_alembic_api_ErrOp), ("alembic/api.ErrVar", laid_alembic_api_ErrVar)], narrowed := true }
def SrcOwnUptoSaid : Prop := srcOwnUptoRow.holds Tryd.pinned (OpenSpec.upto srcOwnSpec)

/-- 'alembiclaw25.ImageSays', WHERE WHAT IT READS IS OF BULK AT MOST 1048576: true; the input reads as it did. -/
def imageSaysUptoRow : OpenClaim := { program := "ytofhkjacpjfclaadoor", sum := "6dbe9709936fb1776f5527c4609ce689855bc07f192762e18a5bed8e49ab25e8", func := "alembic/alembiclaw25.ImageSays", spec := "imageSays", unfollowed := true, recurses := true, named := ["alembic/api.ErrMany", "alembic/api.ErrRange", "alembic/api.ErrOp", "alembic/api.ErrLength", "alembic/api.ErrShape", "alembic/api.ErrNone", "alembic/api.ErrVar", "alembic/api.ErrSecret", "alembic/api.ErrLabel", "alembic/api.ErrFar", "alembic/api.ErrFuel", "alembic/api.ErrFault", "alembic/api.ErrWord", "alembic/api.ErrNumber"], apart := false, laid := [("alembic/api.ErrRange", laid_alembic_api_ErrRange), ("alembic/api.ErrLength", laid_alembic_api_ErrLength), ("alembic/api.ErrMany", laid_alembic_api_ErrMany), ("alembic/api.ErrShape", laid_alembic_api_ErrShape), ("alembic/api.ErrNone", laid_alembic_api_ErrNone), ("alembic/api.ErrOp", laid_alembic_api_ErrOp), ("alembic/api.ErrVar", laid_alembic_api_ErrVar), ("alembic/api.ErrSecret", laid_alembic_api_ErrSecret), ("alembic/api.ErrLabel", laid_alembic_api_ErrLabel), ("alembic/api.ErrFar", laid_alembic_api_ErrFar), ("alembic/api.ErrFuel", laid_alembic_api_ErrFuel), ("alembic/api.ErrFault", laid_alembic_api_ErrFault), ("alembic/api.ErrWord", laid_alembic_api_ErrWord), ("alembic/api.ErrNumber", laid_alembic_api_ErrNumber)], narrowed := true }
def ImageSaysUptoSaid : Prop := imageSaysUptoRow.holds Tryd.pinned (OpenSpec.upto imageSaysSpec)

/-- 'alembiclaw25.ImageBack', WHERE WHAT IT READS IS OF BULK AT MOST 1048576: true; the input reads as it did. -/
def imageBackUptoRow : OpenClaim := { program := "ytofhkjacpjfclaadoor", sum := "6dbe9709936fb1776f5527c4609ce689855bc07f192762e18a5bed8e49ab25e8", func := "alembic/alembiclaw25.ImageBack", spec := "imageBack", unfollowed := true, recurses := true, named := ["alembic/api.ErrMany", "alembic/api.ErrRange", "alembic/api.ErrOp", "alembic/api.ErrLength", "alembic/api.ErrShape", "alembic/api.ErrNone", "alembic/api.ErrVar", "alembic/api.ErrSecret", "alembic/api.ErrLabel", "alembic/api.ErrFar", "alembic/api.ErrFuel", "alembic/api.ErrFault", "alembic/api.ErrWord", "alembic/api.ErrNumber"], apart := false, laid := [("alembic/api.ErrRange", laid_alembic_api_ErrRange), ("alembic/api.ErrLength", laid_alembic_api_ErrLength), ("alembic/api.ErrMany", laid_alembic_api_ErrMany), ("alembic/api.ErrShape", laid_alembic_api_ErrShape), ("alembic/api.ErrNone", laid_alembic_api_ErrNone), ("alembic/api.ErrOp", laid_alembic_api_ErrOp), ("alembic/api.ErrVar", laid_alembic_api_ErrVar), ("alembic/api.ErrSecret", laid_alembic_api_ErrSecret), ("alembic/api.ErrLabel", laid_alembic_api_ErrLabel), ("alembic/api.ErrFar", laid_alembic_api_ErrFar), ("alembic/api.ErrFuel", laid_alembic_api_ErrFuel), ("alembic/api.ErrFault", laid_alembic_api_ErrFault), ("alembic/api.ErrWord", laid_alembic_api_ErrWord), ("alembic/api.ErrNumber", laid_alembic_api_ErrNumber)], narrowed := true }
def ImageBackUptoSaid : Prop := imageBackUptoRow.holds Tryd.pinned (OpenSpec.upto imageBackSpec)

/-- 'alembiclaw25.ImageTurned', WHERE WHAT IT READS IS OF BULK AT MOST 1048576: true; the input reads as it did. -/
def imageTurnedUptoRow : OpenClaim := { program := "ytofhkjacpjfclaadoor", sum := "6dbe9709936fb1776f5527c4609ce689855bc07f192762e18a5bed8e49ab25e8", func := "alembic/alembiclaw25.ImageTurned", spec := "imageTurned", unfollowed := true, recurses := true, named := ["alembic/api.ErrMany", "alembic/api.ErrRange", "alembic/api.ErrOp", "alembic/api.ErrLength", "alembic/api.ErrShape"], apart := false, laid := [("alembic/api.ErrRange", laid_alembic_api_ErrRange), ("alembic/api.ErrLength", laid_alembic_api_ErrLength), ("alembic/api.ErrMany", laid_alembic_api_ErrMany), ("alembic/api.ErrShape", laid_alembic_api_ErrShape), ("alembic/api.ErrOp", laid_alembic_api_ErrOp)], narrowed := true }
def ImageTurnedUptoSaid : Prop := imageTurnedUptoRow.holds Tryd.pinned (OpenSpec.upto imageTurnedSpec)

/-- 'alembiclaw13.SrcTexts', WHERE WHAT IT READS IS OF BULK AT MOST 1048576: true; the input reads as it did. -/
def srcTextsUptoRow : OpenClaim := { program := "ytofhkjacpjfclaadoor", sum := "6dbe9709936fb1776f5527c4609ce689855bc07f192762e18a5bed8e49ab25e8", func := "alembic/alembiclaw13.SrcTexts", spec := "srcTexts", inPlace := ["internal/abi.NoEscape", "internal/bytealg.MakeNoZero"], unfollowed := true, recurses := true, named := ["alembic/api.ErrMany", "alembic/api.ErrRange", "alembic/api.ErrOp", "alembic/api.ErrVar", "alembic/api.ErrShape", "internal/strconv.uint64pow10", "math/bits.deBruijn32tab", "math/bits.deBruijn64tab"], loops := true, apart := false, laid := [("math/bits.deBruijn32tab", laid_math_bits_deBruijn32tab), ("math/bits.deBruijn64tab", laid_math_bits_deBruijn64tab), ("internal/strconv.uint64pow10", laid_internal_strconv_uint64pow10), ("alembic/api.ErrRange", laid_alembic_api_ErrRange), ("alembic/api.ErrMany", laid_alembic_api_ErrMany), ("alembic/api.ErrShape", laid_alembic_api_ErrShape), ("alembic/api.ErrOp", laid_alembic_api_ErrOp), ("alembic/api.ErrVar", laid_alembic_api_ErrVar)], narrowed := true }
def SrcTextsUptoSaid : Prop := srcTextsUptoRow.holds Tryd.pinned (OpenSpec.upto srcTextsSpec)

/-- 'alembiclaw13.SrcSays', WHERE WHAT IT READS IS OF BULK AT MOST 1048576: true; the input reads as it did. -/
def srcSaysUptoRow : OpenClaim := { program := "ytofhkjacpjfclaadoor", sum := "6dbe9709936fb1776f5527c4609ce689855bc07f192762e18a5bed8e49ab25e8", func := "alembic/alembiclaw13.SrcSays", spec := "srcSays", inPlace := ["internal/abi.NoEscape", "internal/bytealg.MakeNoZero"], unfollowed := true, recurses := true, named := ["alembic/api.ErrMany", "alembic/api.ErrRange", "alembic/api.ErrOp", "alembic/api.ErrVar", "alembic/api.ErrShape", "alembic/api.ErrLength", "alembic/api.ErrNone", "alembic/api.ErrSecret", "alembic/api.ErrLabel", "alembic/api.ErrFar", "alembic/api.ErrFuel", "alembic/api.ErrFault", "alembic/api.ErrWord", "alembic/api.ErrNumber", "internal/strconv.uint64pow10", "math/bits.deBruijn32tab", "math/bits.deBruijn64tab"], loops := true, apart := false, laid := [("math/bits.deBruijn32tab", laid_math_bits_deBruijn32tab), ("math/bits.deBruijn64tab", laid_math_bits_deBruijn64tab), ("internal/strconv.uint64pow10", laid_internal_strconv_uint64pow10), ("alembic/api.ErrRange", laid_alembic_api_ErrRange), ("alembic/api.ErrLength", laid_alembic_api_ErrLength), ("alembic/api.ErrMany", laid_alembic_api_ErrMany), ("alembic/api.ErrShape", laid_alembic_api_ErrShape), ("alembic/api.ErrNone", laid_alembic_api_ErrNone), ("alembic/api.ErrOp", laid_alembic_api_ErrOp), ("alembic/api.ErrVar", laid_alembic_api_ErrVar), ("alembic/api.ErrSecret", laid_alembic_api_ErrSecret), ("alembic/api.ErrLabel", laid_alembic_api_ErrLabel), ("alembic/api.ErrFar", laid_alembic_api_ErrFar), ("alembic/api.ErrFuel", laid_alembic_api_ErrFuel), ("alembic/api.ErrFault", laid_alembic_api_ErrFault), ("alembic/api.ErrWord", laid_alembic_api_ErrWord), ("alembic/api.ErrNumber", laid_alembic_api_ErrNumber)], narrowed := true }
def SrcSaysUptoSaid : Prop := srcSaysUptoRow.holds Tryd.pinned (OpenSpec.upto srcSaysSpec)

end Rows
end Go.Proofs.YtofhkjacpjfclaaDoor
