/-
  No cell of these rows narrows 'for every input' (looked for: loops, veiled, ifaces, maps, wideKeys, modest, calm, conditions, laid).
  DERIVED. THE GIVEN ROWS OF THIS SEAT. 3 by the template 'for every input the law returns true; each argument reads behind the call as it read before'; 0 by the template 'total and deterministic' (their statements: YtofhkjacpjfclaaTotals.lean).
  GIVEN WITH THE SEED: the statements are not yours to turn. If you find one false, say at which input.
  Laid BY PROGRAM, IN A SANDBOX (cutbox-rows.mjs): the forced cells as the released guide's own fill.sh prints them over the translation fb4fd8cadc849142… (all of the seat's roots in one cut). By AI agents, Wed Nov 11 2026. No macro, syntax, notation, axiom, sorry.
-/
import Derived.Test.YtofhkjacpjfclaaChecked
import GoSem.Claim
import GoSem.ClaimJoined
import GoSem.ClaimMapViews
import Derived.JoinedTies
import Derived.KernelRfl
namespace Go.Proofs.Ytofhkjacpjfclaa
/- THE CELL 'sum', in the pinned program and in every row, IS THE sha256 OF THE DUMP (.gsa) THAT YtofhkjacpjfclaaProg.lean LOADS. Nothing in Lean hashes anything: it is a label: what it is worth is what the hold of that sum in a sandbox is worth. -/
noncomputable def Try.pinned : Pinned := { name := "ytofhkjacpjfclaa", sum := "fb4fd8cadc849142dfbf48087c241c21c83b35209da06767919e7a5fe4cd3733", checked := Try.checked }
namespace Rows
def none {H : Type} : Left H := { results := [], args := [] }

/-- 'alembiclaw22.IsaBounds': WHATEVER THE INPUT: true; the input reads as it did. -/
def isaBoundsSpec : ChangeSpec := { name := "isaBounds", fn := fun _ => fun
  | [d] => { results := [.lit (.bool true)], args := [d] }
  | _ => none }
def isaBoundsRow : OpenClaim := { program := "ytofhkjacpjfclaa", sum := "fb4fd8cadc849142dfbf48087c241c21c83b35209da06767919e7a5fe4cd3733", func := "alembic/alembiclaw22.IsaBounds", spec := "isaBounds", unfollowed := true, recurses := true, apart := false }
def IsaBoundsSaid : Prop := isaBoundsRow.holds Try.pinned (OpenSpec.ofChange isaBoundsSpec)

/-- ITS FALSE NEIGHBOUR: 'it returns false'. Refute it at one input. -/
def isaBoundsWrong : ChangeSpec := { name := "isaBounds", fn := fun _ => fun
  | [d] => { results := [.lit (.bool false)], args := [d] }
  | _ => none }
def IsaBoundsWrongFalsely : Prop := isaBoundsRow.holds Try.pinned (OpenSpec.ofChange isaBoundsWrong)

/-- 'alembiclaw22.IsaFields': WHATEVER THE INPUT: true; the input reads as it did. -/
def isaFieldsSpec : ChangeSpec := { name := "isaFields", fn := fun _ => fun
  | [d1, d2, d3, d4, d5] => { results := [.lit (.bool true)], args := [d1, d2, d3, d4, d5] }
  | _ => none }
def isaFieldsRow : OpenClaim := { program := "ytofhkjacpjfclaa", sum := "fb4fd8cadc849142dfbf48087c241c21c83b35209da06767919e7a5fe4cd3733", func := "alembic/alembiclaw22.IsaFields", spec := "isaFields", apart := false }
def IsaFieldsSaid : Prop := isaFieldsRow.holds Try.pinned (OpenSpec.ofChange isaFieldsSpec)

/-- ITS FALSE NEIGHBOUR: 'it returns false'. Refute it at one input. -/
def isaFieldsWrong : ChangeSpec := { name := "isaFields", fn := fun _ => fun
  | [d1, d2, d3, d4, d5] => { results := [.lit (.bool false)], args := [d1, d2, d3, d4, d5] }
  | _ => none }
def IsaFieldsWrongFalsely : Prop := isaFieldsRow.holds Try.pinned (OpenSpec.ofChange isaFieldsWrong)

/-- 'alembiclaw22.IsaBack': WHATEVER THE INPUT: true; the input reads as it did. -/
def isaBackSpec : ChangeSpec := { name := "isaBack", fn := fun _ => fun
  | [d1, d2, d3] => { results := [.lit (.bool true)], args := [d1, d2, d3] }
  | _ => none }
def isaBackRow : OpenClaim := { program := "ytofhkjacpjfclaa", sum := "fb4fd8cadc849142dfbf48087c241c21c83b35209da06767919e7a5fe4cd3733", func := "alembic/alembiclaw22.IsaBack", spec := "isaBack", apart := false }
def IsaBackSaid : Prop := isaBackRow.holds Try.pinned (OpenSpec.ofChange isaBackSpec)

/-- ITS FALSE NEIGHBOUR: 'it returns false'. Refute it at one input. -/
def isaBackWrong : ChangeSpec := { name := "isaBack", fn := fun _ => fun
  | [d1, d2, d3] => { results := [.lit (.bool false)], args := [d1, d2, d3] }
  | _ => none }
def IsaBackWrongFalsely : Prop := isaBackRow.holds Try.pinned (OpenSpec.ofChange isaBackWrong)

/- THE SECOND FORM. 'bulk': how many values and letters a reading holds, each counted each time it is reached (what is shared counts as often as it is met; a slice's spare places count too). A statement '..UptoSaid' is the law's where the arguments, and the package variables that the reading takes, are together of bulk at most 1048576: NARROWER than '..Said'. Prove '..Said' where nothing that the law and all that it calls make is longer than what came in: it says more and counts as full. Else prove '..UptoSaid'. A law counts once. -/
mutual
def uptoBulk {H : Type} : DataW H → Nat
  | .lit (.string bytes) => bytes.length + 1
  | .lit _ => 1
  | .nil => 1
  | .ptr d => uptoBulk d + 1
  | .slice elems spare => uptoBulkAll elems + uptoBulkAll spare + 1
  | .agg parts => uptoBulkAll parts + 1
  | .iface _ d => uptoBulk d + 1
  | .map entries => uptoBulkEntries entries + 1
  | .held _ => 1
def uptoBulkAll {H : Type} : List (DataW H) → Nat
  | [] => 0
  | d :: r => uptoBulk d + uptoBulkAll r
def uptoBulkEntries {H : Type} : List (Lit × DataW H) → Nat
  | [] => 0
  | x :: r => uptoBulkEntry x + uptoBulkEntries r
def uptoBulkEntry {H : Type} : Lit × DataW H → Nat
  | (.string bytes, d) => bytes.length + uptoBulk d + 1
  | (_, d) => uptoBulk d + 1
 end
def uptoSmall : (H : Type) → List (DataW H) → Bool := fun _ ds => decide (uptoBulkAll ds ≤ 1048576)
def OpenSpec.upto (s : _root_.Go.ChangeSpec) : _root_.Go.OpenSpec := { _root_.Go.OpenSpec.ofChange s with cond := some uptoSmall }

/-- 'alembiclaw22.IsaBounds', WHERE WHAT IT READS IS OF BULK AT MOST 1048576: true; the input reads as it did. -/
def isaBoundsUptoRow : OpenClaim := { program := "ytofhkjacpjfclaa", sum := "fb4fd8cadc849142dfbf48087c241c21c83b35209da06767919e7a5fe4cd3733", func := "alembic/alembiclaw22.IsaBounds", spec := "isaBounds", unfollowed := true, recurses := true, apart := false, narrowed := true }
def IsaBoundsUptoSaid : Prop := isaBoundsUptoRow.holds Try.pinned (OpenSpec.upto isaBoundsSpec)

/-- 'alembiclaw22.IsaFields', WHERE WHAT IT READS IS OF BULK AT MOST 1048576: true; the input reads as it did. -/
def isaFieldsUptoRow : OpenClaim := { program := "ytofhkjacpjfclaa", sum := "fb4fd8cadc849142dfbf48087c241c21c83b35209da06767919e7a5fe4cd3733", func := "alembic/alembiclaw22.IsaFields", spec := "isaFields", apart := false, narrowed := true }
def IsaFieldsUptoSaid : Prop := isaFieldsUptoRow.holds Try.pinned (OpenSpec.upto isaFieldsSpec)

/-- 'alembiclaw22.IsaBack', WHERE WHAT IT READS IS OF BULK AT MOST 1048576: true; the input reads as it did. -/
def isaBackUptoRow : OpenClaim := { program := "ytofhkjacpjfclaa", sum := "fb4fd8cadc849142dfbf48087c241c21c83b35209da06767919e7a5fe4cd3733", func := "alembic/alembiclaw22.IsaBack", spec := "isaBack", apart := false, narrowed := true }
def IsaBackUptoSaid : Prop := isaBackUptoRow.holds Try.pinned (OpenSpec.upto isaBackSpec)

end Rows
end Go.Proofs.Ytofhkjacpjfclaa
