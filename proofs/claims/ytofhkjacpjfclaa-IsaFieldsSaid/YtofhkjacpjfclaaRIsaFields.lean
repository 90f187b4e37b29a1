/- Printed by rowgen.py: the row of IsaFields, out of its law in plain Lean. -/
import Derived.Test.YtofhkjacpjfclaaRk
import Derived.Test.YtofhkjacpjfclaaIsCon
import Derived.Test.YtofhkjacpjfclaaLIsaFields
namespace Go.Proofs.Ytofhkjacpjfclaa
open Go Go.ChangeShapes Go.WideShapes Go.RowKit Mir
set_option linter.unusedVariables false
set_option linter.unusedSimpArgs false

namespace RIsaFields
theorem plainTs : ∀ t ∈ ([3] : List Nat), plainT Try.prog [3] t = true := List.all_eq_true.1 (by kernel_rfl)
set_option maxRecDepth 100000 in
theorem lifted (os : Os) (started : os.Started) (H : Type) (enc : TypeId × Value → H) :
    ReturnsInHanded {} Try.checked os 4 .any (Rows.isaFieldsSpec.pre6 enc Try.prog Try.f4 Rows.isaFieldsRow.domain false) (Rows.isaFieldsSpec.post enc Try.prog Try.f4 false true false false) := by
  refine returnsInHanded_of_change_sized (C := Try.checked) Rk.own started (by kernel_rfl) Try.func4
    (ChangeSpec.witness6 (enc := enc) (C := Try.checked) false ⟨#[], #[.int .i64 0, .int .i64 0, .int .i64 0, .int .i64 0, .int .i64 0], []⟩ 8 (by kernel_rfl) (by kernel_rfl) (by kernel_rfl) (by kernel_rfl)) ?_
  intro W base args ds gs before hval0 hW _ _ _
  have hS := sentS_nil W 0
  have hval : ∀ (j : Nat) t v, Try.f4.params.toList[j]? = some t → args.toList[j]? = some v → Value.okWide Try.prog W .any base t v := fun j t v h1 h2 => hval0 j t v (by simpa using h1) (by simpa using h2)
  have hW' := hW
  obtain ⟨p, q, hA, _, _, _, _⟩ := hW
  have hpar : Try.f4.params.toList = [3, 3, 3, 3, 3] := by rw [Try.params4]
  rw [hpar] at hval
  replace hA : DataW.TrodAll enc Try.prog W 0 (fun _ => true) true Try.f4.params.toList args.toList ds p := hA
  rw [hpar] at hA
  obtain ⟨xs, h1, h2⟩ := read_args plainTs (by decide) hval hA
  obtain ⟨k, hk⟩ := LIsaFields.law xs h1
  have hc := calls_top (Mir.alembiclaw22_IsaFields.sound (sentG_plain _ _) k) hk (good_top hS) h2
  rw [Array.toArray_toList] at hc
  refine hc.mono fun e W' ⟨he, hb⟩ => ⟨_, he, ?_⟩
  exact post_top rfl hpar (by kernel_rfl) Try.underlying4 (fun ds hd => by
    obtain ⟨d0, d1, d2, d3, d4, rfl⟩ : ∃ d0 d1 d2 d3 d4, ds = [d0, d1, d2, d3, d4] := by
      match ds, hd with
      | [d0, d1, d2, d3, d4], _ => exact ⟨d0, d1, d2, d3, d4, rfl⟩
    rfl) Rk.laidOut (by kernel_rfl) hW' hb
theorem holds : Rows.IsaFieldsSaid :=
  OpenClaim.holds_of_wide 4 Try.f4 rfl rfl rfl rfl rfl rfl rfl ⟨rfl, rfl, rfl, rfl, rfl⟩ rfl rfl rfl rfl rfl (by kernel_rfl) Try.func4 (by kernel_rfl)
    (of_decide_eq_true (by kernel_rfl)) (by unfold Func.isWrapper; first | (rw [if_pos (by decide +kernel)]; kernel_rfl) | (rw [if_neg (by decide +kernel)]; exact ⟨rfl, rfl⟩))
    (fun os started H enc _ => lifted os started H enc)
end RIsaFields
end Go.Proofs.Ytofhkjacpjfclaa
