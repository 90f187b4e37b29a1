/- What more functions of chapter 16 give: joined, within, same. -/
import Derived.Test.YtemkaggjbhpbbaaPa
namespace Go.Proofs.Ytemkaggjbhpbbaa.Mir
open Go
set_option linter.unusedVariables false
set_option linter.unusedSimpArgs false

def joinV (a b c d : Int) : AV := if decide (a ≤ b) && decide (c ≤ d) then Sp (min a c) (max b d) else Sp 0 0
theorem min2' (a b : Int) : foldA min2A (I a) [I b] = some (I (min a b)) := by
  have h : ∀ x y : Int, (if y < x then y else x) = min x y := fun x y => by split <;> omega
  simp only [foldA, min2A, Option.bind_some, h]
theorem join_spec (G : Globs) (k : Nat) (a b c d : Int) : span_Join.f G (k + 20) [Sp a b, Sp c d] [] = some (joinV a b c d, []) := by
  have r1 : ∀ H, pureCall (span_Is.f G (k + 19)) [Sp a b] H = _ := fun H => pureCall_of (H := H) (is_spec G (k + 18) a b) rfl rfl
  have r2 : ∀ H, pureCall (span_Is.f G (k + 19)) [Sp c d] H = _ := fun H => pureCall_of (H := H) (is_spec G (k + 18) c d) rfl rfl
  rw [span_Join.step]
  unfold span_Join.c joinV
  cases h1 : decide (a ≤ b) <;> cases h2 : decide (c ≤ d) <;>
    simp [boxRoA, boxA, fieldAddrV, loadV, loadC, storable, AV.cells, r1, r2, h1, h2, buildSt, fillA, stS, storeV, recell, putC, finL, allSome, finV_sp, min2']
theorem within_spec (G : Globs) (k : Nat) (a b c d : Int) : span_Within.f G (k + 20) [Sp a b, Sp c d] [] =
    some (.bool (decide (a ≤ b) && decide (c ≤ d) && decide (c ≤ a) && decide (b ≤ d)), []) := by
  have r1 : ∀ H, pureCall (span_Is.f G (k + 19)) [Sp a b] H = _ := fun H => pureCall_of (H := H) (is_spec G (k + 18) a b) rfl rfl
  have r2 : ∀ H, pureCall (span_Is.f G (k + 19)) [Sp c d] H = _ := fun H => pureCall_of (H := H) (is_spec G (k + 18) c d) rfl rfl
  rw [span_Within.step]
  unfold span_Within.c
  cases h1 : decide (a ≤ b) <;> cases h2 : decide (c ≤ d) <;> cases h3 : decide (c ≤ a) <;>
    simp [boxRoA, boxA, fieldAddrV, loadV, loadC, storable, AV.cells, r1, r2, h1, h2, h3]
theorem same_spec (G : Globs) (k : Nat) (a b c d : Int) : alembiclaw16_same.f G (k + 20) [Sp a b, Sp c d] [] =
    some (.bool (decide (a = c) && decide (b = d)), []) := by
  rw [alembiclaw16_same.step]
  unfold alembiclaw16_same.c
  cases h1 : decide (a = c) <;>
    simp [boxRoA, boxA, fieldAddrV, loadV, loadC, storable, AV.cells, h1]
end Go.Proofs.Ytemkaggjbhpbbaa.Mir
