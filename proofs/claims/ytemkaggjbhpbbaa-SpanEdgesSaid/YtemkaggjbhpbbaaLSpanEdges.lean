/- The law of SpanEdges, in plain Lean. -/
import Derived.Test.YtemkaggjbhpbbaaMirY
import Derived.Test.YtemkaggjbhpbbaaPa
namespace Go.Proofs.Ytemkaggjbhpbbaa
open Go Mir
set_option linter.unusedVariables false
set_option linter.unusedSimpArgs false

theorem pair_clean (p : Bool) (a b : Int) : cleanB (spanS p a b) = true := by unfold spanS; split <;> rfl
theorem call_one (G : Globs) (self : Den) (a : Int) (H : AHeap) : callV (envL (alembiclaw16_SpanEdges.env G 40 self)) (.fn 8 []) [I a] H = some (Sp a a, H) := by
  have h : callV (envL (alembiclaw16_SpanEdges.env G 40 self)) (.fn 8 []) [I a] H = pureCall (alembiclaw16_SpanEdges_1.f G 40) [I a] H := by
    simp [callV, callE, envL, alembiclaw16_SpanEdges.env]
  rw [h]; exact pureCall_of (one_spec G 39 a) rfl rfl
theorem shl1 (G : Globs) : span_Shl.f G 40 [Sp 4611686018427387904 4611686018427387904, I 1] [] = some (.tup [Sp 0 0, .bool false], []) := by kernel_rfl
theorem shl2 (G : Globs) : span_Shl.f G 40 [Sp (-4611686018427387904) (-4611686018427387904), I 1] [] = some (.tup [Sp (-9223372036854775808) (-9223372036854775808), .bool true], []) := by kernel_rfl
theorem mul1 (G : Globs) : span_Mul.f G 40 [Sp (-9223372036854775808) (-9223372036854775808), Sp (-1) (-1)] [] = some (.tup [Sp 0 0, .bool false], []) := by kernel_rfl
theorem mul2 (G : Globs) : span_Mul.f G 40 [Sp (-4611686018427387904) (-4611686018427387904), Sp 2 2] [] = some (.tup [Sp (-9223372036854775808) (-9223372036854775808), .bool true], []) := by kernel_rfl
theorem sub3 (G : Globs) : span_Sub.f G 40 [Sp 0 0, Sp (-9223372036854775808) (-9223372036854775808)] [] = some (.tup [Sp 0 0, .bool false], []) := by kernel_rfl

set_option maxRecDepth 100000 in
theorem LSpanEdges.law (xs : List AV) (h : IsTs Try.prog [2] xs) : ∃ k, alembiclaw16_SpanEdges.f (sentG 0 []) k xs [] = some (.bool true, []) := by
  obtain ⟨x, _, rfl, hx, h⟩ := h.uncons
  obtain rfl := h.unnil
  obtain ⟨n, rfl, hw⟩ := hx.of_int Try.underlying2
  obtain ⟨h1, h2⟩ := wf_i64 hw
  refine ⟨41, ?_⟩
  generalize sentG 0 [] = G
  have hf : alembiclaw16_first.f G 40 [] [] = some (.bool true, []) := first_ok G 10
  have a1 : ∀ m : Int, 0 ≤ m → m < 9223372036854775808 → span_Add.f G 40 [Sp (9223372036854775807 - m) (9223372036854775807 - m), Sp m m] [] = some (.tup [Sp 9223372036854775807 9223372036854775807, .bool true], []) := fun m g1 g2 => by
    have := add_spec G 20 (9223372036854775807 - m) (9223372036854775807 - m) m m ⟨by omega, by omega⟩ ⟨by omega, by omega⟩ ⟨by omega, by omega⟩ ⟨by omega, by omega⟩
    rw [this]
    have e : 9223372036854775807 - m + m = 9223372036854775807 := by omega
    simp [e, numB, spanS]
  have a2 : ∀ m : Int, 0 ≤ m → m < 9223372036854775808 → span_Add.f G 40 [Sp (9223372036854775807 - m) (9223372036854775807 - m), Sp 0 (IntKind.i64.wrap (m + 1))] [] = some (.tup [Sp 0 0, .bool false], []) := fun m g1 g2 => by
    have := add_spec G 20 (9223372036854775807 - m) (9223372036854775807 - m) 0 (IntKind.i64.wrap (m + 1)) ⟨by omega, by omega⟩ ⟨by omega, by omega⟩ ⟨by omega, by omega⟩ (wrap_i64_rg _)
    rw [this]
    by_cases hm : m = 9223372036854775807
    · subst hm
      have e : IntKind.i64.wrap 9223372036854775808 = -9223372036854775808 := by decide
      simp [e, spanS]
    · rw [wrap_of_i64 (n := m + 1) (by omega) (by omega)]
      have e : 9223372036854775807 - m + (m + 1) = 9223372036854775808 := by omega
      simp [e, numB, spanS]
  have a3 : ∀ m : Int, 0 ≤ m → m < 9223372036854775808 → span_Sub.f G 40 [Sp (-9223372036854775808 + m) (-9223372036854775808 + m), Sp m m] [] = some (.tup [Sp (-9223372036854775808) (-9223372036854775808), .bool true], []) := fun m g1 g2 => by
    have := sub_spec G 20 (-9223372036854775808 + m) (-9223372036854775808 + m) m m ⟨by omega, by omega⟩ ⟨by omega, by omega⟩ ⟨by omega, by omega⟩ ⟨by omega, by omega⟩
    rw [this]
    have e : -9223372036854775808 + m - m = -9223372036854775808 := by omega
    simp [e, numB, spanS]
  have a4 : ∀ m : Int, 0 ≤ m → m < 9223372036854775808 → span_Sub.f G 40 [Sp (-9223372036854775808 + m) (-9223372036854775808 + m), Sp 0 m] [] = some (.tup [Sp (-9223372036854775808) (-9223372036854775808 + m), .bool true], []) := fun m g1 g2 => by
    have := sub_spec G 20 (-9223372036854775808 + m) (-9223372036854775808 + m) 0 m ⟨by omega, by omega⟩ ⟨by omega, by omega⟩ ⟨by omega, by omega⟩ ⟨by omega, by omega⟩
    rw [this]
    have e : -9223372036854775808 + m - m = -9223372036854775808 := by omega
    have e2 : -9223372036854775808 + m - 0 = -9223372036854775808 + m := by omega
    rw [e2, e, show numB (-9223372036854775808 + m) = true from decide_eq_true ⟨by omega, by omega⟩, show numB (-9223372036854775808) = true from rfl, decide_eq_true (Int.le_refl _), decide_eq_true g1]
    rfl
  rw [alembiclaw16_SpanEdges.step]
  unfold alembiclaw16_SpanEdges.c
  have rf : ∀ H, pureCall (alembiclaw16_first.f G 40) [] H = _ := fun H => pureCall_of (H := H) hf rfl rfl
  have s1 : ∀ H, pureCall (span_Shl.f G 40) _ H = _ := fun H => pureCall_of (H := H) (shl1 G) rfl rfl
  have s2 : ∀ H, pureCall (span_Shl.f G 40) _ H = _ := fun H => pureCall_of (H := H) (shl2 G) rfl rfl
  have m1 : ∀ H, pureCall (span_Mul.f G 40) _ H = _ := fun H => pureCall_of (H := H) (mul1 G) rfl rfl
  have m2 : ∀ H, pureCall (span_Mul.f G 40) _ H = _ := fun H => pureCall_of (H := H) (mul2 G) rfl rfl
  have u3 : ∀ H, pureCall (span_Sub.f G 40) _ H = _ := fun H => pureCall_of (H := H) (sub3 G) rfl rfl
  obtain ⟨m, g1, g2, hst⟩ : ∃ m : Int, 0 ≤ m ∧ m < 9223372036854775808 ∧ (bnd (pu [] (bin Try.prog .lss 2 true (.int .i64 n) (.int .i64 0))) fun v2 h2 =>
      condA v2
      (bnd (pu h2 (bin Try.prog .add 2 true (.int .i64 n) (.int .i64 1))) fun v3 h3 =>
      bnd (pu h3 (un .neg v3)) fun v4 h4 =>
      some (Ex.normal, [v4, .bool true], h4))
      (some (.normal, [.int .i64 n, .bool true], h2))) = some (.normal, [.int .i64 m, .bool true], []) := by
    by_cases hn : n < 0
    · refine ⟨-(n + 1), by omega, by omega, ?_⟩
      simp [hn, un]
      rw [wrap_of_i64 (n := n + 1) (by omega) (by omega), wrap_of_i64 (by omega) (by omega)]
    · exact ⟨n, by omega, by omega, by simp [hn]⟩
  rw [rf]
  simp only [bnd_some, un_not, pu_val, Bool.not_true, condA_false]
  rw [hst]
  have r1 : ∀ H, pureCall (span_Add.f G 40) _ H = _ := fun H => pureCall_of (H := H) (a1 m g1 g2) rfl rfl
  have r2 : ∀ H, pureCall (span_Add.f G 40) _ H = _ := fun H => pureCall_of (H := H) (a2 m g1 g2) rfl rfl
  have r3 : ∀ H, pureCall (span_Sub.f G 40) _ H = _ := fun H => pureCall_of (H := H) (a3 m g1 g2) rfl rfl
  have r4 : ∀ H, pureCall (span_Sub.f G 40) _ H = _ := fun H => pureCall_of (H := H) (a4 m g1 g2) rfl rfl
  have w1 : IntKind.i64.wrap (9223372036854775807 - m) = 9223372036854775807 - m := wrap_of_i64 (by omega) (by omega)
  have w2 : IntKind.i64.wrap (-9223372036854775808 + m) = -9223372036854775808 + m := wrap_of_i64 (by omega) (by omega)
  have qu : bin Try.prog .quo 2 true (.int .i64 (-9223372036854775808)) (.int .i64 2) = some (I (-4611686018427387904)) := by rw [bin_quo _ _ _ _ _ _ (by decide)]; rfl
  simp [w1, w2, call_one, r1, r2, r3, r4, s1, s2, m1, m2, u3, extractA, boxA, storable, AV.cells, stS, storeV, recell, putC, buildSt, fillA, qu, fieldAddrV, loadV, loadC]
  by_cases hm : m = 9223372036854775807
  · simp [hm, fieldAddrV, loadV, loadC, AV.cells]
  · have hm2 : m < 9223372036854775807 := by omega
    simp [hm, hm2, fieldAddrV, loadV, loadC, AV.cells]
end Go.Proofs.Ytemkaggjbhpbbaa
