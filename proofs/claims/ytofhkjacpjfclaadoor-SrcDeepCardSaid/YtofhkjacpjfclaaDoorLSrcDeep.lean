/- The law of SrcDeep, in plain Lean. -/
import Derived.Test.YtofhkjacpjfclaaDoorMirY
import Derived.Test.YtofhkjacpjfclaaDoorMirZ
import Derived.Test.YtofhkjacpjfclaaDoorSrFun
import Derived.KernelRfl
namespace Go.Proofs.YtofhkjacpjfclaaDoor
open Go Mir
set_option linter.unusedVariables false
set_option linter.unusedSimpArgs false

theorem number (G : Globs) (k : Nat) (n m : Int) (h0 : 0 < m) (h1 : m < 9223372036854775808) (hn : -9223372036854775808 ≤ n) (hn' : n < 9223372036854775808) :
    alembicworld_Number.f G (k + 1) [.int .i64 n, .int .i64 m] [] = some (.int .i64 (n % m), []) := by
  rw [alembicworld_Number.step]
  unfold alembicworld_Number.c
  rw [bin_rem _ _ _ _ _ _ (by omega)]
  have hlt := Int.tmod_lt_of_pos n h0
  have hgt : -m < n.tmod m := by have := Int.tmod_lt_of_pos (-n) h0; rw [Int.neg_tmod] at this; omega
  have hm : n.tmod m % m = n % m := by
    rw [Int.tmod_eq_emod]; split
    · simp
    · have e : (m.natAbs : Int) = m := by omega
      simp [e]
  by_cases h : n.tmod m < 0
  · simp only [pu_val, bnd_some, bin_lss, h, decide_true, condA_true, bin_add, List.length_nil, finV_int, outV_ret]
    rw [wrap_of_i64 (by omega) (by omega)]
    congr 3
    rw [← hm, ← Int.add_emod_right]
    exact (Int.emod_eq_of_lt (by omega) (by omega)).symm
  · simp only [pu_val, bnd_some, bin_lss, h, decide_false, condA_false, List.length_nil, finV_int, outV_ret]
    congr 3
    rw [← hm]
    exact (Int.emod_eq_of_lt (by omega) (by omega)).symm

/-- What is done with the two numbers. -/
noncomputable def deep (G : Globs) (k : Nat) (n w : Int) : Option (AV × AHeap) :=
  alembiclaw13_SrcDeep.c G k (alembiclaw13_SrcDeep.f G k) (.int .i64 n) (.int .i64 w) []
theorem deep_0_0 (k : Nat) : deep (sentG 204 [1, 3, 0, 4, 6, 2, 5, 7, 8, 9, 10, 11, 12, 13]) (k + 200) 0 0 = some (.bool true, []) := by kernel_rfl
theorem deep_0_1 (k : Nat) : deep (sentG 204 [1, 3, 0, 4, 6, 2, 5, 7, 8, 9, 10, 11, 12, 13]) (k + 200) 0 1 = some (.bool true, []) := by kernel_rfl
theorem deep_0_2 (k : Nat) : deep (sentG 204 [1, 3, 0, 4, 6, 2, 5, 7, 8, 9, 10, 11, 12, 13]) (k + 200) 0 2 = some (.bool true, []) := by kernel_rfl
theorem deep_1_0 (k : Nat) : deep (sentG 204 [1, 3, 0, 4, 6, 2, 5, 7, 8, 9, 10, 11, 12, 13]) (k + 200) 1 0 = some (.bool true, []) := by kernel_rfl
theorem deep_1_1 (k : Nat) : deep (sentG 204 [1, 3, 0, 4, 6, 2, 5, 7, 8, 9, 10, 11, 12, 13]) (k + 200) 1 1 = some (.bool true, []) := by kernel_rfl
theorem deep_1_2 (k : Nat) : deep (sentG 204 [1, 3, 0, 4, 6, 2, 5, 7, 8, 9, 10, 11, 12, 13]) (k + 200) 1 2 = some (.bool true, []) := by kernel_rfl
theorem deep_2_0 (k : Nat) : deep (sentG 204 [1, 3, 0, 4, 6, 2, 5, 7, 8, 9, 10, 11, 12, 13]) (k + 200) 2 0 = some (.bool true, []) := by kernel_rfl
theorem deep_2_1 (k : Nat) : deep (sentG 204 [1, 3, 0, 4, 6, 2, 5, 7, 8, 9, 10, 11, 12, 13]) (k + 200) 2 1 = some (.bool true, []) := by kernel_rfl
theorem deep_2_2 (k : Nat) : deep (sentG 204 [1, 3, 0, 4, 6, 2, 5, 7, 8, 9, 10, 11, 12, 13]) (k + 200) 2 2 = some (.bool true, []) := by kernel_rfl
theorem deep_3_0 (k : Nat) : deep (sentG 204 [1, 3, 0, 4, 6, 2, 5, 7, 8, 9, 10, 11, 12, 13]) (k + 200) 3 0 = some (.bool true, []) := by kernel_rfl
theorem deep_3_1 (k : Nat) : deep (sentG 204 [1, 3, 0, 4, 6, 2, 5, 7, 8, 9, 10, 11, 12, 13]) (k + 200) 3 1 = some (.bool true, []) := by kernel_rfl
theorem deep_3_2 (k : Nat) : deep (sentG 204 [1, 3, 0, 4, 6, 2, 5, 7, 8, 9, 10, 11, 12, 13]) (k + 200) 3 2 = some (.bool true, []) := by kernel_rfl
theorem deep_4_0 (k : Nat) : deep (sentG 204 [1, 3, 0, 4, 6, 2, 5, 7, 8, 9, 10, 11, 12, 13]) (k + 200) 4 0 = some (.bool true, []) := by kernel_rfl
theorem deep_4_1 (k : Nat) : deep (sentG 204 [1, 3, 0, 4, 6, 2, 5, 7, 8, 9, 10, 11, 12, 13]) (k + 200) 4 1 = some (.bool true, []) := by kernel_rfl
theorem deep_4_2 (k : Nat) : deep (sentG 204 [1, 3, 0, 4, 6, 2, 5, 7, 8, 9, 10, 11, 12, 13]) (k + 200) 4 2 = some (.bool true, []) := by kernel_rfl

theorem deep_mod (G : Globs) (k : Nat) (n w : Int) (hn : -9223372036854775808 ≤ n ∧ n < 9223372036854775808) (hw : -9223372036854775808 ≤ w ∧ w < 9223372036854775808) :
    deep G (k + 1) n w = deep G (k + 1) (n % 5) (w % 3) := by
  have a1 : ∀ H, pureCall (alembicworld_Number.f G (k + 1)) [.int .i64 n, .int .i64 5] H = some (.int .i64 (n % 5), H) := fun H => pureCall_of (number G k n 5 (by omega) (by omega) hn.1 hn.2) rfl rfl
  have a2 : ∀ H, pureCall (alembicworld_Number.f G (k + 1)) [.int .i64 w, .int .i64 3] H = some (.int .i64 (w % 3), H) := fun H => pureCall_of (number G k w 3 (by omega) (by omega) hw.1 hw.2) rfl rfl
  have b1 : ∀ H, pureCall (alembicworld_Number.f G (k + 1)) [.int .i64 (n % 5), .int .i64 5] H = some (.int .i64 (n % 5), H) := fun H => by
    have := number G k (n % 5) 5 (by omega) (by omega) (by omega) (by omega)
    rw [Int.emod_emod] at this
    exact pureCall_of this rfl rfl
  have b2 : ∀ H, pureCall (alembicworld_Number.f G (k + 1)) [.int .i64 (w % 3), .int .i64 3] H = some (.int .i64 (w % 3), H) := fun H => by
    have := number G k (w % 3) 3 (by omega) (by omega) (by omega) (by omega)
    rw [Int.emod_emod] at this
    exact pureCall_of this rfl rfl
  unfold deep alembiclaw13_SrcDeep.c
  simp only [a1, a2, b1, b2]

theorem LSrcDeep.law (xs : List AV) (h : IsTs Tryd.prog [3, 3] xs) :
    ∃ k, alembiclaw13_SrcDeep.f (sentG 204 [1, 3, 0, 4, 6, 2, 5, 7, 8, 9, 10, 11, 12, 13]) k xs [] = some (.bool true, []) := by
  obtain ⟨x, xs1, rfl, hx, h1⟩ := h.uncons
  obtain ⟨y, xs2, rfl, hy, h2⟩ := h1.uncons
  obtain rfl := h2.unnil
  obtain ⟨n, rfl, hn⟩ := hx.of_int Tryd.underlying3
  obtain ⟨w, rfl, hw⟩ := hy.of_int Tryd.underlying3
  replace hn := wf_i64 hn
  replace hw := wf_i64 hw
  refine ⟨201, ?_⟩
  rw [alembiclaw13_SrcDeep.step]
  show deep _ (199 + 1) n w = _
  rw [deep_mod _ _ _ _ hn hw]
  have h5 : n % 5 = 0 ∨ n % 5 = 1 ∨ n % 5 = 2 ∨ n % 5 = 3 ∨ n % 5 = 4 := by omega
  have h3 : w % 3 = 0 ∨ w % 3 = 1 ∨ w % 3 = 2 := by omega
  rcases h5 with e | e | e | e | e <;> rcases h3 with e' | e' | e' <;> rw [e, e']
  · exact deep_0_0 0
  · exact deep_0_1 0
  · exact deep_0_2 0
  · exact deep_1_0 0
  · exact deep_1_1 0
  · exact deep_1_2 0
  · exact deep_2_0 0
  · exact deep_2_1 0
  · exact deep_2_2 0
  · exact deep_3_0 0
  · exact deep_3_1 0
  · exact deep_3_2 0
  · exact deep_4_0 0
  · exact deep_4_1 0
  · exact deep_4_2 0
end Go.Proofs.YtofhkjacpjfclaaDoor
