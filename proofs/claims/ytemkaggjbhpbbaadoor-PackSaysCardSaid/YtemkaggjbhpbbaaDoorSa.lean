/- What the functions of chapter 6 give: bit lengths, numbers, widths. -/
import Derived.Test.YtemkaggjbhpbbaaDoorMirZ
import Derived.Test.YtemkaggjbhpbbaaDoorPsFun
import Derived.KernelRfl
namespace Go.Proofs.YtemkaggjbhpbbaaDoor.Mir
open Go
set_option linter.unusedVariables false

theorem first_ok (G : Globs) (k : Nat) : alembiclaw6_first.f G (k + 30) [] [] = some (.bool true, []) := by kernel_rfl

/-- bits that a number takes -/
def bl (x : Nat) : Nat := if x = 0 then 0 else Nat.log2 x + 1

theorem bl_spec (x : Nat) : x < 2 ^ bl x := by
  unfold bl; split
  · omega
  · rename_i h; exact Nat.lt_log2_self 

theorem bl_low (x : Nat) (h : x ≠ 0) : 2 ^ (bl x - 1) ≤ x := by
  unfold bl; rw [if_neg h]; exact Nat.log2_self_le h

theorem bl_unique (x n : Nat) (h1 : x < 2 ^ n) (h2 : n ≠ 0 → 2 ^ (n - 1) ≤ x) : bl x = n := by
  by_cases hx : x = 0
  · subst hx
    by_cases hn : n = 0
    · subst hn; rfl
    · have := h2 hn; have := Nat.two_pow_pos (n-1); omega
  · have a := bl_spec x
    have b := bl_low x hx
    have hn : n ≠ 0 := by rintro rfl; simp at h1; omega
    have c := h2 hn
    have d : n - 1 < bl x := (Nat.pow_lt_pow_iff_right (by decide : 1 < 2)).1 (Nat.lt_of_le_of_lt c a)
    have e : bl x - 1 < n := (Nat.pow_lt_pow_iff_right (by decide : 1 < 2)).1 (Nat.lt_of_le_of_lt b h1)
    omega

theorem bl_div (s x : Nat) (h : 2 ^ s ≤ x) : bl (x / 2 ^ s) + s = bl x := by
  have h2 : x / 2 ^ s ≠ 0 := by
    have := Nat.div_pos h (Nat.two_pow_pos s); omega
  symm
  apply bl_unique
  · have := bl_spec (x / 2 ^ s)
    rw [Nat.div_lt_iff_lt_mul (Nat.two_pow_pos s)] at this
    rwa [Nat.pow_add]
  · intro _
    have := bl_low (x / 2 ^ s) h2
    rw [Nat.le_div_iff_mul_le (Nat.two_pow_pos s), ← Nat.pow_add] at this
    have h3 : bl (x / 2 ^ s) ≠ 0 := by unfold bl; rw [if_neg h2]; omega
    rwa [show bl (x / 2 ^ s) + s - 1 = bl (x / 2 ^ s) - 1 + s by omega]


theorem tab_bl : ∀ n : Nat, n < 256 → idxStr (.str math_bits_Len64.s0) (.int .u8 n) = some (.int .u8 (bl n : Nat)) := by
  have : (List.range 256).all (fun n => match idxStr (.str math_bits_Len64.s0) (.int .u8 (n : Nat)) with | some (.int .u8 m) => m == ((bl n : Nat) : Int) | _ => false) = true := by kernel_rfl
  intro n hn
  have h := List.all_eq_true.1 this n (List.mem_range.2 hn)
  split at h
  · rename_i m hm; rw [hm]; simp at h; rw [h]
  · cases h



theorem len64_fin (y : Nat) (n : Int) (hy : y < 256) (h0 : 0 ≤ n) (hn : n < 100) (H : AHeap) : (
  bnd (pu H (idxStr (.str math_bits_Len64.s0) (.int .u8 (y : Int)))) fun v12 h12 =>
  bnd (pu h12 (convInt .i64 v12)) fun v13 h13 =>
  bnd (pu h13 (bin Tryd.prog .add 3 false (.int .i64 n) v13)) fun v14 h14 =>
  finV [v14] 0 h14) = some (.ret, [.int .i64 (n + bl y)], []) := by
  have hb : bl y ≤ 8 := by
    have : ∀ y < 256, bl y ≤ 8 := by decide +kernel
    exact this y hy
  rw [tab_bl y hy]
  simp only [pu_val, bnd_some, convInt_int, bin_add, finV_int]
  rw [wrap_of_i64 (n := (bl y : Int)) (by omega) (by omega), wrap_of_i64 (by omega) (by omega)]


theorem len64 (G : Globs) (k : Nat) (x : Nat) (hx : x < 2 ^ 64) : math_bits_Len64.f G (k + 1) [.int .u64 x] [] = some (.int .i64 (bl x : Nat), []) := by
  rw [math_bits_Len64.step]
  unfold math_bits_Len64.c
  have c1 : ∀ (y : Nat), ((4294967296 : Int) ≤ y) = (2 ^ 32 ≤ y) := fun y => by apply propext; omega
  have c2 : ∀ (y : Nat), ((65536 : Int) ≤ y) = (2 ^ 16 ≤ y) := fun y => by apply propext; omega
  have c3 : ∀ (y : Nat), ((256 : Int) ≤ y) = (2 ^ 8 ≤ y) := fun y => by apply propext; omega
  have w : ∀ n : Int, 0 ≤ n → n < 100 → IntKind.i64.wrap n = n := fun n h0 h1 => wrap_of_i64 (by omega) (by omega)
  have b : (16 : Nat) ≤ IntKind.u64.bits ∧ 32 ≤ IntKind.u64.bits ∧ 8 ≤ IntKind.u64.bits := by decide
  -- the three stages
  have s1 : ∃ (y : Nat) (n : Int), 0 ≤ n ∧ n ≤ 32 ∧ y < 2 ^ 32 ∧ (bl y : Int) + n = bl x ∧ (bnd (pu [] (bin Tryd.prog .geq 51 true (.int .u64 x) (.int .u64 4294967296))) fun v0 h0 =>
  condA v0
  (bnd (pu h0 (bin Tryd.prog .shr 51 true (.int .u64 x) (.int .u64 32))) fun v1 h1 =>
  some (Ex.normal, [v1, (.int .i64 32)], h1))
  (some (.normal, [.int .u64 x, (.int .i64 0)], h0))) = some (.normal, [.int .u64 y, .int .i64 n], []) := by
    by_cases h : 2 ^ 32 ≤ x
    · refine ⟨x / 2 ^ 32, 32, by omega, by omega, by omega, by have := bl_div 32 x h; omega, ?_⟩
      simp only [bin_geq, bin_shr_lit _ _ _ _ _ _ _ b.2.1, pu_val, bnd_some, c1, h, decide_true, condA_true]
    · refine ⟨x, 0, by omega, by omega, by omega, by omega, ?_⟩
      simp only [bin_geq, pu_val, bnd_some, c1, h, decide_false, condA_false]
  obtain ⟨y, n, hn0, hn, hy, hb, s1⟩ := s1
  simp only [List.length_nil]
  rw [s1]
  simp only [thenK_some, exK_normal, nth_zero, nth_succ]
  clear s1
  have s2 : ∃ (z : Nat) (m : Int), 0 ≤ m ∧ m ≤ 48 ∧ z < 2 ^ 16 ∧ (bl z : Int) + m = bl x ∧ (bnd (pu [] (bin Tryd.prog .geq 51 true (.int .u64 y) (.int .u64 65536))) fun v3 h3 =>
  condA v3
  (bnd (pu h3 (bin Tryd.prog .shr 51 true (.int .u64 y) (.int .u64 16))) fun v4 h4 =>
  bnd (pu h4 (bin Tryd.prog .add 3 true (.int .i64 n) (.int .i64 16))) fun v5 h5 =>
  some (Ex.normal, [v4, v5], h5))
  (some (.normal, [.int .u64 y, .int .i64 n], h3))) = some (.normal, [.int .u64 z, .int .i64 m], []) := by
    by_cases h : 2 ^ 16 ≤ y
    · refine ⟨y / 2 ^ 16, n + 16, by omega, by omega, by omega, by have := bl_div 16 y h; omega, ?_⟩
      simp only [bin_geq, bin_shr_lit _ _ _ _ _ _ _ b.1, bin_add, pu_val, bnd_some, c2, h, decide_true, condA_true]
      rw [w _ (by omega) (by omega)]
    · refine ⟨y, n, by omega, by omega, by omega, by omega, ?_⟩
      simp only [bin_geq, pu_val, bnd_some, c2, h, decide_false, condA_false]
  obtain ⟨z, m, hm0, hm, hz, hb, s2⟩ := s2
  rw [s2]
  simp only [thenK_some, exK_normal, nth_zero, nth_succ]
  clear s2
  have s3 : ∃ (z' : Nat) (m' : Int), 0 ≤ m' ∧ m' ≤ 56 ∧ z' < 2 ^ 8 ∧ (bl z' : Int) + m' = bl x ∧ (bnd (pu [] (bin Tryd.prog .geq 51 true (.int .u64 z) (.int .u64 256))) fun v7 h7 =>
  condA v7
  (bnd (pu h7 (bin Tryd.prog .shr 51 true (.int .u64 z) (.int .u64 8))) fun v8 h8 =>
  bnd (pu h8 (bin Tryd.prog .add 3 true (.int .i64 m) (.int .i64 8))) fun v9 h9 =>
  some (Ex.normal, [v8, v9], h9))
  (some (.normal, [.int .u64 z, .int .i64 m], h7))) = some (.normal, [.int .u64 z', .int .i64 m'], []) := by
    by_cases h : 2 ^ 8 ≤ z
    · refine ⟨z / 2 ^ 8, m + 8, by omega, by omega, by omega, by have := bl_div 8 z h; omega, ?_⟩
      simp only [bin_geq, bin_shr_lit _ _ _ _ _ _ _ b.2.2, bin_add, pu_val, bnd_some, c3, h, decide_true, condA_true]
      rw [w _ (by omega) (by omega)]
    · refine ⟨z, m, by omega, by omega, by omega, by omega, ?_⟩
      simp only [bin_geq, pu_val, bnd_some, c3, h, decide_false, condA_false]
  obtain ⟨z', m', hm0', hm', hz', hb, s3⟩ := s3
  rw [s3]
  simp only [thenK_some, exK_normal, nth_zero, nth_succ, convInt_int, pu_val, bnd_some]
  rw [wrap_of_u8 (by omega) (by omega), len64_fin z' m' (by omega) hm0' (by omega)]
  rw [outV_ret]
  congr 4
  omega

theorem len (G : Globs) (k : Nat) (x : Nat) (hx : x < 2 ^ 64) : math_bits_Len.f G (k + 2) [.int .u64 x] [] = some (.int .i64 (bl x : Nat), []) := by
  rw [math_bits_Len.step]
  unfold math_bits_Len.c
  simp only [condA_false, pureCall_of (len64 G k x hx) rfl rfl, bnd_some, List.length_nil, finV_int, outV_ret]

theorem width (G : Globs) (k : Nat) (n : Int) (hn : n < 9223372036854775808) : pack_Width.f G (k + 3) [.int .i64 n] [] = some (.int .i64 (bl n.toNat : Nat), []) := by
  rw [pack_Width.step]
  unfold pack_Width.c
  have e : IntKind.u64.wrap (max n 0) = (n.toNat : Int) := by rw [wrap_of_u64 (by omega) (by omega)]; omega
  simp only [max_two, pu_val, bnd_some, convInt_int, e, pureCall_of (len G k n.toNat (by omega)) rfl rfl, List.length_nil, finV_int, outV_ret]

theorem number (G : Globs) (k : Nat) (n m : Int) (h0 : 0 < m) (h1 : m < 9223372036854775808) (hn : -9223372036854775808 ≤ n) (hn' : n < 9223372036854775808) :
    alembicworld_Number.f G (k + 1) [.int .i64 n, .int .i64 m] [] = some (.int .i64 (n % m), []) := by
  rw [alembicworld_Number.step]
  unfold alembicworld_Number.c
  rw [bin_rem _ _ _ _ _ _ (by omega)]
  have hlt := Int.tmod_lt_of_pos n h0
  have hgt : -m < n.tmod m := by have := Int.tmod_lt_of_pos (-n) h0; rw [Int.neg_tmod] at this; omega
  have hm : n.tmod m % m = n % m := by
    rw [Int.tmod_eq_emod]; split
    · simp
    · have e : (m.natAbs : Int) = m := by omega
      simp [e]
  by_cases h : n.tmod m < 0
  · simp only [pu_val, bnd_some, bin_lss, h, decide_true, condA_true, bin_add, List.length_nil, finV_int, outV_ret]
    rw [wrap_of_i64 (by omega) (by omega)]
    congr 3
    rw [← hm, ← Int.add_emod_right]
    exact (Int.emod_eq_of_lt (by omega) (by omega)).symm
  · simp only [pu_val, bnd_some, bin_lss, h, decide_false, condA_false, List.length_nil, finV_int, outV_ret]
    congr 3
    rw [← hm]
    exact (Int.emod_eq_of_lt (by omega) (by omega)).symm
end Go.Proofs.YtemkaggjbhpbbaaDoor.Mir
