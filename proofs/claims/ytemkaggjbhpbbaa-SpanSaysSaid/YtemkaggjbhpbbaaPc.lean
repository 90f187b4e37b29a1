/- What the other functions of chapter 16 give: shifted, masked. -/
import Derived.Test.YtemkaggjbhpbbaaPb
import Derived.Laws.BitsAllLaws
namespace Go.Proofs.Ytemkaggjbhpbbaa.Mir
open Go
set_option linter.unusedVariables false
set_option linter.unusedSimpArgs false

theorem fin_sp {H : AHeap} {p q : Int} : finV [Sp p q] 0 H = some (.ret, [Sp p q], []) := finV_sp p q H
theorem has_spec (G : Globs) (k : Nat) (a b n : Int) : span_Has.f G (k + 1) [Sp a b, I n] [] = some (.bool (decide (a ≤ n) && decide (n ≤ b)), []) := by
  rw [span_Has.step]
  unfold span_Has.c
  cases h1 : decide (a ≤ n)
  · repeat first
      | refine oB (by first | (with_reducible exact rfl) | (simp [pu_val, boxRoA, boxA, fieldAddrV, loadV, loadC, storable, AV.cells, extractA, buildRo, buildOwn, fillE, buildSt, fillA, stS, storeV, recell, putC, lenSl, lenStr, idxAddrSl, idxAddrArr, allSome, h1]; first | done | (with_reducible exact rfl) | (with_reducible exact ⟨rfl, rfl⟩))) ?_
      | refine lB (by first | (with_reducible exact rfl) | (simp [pu_val, boxRoA, boxA, fieldAddrV, loadV, loadC, storable, AV.cells, extractA, buildRo, buildOwn, fillE, buildSt, fillA, stS, storeV, recell, putC, lenSl, lenStr, idxAddrSl, idxAddrArr, allSome, h1]; first | done | (with_reducible exact rfl) | (with_reducible exact ⟨rfl, rfl⟩))) ?_
      | refine oT ?_
      | refine oN ?_
      | refine oX ?_
      | refine oXn ?_
      | refine oXr ?_
      | exact oF (finV_bool ..)
      | apply oK
      | refine lT ?_
      | refine lN ?_
      | refine lX ?_
      | refine lXn ?_
      | refine lXr ?_
      | apply lK
      | refine oI ?_
      | refine oJ rfl ?_
      | refine lI ?_
      | refine lJ rfl ?_
      | (with_reducible exact rfl)
  · repeat first
      | refine oB (by first | (with_reducible exact rfl) | (simp [pu_val, boxRoA, boxA, fieldAddrV, loadV, loadC, storable, AV.cells, extractA, buildRo, buildOwn, fillE, buildSt, fillA, stS, storeV, recell, putC, lenSl, lenStr, idxAddrSl, idxAddrArr, allSome, h1]; first | done | (with_reducible exact rfl) | (with_reducible exact ⟨rfl, rfl⟩))) ?_
      | refine lB (by first | (with_reducible exact rfl) | (simp [pu_val, boxRoA, boxA, fieldAddrV, loadV, loadC, storable, AV.cells, extractA, buildRo, buildOwn, fillE, buildSt, fillA, stS, storeV, recell, putC, lenSl, lenStr, idxAddrSl, idxAddrArr, allSome, h1]; first | done | (with_reducible exact rfl) | (with_reducible exact ⟨rfl, rfl⟩))) ?_
      | refine oT ?_
      | refine oN ?_
      | refine oX ?_
      | refine oXn ?_
      | refine oXr ?_
      | exact oF (finV_bool ..)
      | apply oK
      | refine lT ?_
      | refine lN ?_
      | refine lX ?_
      | refine lXn ?_
      | refine lXr ?_
      | apply lK
      | refine oI ?_
      | refine oJ rfl ?_
      | refine lI ?_
      | refine lJ rfl ?_
      | (with_reducible exact rfl)

theorem number (G : Globs) (k : Nat) (n m : Int) (h0 : 0 < m) (h1 : m < 9223372036854775808) (hn : -9223372036854775808 ≤ n) (hn' : n < 9223372036854775808) :
    alembicworld_Number.f G (k + 1) [.int .i64 n, .int .i64 m] [] = some (.int .i64 (n % m), []) := by
  rw [alembicworld_Number.step]
  unfold alembicworld_Number.c
  rw [bin_rem _ _ _ _ _ _ (by omega)]
  have hlt := Int.tmod_lt_of_pos n h0
  have hgt : -m < n.tmod m := by have := Int.tmod_lt_of_pos (-n) h0; rw [Int.neg_tmod] at this; omega
  have hm : n.tmod m % m = n % m := by
    rw [Int.tmod_eq_emod]; split
    · simp
    · have e : (m.natAbs : Int) = m := by omega
      simp [e]
  by_cases h : n.tmod m < 0
  · simp only [pu_val, bnd_some, bin_lss, h, decide_true, condA_true, bin_add, List.length_nil, finV_int, outV_ret]
    rw [wrap_of_i64 (by omega) (by omega)]
    congr 3
    rw [← hm, ← Int.add_emod_right]
    exact (Int.emod_eq_of_lt (by omega) (by omega)).symm
  · simp only [pu_val, bnd_some, bin_lss, h, decide_false, condA_false, List.length_nil, finV_int, outV_ret]
    congr 3
    rw [← hm]
    exact (Int.emod_eq_of_lt (by omega) (by omega)).symm

theorem pow62 (k : Nat) (h : k ≤ 62) : (2 : Int) ^ k = ((2 ^ k : Nat) : Int) ∧ 1 ≤ (2 : Int) ^ k ∧ (2 : Int) ^ k ≤ 4611686018427387904 := by
  have h1 : 2 ^ k ≤ 2 ^ 62 := Nat.pow_le_pow_right (by decide) h
  have h2 := Nat.two_pow_pos k
  have e : (2 : Int) ^ k = ((2 ^ k : Nat) : Int) := by push_cast; rfl
  rw [e]
  refine ⟨rfl, by omega, by omega⟩

def shlV (a b k : Int) : AV := if k < 0 ∨ 62 < k then .tup [Sp 0 0, .bool false] else
  spanS (decide (a ≤ b) && numB (a * 2 ^ k.toNat) && numB (b * 2 ^ k.toNat)) (a * 2 ^ k.toNat) (b * 2 ^ k.toNat)

theorem shl_spec (G : Globs) (j : Nat) (a b k : Int) (ha : Rg a) (hb : Rg b) : span_Shl.f G (j + 30) [Sp a b, I k] [] = some (shlV a b k, []) := by
  rw [span_Shl.step]
  unfold span_Shl.c shlV
  by_cases h1 : k < 0
  · rw [if_pos (.inl h1)]
    repeat first
      | refine oB (by first | (with_reducible exact rfl) | (simp [pu_val, boxRoA, boxA, fieldAddrV, loadV, loadC, storable, AV.cells, extractA, buildRo, buildOwn, fillE, buildSt, fillA, stS, storeV, recell, putC, lenSl, lenStr, idxAddrSl, idxAddrArr, allSome, h1]; first | done | (with_reducible exact rfl) | (with_reducible exact ⟨rfl, rfl⟩))) ?_
      | refine lB (by first | (with_reducible exact rfl) | (simp [pu_val, boxRoA, boxA, fieldAddrV, loadV, loadC, storable, AV.cells, extractA, buildRo, buildOwn, fillE, buildSt, fillA, stS, storeV, recell, putC, lenSl, lenStr, idxAddrSl, idxAddrArr, allSome, h1]; first | done | (with_reducible exact rfl) | (with_reducible exact ⟨rfl, rfl⟩))) ?_
      | refine oT ?_
      | refine oN ?_
      | refine oX ?_
      | refine oXn ?_
      | refine oXr ?_
      | exact oF (finV_bool ..)
      | apply oK
      | refine lT ?_
      | refine lN ?_
      | refine lX ?_
      | refine lXn ?_
      | refine lXr ?_
      | apply lK
      | refine oI ?_
      | refine oJ rfl ?_
      | refine lI ?_
      | refine lJ rfl ?_
      | (with_reducible exact rfl)
    refine oF ?_
    simp [pu_val, boxRoA, boxA, fieldAddrV, loadV, loadC, storable, AV.cells, extractA, buildRo, buildOwn, fillE, buildSt, fillA, stS, storeV, recell, putC, lenSl, lenStr, idxAddrSl, idxAddrArr, allSome, finL, finV_span]
  by_cases h2 : 62 < k
  · rw [if_pos (.inr h2)]
    repeat first
      | refine oB (by first | (with_reducible exact rfl) | (simp [pu_val, boxRoA, boxA, fieldAddrV, loadV, loadC, storable, AV.cells, extractA, buildRo, buildOwn, fillE, buildSt, fillA, stS, storeV, recell, putC, lenSl, lenStr, idxAddrSl, idxAddrArr, allSome, h1, h2]; first | done | (with_reducible exact rfl) | (with_reducible exact ⟨rfl, rfl⟩))) ?_
      | refine lB (by first | (with_reducible exact rfl) | (simp [pu_val, boxRoA, boxA, fieldAddrV, loadV, loadC, storable, AV.cells, extractA, buildRo, buildOwn, fillE, buildSt, fillA, stS, storeV, recell, putC, lenSl, lenStr, idxAddrSl, idxAddrArr, allSome, h1, h2]; first | done | (with_reducible exact rfl) | (with_reducible exact ⟨rfl, rfl⟩))) ?_
      | refine oT ?_
      | refine oN ?_
      | refine oX ?_
      | refine oXn ?_
      | refine oXr ?_
      | exact oF (finV_bool ..)
      | apply oK
      | refine lT ?_
      | refine lN ?_
      | refine lX ?_
      | refine lXn ?_
      | refine lXr ?_
      | apply lK
      | refine oI ?_
      | refine oJ rfl ?_
      | refine lI ?_
      | refine lJ rfl ?_
      | (with_reducible exact rfl)
    refine oF ?_
    simp [pu_val, boxRoA, boxA, fieldAddrV, loadV, loadC, storable, AV.cells, extractA, buildRo, buildOwn, fillE, buildSt, fillA, stS, storeV, recell, putC, lenSl, lenStr, idxAddrSl, idxAddrArr, allSome, finL, finV_span]
  rw [if_neg (by omega)]
  obtain ⟨n, rfl⟩ : ∃ n : Nat, k = n := ⟨k.toNat, by omega⟩
  obtain ⟨e1, e2, e3⟩ := pow62 n (by omega)
  have c1 : bin Try.prog .shl 2 false (.int .i64 1) (.int .i64 (n : Int)) = some (I (2 ^ n)) := by
    rw [bin_shl _ _ _ _ _ _ _ (Int.natCast_nonneg n)]
    have e : min ((n : Int)).toNat IntKind.i64.bits = n := by rw [Int.toNat_natCast]; exact Nat.min_eq_left (by have : IntKind.i64.bits = 64 := rfl; omega)
    rw [e, Int.one_mul, wrap_of_i64 (by omega) (by omega)]
  have c1' : bin Try.prog .shl 2 true (.int .i64 1) (.int .i64 (n : Int)) = some (I (2 ^ n)) := c1
  have s : ((n : Int)).toNat = n := Int.toNat_natCast n
  rw [s]
  have m := mul_spec G (j + 9) a b (2 ^ n) (2 ^ n) ha hb ⟨by omega, by omega⟩ ⟨by omega, by omega⟩
  have e4 : (decide (a ≤ b) && decide ((2 : Int) ^ n ≤ 2 ^ n) && numB (a * 2 ^ n) && numB (a * 2 ^ n) && numB (b * 2 ^ n) && numB (b * 2 ^ n)) = (decide (a ≤ b) && numB (a * 2 ^ n) && numB (b * 2 ^ n)) := by
    rw [decide_eq_true (Int.le_refl _), Bool.and_true, Bool.and_assoc (decide (a ≤ b)), Bool.and_self, Bool.and_assoc _ (numB (b * 2 ^ n)), Bool.and_self]
  rw [e4] at m
  have hm : ∀ H, pureCall (span_Mul.f G (j + 29)) [Sp a b, Sp (2 ^ n) (2 ^ n)] H = some (spanS (decide (a ≤ b) && numB (a * 2 ^ n) && numB (b * 2 ^ n)) (a * 2 ^ n) (b * 2 ^ n), H) := fun H => by
    by_cases hab : a ≤ b
    · have h3 : a * 2 ^ n ≤ b * 2 ^ n := Int.mul_le_mul_of_nonneg_right hab (by omega)
      have e5 : min (a * 2 ^ n) (min (a * 2 ^ n) (min (b * 2 ^ n) (b * 2 ^ n))) = a * 2 ^ n := by omega
      have e6 : max (a * 2 ^ n) (max (a * 2 ^ n) (max (b * 2 ^ n) (b * 2 ^ n))) = b * 2 ^ n := by omega
      rw [e5, e6] at m
      exact pureCall_of m rfl (by unfold spanS; split <;> rfl)
    · rw [decide_eq_false hab, Bool.false_and, Bool.false_and] at m ⊢
      exact pureCall_of m rfl rfl
  generalize (decide (a ≤ b) && numB (a * 2 ^ n) && numB (b * 2 ^ n)) = p at hm
  generalize (2 : Int) ^ n = w at c1 c1' hm
  have h1' : ¬ ((n : Int) < 0) := h1
  cases p <;>
    simp [pu_val, boxRoA, boxA, fieldAddrV, loadV, loadC, storable, AV.cells, extractA, buildRo, buildOwn, fillE, buildSt, fillA, stS, storeV, recell, putC, lenSl, lenStr, idxAddrSl, idxAddrArr, allSome, h1, h2, c1, c1', hm, spanS, finL, finV_span]

def sarV (a b k : Int) : AV := if b < a ∨ k < 0 ∨ 63 < k then Sp 0 0 else Sp (a.fdiv (2 ^ k.toNat)) (b.fdiv (2 ^ k.toNat))
theorem sar_spec (G : Globs) (j : Nat) (a b k : Int) : span_Sar.f G (j + 30) [Sp a b, I k] [] = some (sarV a b k, []) := by
  have r1 : ∀ H, pureCall (span_Is.f G (j + 29)) [Sp a b] H = _ := fun H => pureCall_of (H := H) (is_spec G (j + 28) a b) rfl rfl
  rw [span_Sar.step]
  unfold span_Sar.c sarV
  by_cases h0 : b < a
  · have h0' : decide (a ≤ b) = false := decide_eq_false (by omega)
    rw [if_pos (.inl h0)]
    simp only [h0'] at r1
    repeat first
      | refine oB (by first | (with_reducible exact rfl) | (simp [pu_val, boxRoA, boxA, fieldAddrV, loadV, loadC, storable, AV.cells, extractA, buildRo, buildOwn, fillE, buildSt, fillA, stS, storeV, recell, putC, lenSl, lenStr, idxAddrSl, idxAddrArr, allSome, r1]; first | done | (with_reducible exact rfl) | (with_reducible exact ⟨rfl, rfl⟩))) ?_
      | refine lB (by first | (with_reducible exact rfl) | (simp [pu_val, boxRoA, boxA, fieldAddrV, loadV, loadC, storable, AV.cells, extractA, buildRo, buildOwn, fillE, buildSt, fillA, stS, storeV, recell, putC, lenSl, lenStr, idxAddrSl, idxAddrArr, allSome, r1]; first | done | (with_reducible exact rfl) | (with_reducible exact ⟨rfl, rfl⟩))) ?_
      | refine oT ?_
      | refine oN ?_
      | refine oX ?_
      | refine oXn ?_
      | refine oXr ?_
      | exact oF (finV_bool ..)
      | apply oK
      | refine lT ?_
      | refine lN ?_
      | refine lX ?_
      | refine lXn ?_
      | refine lXr ?_
      | apply lK
      | refine oI ?_
      | refine oJ rfl ?_
      | refine lI ?_
      | refine lJ rfl ?_
      | (with_reducible exact rfl)
    refine oF ?_
    simp [pu_val, boxRoA, boxA, fieldAddrV, loadV, loadC, storable, AV.cells, extractA, buildRo, buildOwn, fillE, buildSt, fillA, stS, storeV, recell, putC, lenSl, lenStr, idxAddrSl, idxAddrArr, allSome, finL, finV_sp]
  have h0' : decide (a ≤ b) = true := decide_eq_true (by omega)
  simp only [h0'] at r1
  by_cases h1 : k < 0
  · rw [if_pos (.inr (.inl h1))]
    repeat first
      | refine oB (by first | (with_reducible exact rfl) | (simp [pu_val, boxRoA, boxA, fieldAddrV, loadV, loadC, storable, AV.cells, extractA, buildRo, buildOwn, fillE, buildSt, fillA, stS, storeV, recell, putC, lenSl, lenStr, idxAddrSl, idxAddrArr, allSome, r1, h1]; first | done | (with_reducible exact rfl) | (with_reducible exact ⟨rfl, rfl⟩))) ?_
      | refine lB (by first | (with_reducible exact rfl) | (simp [pu_val, boxRoA, boxA, fieldAddrV, loadV, loadC, storable, AV.cells, extractA, buildRo, buildOwn, fillE, buildSt, fillA, stS, storeV, recell, putC, lenSl, lenStr, idxAddrSl, idxAddrArr, allSome, r1, h1]; first | done | (with_reducible exact rfl) | (with_reducible exact ⟨rfl, rfl⟩))) ?_
      | refine oT ?_
      | refine oN ?_
      | refine oX ?_
      | refine oXn ?_
      | refine oXr ?_
      | exact oF (finV_bool ..)
      | apply oK
      | refine lT ?_
      | refine lN ?_
      | refine lX ?_
      | refine lXn ?_
      | refine lXr ?_
      | apply lK
      | refine oI ?_
      | refine oJ rfl ?_
      | refine lI ?_
      | refine lJ rfl ?_
      | (with_reducible exact rfl)
    refine oF ?_
    simp [pu_val, boxRoA, boxA, fieldAddrV, loadV, loadC, storable, AV.cells, extractA, buildRo, buildOwn, fillE, buildSt, fillA, stS, storeV, recell, putC, lenSl, lenStr, idxAddrSl, idxAddrArr, allSome, finL, finV_sp]
  by_cases h2 : 63 < k
  · rw [if_pos (.inr (.inr h2))]
    repeat first
      | refine oB (by first | (with_reducible exact rfl) | (simp [pu_val, boxRoA, boxA, fieldAddrV, loadV, loadC, storable, AV.cells, extractA, buildRo, buildOwn, fillE, buildSt, fillA, stS, storeV, recell, putC, lenSl, lenStr, idxAddrSl, idxAddrArr, allSome, r1, h1, h2]; first | done | (with_reducible exact rfl) | (with_reducible exact ⟨rfl, rfl⟩))) ?_
      | refine lB (by first | (with_reducible exact rfl) | (simp [pu_val, boxRoA, boxA, fieldAddrV, loadV, loadC, storable, AV.cells, extractA, buildRo, buildOwn, fillE, buildSt, fillA, stS, storeV, recell, putC, lenSl, lenStr, idxAddrSl, idxAddrArr, allSome, r1, h1, h2]; first | done | (with_reducible exact rfl) | (with_reducible exact ⟨rfl, rfl⟩))) ?_
      | refine oT ?_
      | refine oN ?_
      | refine oX ?_
      | refine oXn ?_
      | refine oXr ?_
      | exact oF (finV_bool ..)
      | apply oK
      | refine lT ?_
      | refine lN ?_
      | refine lX ?_
      | refine lXn ?_
      | refine lXr ?_
      | apply lK
      | refine oI ?_
      | refine oJ rfl ?_
      | refine lI ?_
      | refine lJ rfl ?_
      | (with_reducible exact rfl)
    refine oF ?_
    simp [pu_val, boxRoA, boxA, fieldAddrV, loadV, loadC, storable, AV.cells, extractA, buildRo, buildOwn, fillE, buildSt, fillA, stS, storeV, recell, putC, lenSl, lenStr, idxAddrSl, idxAddrArr, allSome, finL, finV_sp]
  rw [if_neg (by omega)]
  have e : min k.toNat IntKind.i64.bits = k.toNat := Nat.min_eq_left (by have : IntKind.i64.bits = 64 := rfl; omega)
  have c1 : bin Try.prog .shr 2 false (.int .i64 a) (.int .i64 k) = some (I (a.fdiv (2 ^ k.toNat))) := by
    rw [bin_shr _ _ _ _ _ _ _ (by omega), e]
  have c2 : bin Try.prog .shr 2 false (.int .i64 b) (.int .i64 k) = some (I (b.fdiv (2 ^ k.toNat))) := by
    rw [bin_shr _ _ _ _ _ _ _ (by omega), e]
  repeat first
    | refine oB (by first | (with_reducible exact rfl) | (simp [pu_val, boxRoA, boxA, fieldAddrV, loadV, loadC, storable, AV.cells, extractA, buildRo, buildOwn, fillE, buildSt, fillA, stS, storeV, recell, putC, lenSl, lenStr, idxAddrSl, idxAddrArr, allSome, r1, h1, h2, c1, c2]; first | done | (with_reducible exact rfl) | (with_reducible exact ⟨rfl, rfl⟩))) ?_
    | refine lB (by first | (with_reducible exact rfl) | (simp [pu_val, boxRoA, boxA, fieldAddrV, loadV, loadC, storable, AV.cells, extractA, buildRo, buildOwn, fillE, buildSt, fillA, stS, storeV, recell, putC, lenSl, lenStr, idxAddrSl, idxAddrArr, allSome, r1, h1, h2, c1, c2]; first | done | (with_reducible exact rfl) | (with_reducible exact ⟨rfl, rfl⟩))) ?_
    | refine oT ?_
    | refine oN ?_
    | refine oX ?_
    | refine oXn ?_
    | refine oXr ?_
    | exact oF (finV_bool ..)
    | apply oK
    | refine lT ?_
    | refine lN ?_
    | refine lX ?_
    | refine lXn ?_
    | refine lXr ?_
    | apply lK
    | refine oI ?_
    | refine oJ rfl ?_
    | refine lI ?_
    | refine lJ rfl ?_
    | (with_reducible exact rfl)
  refine oF ?_
  simp [pu_val, boxRoA, boxA, fieldAddrV, loadV, loadC, storable, AV.cells, extractA, buildRo, buildOwn, fillE, buildSt, fillA, stS, storeV, recell, putC, lenSl, lenStr, idxAddrSl, idxAddrArr, allSome, finL, finV_sp]

def andV (a b c d : Int) : AV :=
  if decide (a ≤ b) && decide (c ≤ d) then (if 0 ≤ a ∧ 0 ≤ c then Sp 0 (min b d) else if 0 ≤ a then Sp 0 b else if 0 ≤ c then Sp 0 d else Sp (-9223372036854775808) 9223372036854775807) else Sp 0 0
theorem all_spec (G : Globs) (j : Nat) : span_All.f G (j + 1) [] [] = some (Sp (-9223372036854775808) 9223372036854775807, []) := by kernel_rfl
theorem and_spec (G : Globs) (j : Nat) (a b c d : Int) : span_And.f G (j + 30) [Sp a b, Sp c d] [] = some (andV a b c d, []) := by
  have r1 : ∀ H, pureCall (span_Is.f G (j + 29)) [Sp a b] H = _ := fun H => pureCall_of (H := H) (is_spec G (j + 28) a b) rfl rfl
  have r2 : ∀ H, pureCall (span_Is.f G (j + 29)) [Sp c d] H = _ := fun H => pureCall_of (H := H) (is_spec G (j + 28) c d) rfl rfl
  have r3 : ∀ H, pureCall (span_All.f G (j + 29)) [] H = _ := fun H => pureCall_of (H := H) (all_spec G (j + 28)) rfl rfl
  rw [span_And.step]
  unfold span_And.c andV
  cases h1 : decide (a ≤ b) <;> cases h2 : decide (c ≤ d) <;> simp only [h1, h2] at r1 r2
  case true.true =>
    by_cases h3 : 0 ≤ a <;> by_cases h4 : 0 ≤ c
    all_goals repeat first
      | refine oB (by first | (with_reducible exact rfl) | (simp [pu_val, boxRoA, boxA, fieldAddrV, loadV, loadC, storable, AV.cells, extractA, buildRo, buildOwn, fillE, buildSt, fillA, stS, storeV, recell, putC, lenSl, lenStr, idxAddrSl, idxAddrArr, allSome, r1, r2, r3, h3, h4, min2']; first | done | (with_reducible exact rfl) | (with_reducible exact ⟨rfl, rfl⟩))) ?_
      | refine lB (by first | (with_reducible exact rfl) | (simp [pu_val, boxRoA, boxA, fieldAddrV, loadV, loadC, storable, AV.cells, extractA, buildRo, buildOwn, fillE, buildSt, fillA, stS, storeV, recell, putC, lenSl, lenStr, idxAddrSl, idxAddrArr, allSome, r1, r2, r3, h3, h4, min2']; first | done | (with_reducible exact rfl) | (with_reducible exact ⟨rfl, rfl⟩))) ?_
      | refine oT ?_
      | refine oN ?_
      | refine oX ?_
      | refine oXn ?_
      | refine oXr ?_
      | exact oF (finV_bool ..)
      | apply oK
      | refine lT ?_
      | refine lN ?_
      | refine lX ?_
      | refine lXn ?_
      | refine lXr ?_
      | apply lK
      | refine oI ?_
      | refine oJ rfl ?_
      | refine lI ?_
      | refine lJ rfl ?_
      | (with_reducible exact rfl)
    all_goals refine oF ?_
    all_goals simp [pu_val, boxRoA, boxA, fieldAddrV, loadV, loadC, storable, AV.cells, extractA, buildRo, buildOwn, fillE, buildSt, fillA, stS, storeV, recell, putC, lenSl, lenStr, idxAddrSl, idxAddrArr, allSome, finL, finV_sp, h3, h4]
  all_goals repeat first
    | refine oB (by first | (with_reducible exact rfl) | (simp [pu_val, boxRoA, boxA, fieldAddrV, loadV, loadC, storable, AV.cells, extractA, buildRo, buildOwn, fillE, buildSt, fillA, stS, storeV, recell, putC, lenSl, lenStr, idxAddrSl, idxAddrArr, allSome, r1, r2]; first | done | (with_reducible exact rfl) | (with_reducible exact ⟨rfl, rfl⟩))) ?_
    | refine lB (by first | (with_reducible exact rfl) | (simp [pu_val, boxRoA, boxA, fieldAddrV, loadV, loadC, storable, AV.cells, extractA, buildRo, buildOwn, fillE, buildSt, fillA, stS, storeV, recell, putC, lenSl, lenStr, idxAddrSl, idxAddrArr, allSome, r1, r2]; first | done | (with_reducible exact rfl) | (with_reducible exact ⟨rfl, rfl⟩))) ?_
    | refine oT ?_
    | refine oN ?_
    | refine oX ?_
    | refine oXn ?_
    | refine oXr ?_
    | exact oF (finV_bool ..)
    | apply oK
    | refine lT ?_
    | refine lN ?_
    | refine lX ?_
    | refine lXn ?_
    | refine lXr ?_
    | apply lK
    | refine oI ?_
    | refine oJ rfl ?_
    | refine lI ?_
    | refine lJ rfl ?_
    | (with_reducible exact rfl)
  all_goals refine oF ?_
  all_goals simp [pu_val, boxRoA, boxA, fieldAddrV, loadV, loadC, storable, AV.cells, extractA, buildRo, buildOwn, fillE, buildSt, fillA, stS, storeV, recell, putC, lenSl, lenStr, idxAddrSl, idxAddrArr, allSome, finL, finV_sp]
end Go.Proofs.Ytemkaggjbhpbbaa.Mir
