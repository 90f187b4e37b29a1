/- What an instruction makes of words. -/
import Derived.Test.YtcmblhedhgiofaaDoorMirY
import Derived.Test.YtcmblhedhgiofaaDoorMirZ
import Derived.Test.YtcmblhedhgiofaaDoorWFun
import Derived.KernelRfl
namespace Go.Proofs.YtcmblhedhgiofaaDoor.Mir
open Go
set_option linter.unusedVariables false
set_option linter.unusedSimpArgs false

abbrev Un (n : Nat) : AV := .int .u64 (n : Int)
abbrev Nn (n : Nat) : AV := .int .i64 (n : Int)
abbrev I6 (n : Int) : AV := .int .i64 n

theorem ofInt_u64 (a : Nat) (h : a < 18446744073709551616) : (BitVec.ofInt 64 (a : Int)).toNat = a := by
  rw [BitVec.toNat_ofInt]
  omega
theorem u64_and (a b : Nat) (ha : a < 18446744073709551616) (hb : b < 18446744073709551616) : bits .and .u64 (a : Int) (b : Int) = ((a &&& b : Nat) : Int) := by
  have hx : a &&& b ≤ a := Nat.and_le_left
  show IntKind.u64.wrap ((BitVec.ofInt 64 (a : Int) &&& BitVec.ofInt 64 (b : Int)).toNat : Int) = _
  rw [BitVec.toNat_and, ofInt_u64 a ha, ofInt_u64 b hb, wrap_of_u64 (by omega) (by omega)]
theorem u64_or (a b : Nat) (ha : a < 18446744073709551616) (hb : b < 18446744073709551616) : bits .or .u64 (a : Int) (b : Int) = ((a ||| b : Nat) : Int) := by
  have hx : a ||| b < 2 ^ 64 := Nat.or_lt_two_pow (by omega) (by omega)
  show IntKind.u64.wrap ((BitVec.ofInt 64 (a : Int) ||| BitVec.ofInt 64 (b : Int)).toNat : Int) = _
  rw [BitVec.toNat_or, ofInt_u64 a ha, ofInt_u64 b hb, wrap_of_u64 (by omega) (by omega)]
theorem u64_xor (a b : Nat) (ha : a < 18446744073709551616) (hb : b < 18446744073709551616) : bits .xor .u64 (a : Int) (b : Int) = ((a ^^^ b : Nat) : Int) := by
  have hx : a ^^^ b < 2 ^ 64 := Nat.xor_lt_two_pow (by omega) (by omega)
  show IntKind.u64.wrap ((BitVec.ofInt 64 (a : Int) ^^^ BitVec.ofInt 64 (b : Int)).toNat : Int) = _
  rw [BitVec.toNat_xor, ofInt_u64 a ha, ofInt_u64 b hb, wrap_of_u64 (by omega) (by omega)]
theorem wrap_u64_nat (n : Nat) : IntKind.u64.wrap (n : Int) = ((n % 18446744073709551616 : Nat) : Int) := by rw [wrap_u64_eq]; rfl
theorem u64_add (P : Program) (t : Nat) (c : Bool) (a b : Nat) : bin P .add t c (Un a) (Un b) = some (Un ((a + b) % 18446744073709551616)) := by
  rw [bin_add, ← Int.natCast_add, wrap_u64_nat]
theorem u64_mul (P : Program) (t : Nat) (c : Bool) (a b : Nat) : bin P .mul t c (Un a) (Un b) = some (Un (a * b % 18446744073709551616)) := by
  rw [bin_mul, ← Int.natCast_mul, wrap_u64_nat]
theorem u64_sub (P : Program) (t : Nat) (c : Bool) (a b : Nat) (hb : b < 18446744073709551616) : bin P .sub t c (Un a) (Un b) = some (Un ((a + 18446744073709551616 - b) % 18446744073709551616)) := by
  rw [bin_sub, wrap_u64_eq]; congr 2; omega
theorem u64_shr (P : Program) (t : Nat) (c : Bool) (k : IntKind) (a n : Nat) (h : n ≤ 64) : bin P .shr t c (Un a) (.int k (n : Int)) = some (Un (a / 2 ^ n)) := by
  rw [bin_shr _ _ _ _ _ _ _ (Int.natCast_nonneg n)]
  have e : min ((n : Int)).toNat IntKind.u64.bits = n := by rw [Int.toNat_natCast]; exact Nat.min_eq_left h
  rw [e, fdiv_pow_nat]
theorem u64_shl (P : Program) (t : Nat) (c : Bool) (k : IntKind) (a n : Nat) (h : n ≤ 64) : bin P .shl t c (Un a) (.int k (n : Int)) = some (Un (a * 2 ^ n % 18446744073709551616)) := by
  rw [bin_shl _ _ _ _ _ _ _ (Int.natCast_nonneg n)]
  have e : min ((n : Int)).toNat IntKind.u64.bits = n := by rw [Int.toNat_natCast]; exact Nat.min_eq_left h
  have e2 : ((a : Int) * 2 ^ n : Int) = ((a * 2 ^ n : Nat) : Int) := by push_cast; rfl
  rw [e, e2, wrap_u64_nat]

/-- A word with its sign. -/
def s64 (a : Nat) : Int := if a ≥ 9223372036854775808 then (a : Int) - 18446744073709551616 else (a : Int)
/-- A number as a word. -/
def u64 (n : Int) : Nat := (n % 18446744073709551616).toNat
theorem u64_lt (n : Int) : u64 n < 18446744073709551616 := by unfold u64; omega
theorem conv_i64 (a : Nat) (h : a < 18446744073709551616) : convInt .i64 (Un a) = some (I6 (s64 a)) := by
  rw [convInt_int, wrap_i64_eq]; unfold s64; congr 2; split <;> split <;> omega
theorem conv_u64 (k : IntKind) (n : Int) : convInt .u64 (.int k n) = some (Un (u64 n)) := by
  rw [convInt_int, wrap_u64_eq]; unfold u64; congr 2; omega
theorem u64_s64 (a : Nat) (h : a < 18446744073709551616) : u64 (s64 a) = a := by unfold u64 s64; split <;> omega
theorem s64_u64 (n : Int) (h : -9223372036854775808 ≤ n ∧ n < 9223372036854775808) : s64 (u64 n) = n := by unfold u64 s64; split <;> omega
theorem s64_range (a : Nat) (h : a < 18446744073709551616) : -9223372036854775808 ≤ s64 a ∧ s64 a < 9223372036854775808 := by unfold s64; split <;> omega
theorem u64_nat (n : Nat) (h : n < 18446744073709551616) : u64 (n : Int) = n := by unfold u64; omega

/-- The sign's shift. -/
def sarF (a n : Nat) : Nat := u64 ((s64 a).fdiv (2 ^ n))

/-- Of a shift. -/
def shiftF (op k : Int) (a : Nat) : Nat × Bool :=
  if k < 0 ∨ 63 < k then (0, false)
  else if op = 10 then (a * 2 ^ k.toNat % 18446744073709551616, true)
  else if op = 11 then (a / 2 ^ k.toNat, true)
  else (sarF a k.toNat, true)

/-- What an instruction makes of words. -/
def valF (op k : Int) (a b c : Nat) : Nat × Bool :=
  if op = 1 then (u64 k, true)
  else if op = 2 then (a, true)
  else if op = 3 then ((a + b) % 18446744073709551616, true)
  else if op = 4 then ((a + 18446744073709551616 - b) % 18446744073709551616, true)
  else if op = 5 then (a * b % 18446744073709551616, true)
  else if op = 6 then (a * b / 18446744073709551616, true)
  else if op = 7 then (a &&& b, true)
  else if op = 8 then (a ||| b, true)
  else if op = 9 then (a ^^^ b, true)
  else if op = 10 ∨ op = 11 ∨ op = 12 then shiftF op k a
  else if op = 13 then (if a < b then 1 else 0, true)
  else if op = 14 then (if a ≠ 0 then b else c, true)
  else (0, false)

/-- An instruction. -/
def instV (op d a b c k : Int) : AV := .agg [I6 op, I6 d, I6 a, I6 b, I6 c, I6 k]

theorem bit_spec (G : Globs) (k : Nat) (b : Bool) : words_bit.f G (k + 1) [.bool b] [] = some (Un (if b = true then 1 else 0), []) := by
  cases b <;> kernel_rfl

theorem shifted_spec (G : Globs) (k : Nat) (op d a b c n : Int) (x : Nat) (hx : x < 18446744073709551616) :
    words_shifted.f G (k + 1) [instV op d a b c n, Un x] [] = some (.tup [Un (shiftF op n x).1, .bool (shiftF op n x).2], []) := by
  rw [words_shifted.step]
  unfold words_shifted.c instV
  by_cases h0 : n < 0
  · have e : shiftF op n x = (0, false) := by unfold shiftF; rw [if_pos (.inl h0)]
    rw [e]
    have c1 : bin Tryd.prog .lss 2 true (I6 n) (.int .i64 0) = some (.bool true) := by rw [bin_lss, decide_eq_true h0]
    repeat first
      | refine oB (by first | (with_reducible exact rfl) | (simp [pu_val, boxRoA, boxA, fieldAddrV, loadV, loadC, storable, AV.cells, extractA, buildRo, buildOwn, fillE, buildSt, fillA, stS, storeV, recell, putC, lenSl, lenStr, idxAddrSl, idxAddrArr, allSome, c1]; first | done | (with_reducible exact rfl) | (with_reducible exact ⟨rfl, rfl⟩))) ?_
      | refine lB (by first | (with_reducible exact rfl) | (simp [pu_val, boxRoA, boxA, fieldAddrV, loadV, loadC, storable, AV.cells, extractA, buildRo, buildOwn, fillE, buildSt, fillA, stS, storeV, recell, putC, lenSl, lenStr, idxAddrSl, idxAddrArr, allSome, c1]; first | done | (with_reducible exact rfl) | (with_reducible exact ⟨rfl, rfl⟩))) ?_
      | refine oT ?_
      | refine oN ?_
      | refine oX ?_
      | refine oXn ?_
      | refine oXr ?_
      | exact oF (finV_bool ..)
      | apply oK
      | refine lT ?_
      | refine lN ?_
      | refine lX ?_
      | refine lXn ?_
      | refine lXr ?_
      | apply lK
      | refine oI ?_
      | refine oJ rfl ?_
      | refine lI ?_
      | refine lJ rfl ?_
      | (with_reducible exact rfl)
    exact oF (finV_two rfl rfl _)
  have c1 : bin Tryd.prog .lss 2 true (I6 n) (.int .i64 0) = some (.bool false) := by rw [bin_lss, decide_eq_false h0]
  by_cases h1 : 63 < n
  · have e : shiftF op n x = (0, false) := by unfold shiftF; rw [if_pos (.inr h1)]
    rw [e]
    have c2 : bin Tryd.prog .gtr 2 true (I6 n) (.int .i64 63) = some (.bool true) := by rw [bin_gtr, decide_eq_true h1]
    repeat first
      | refine oB (by first | (with_reducible exact rfl) | (simp [pu_val, boxRoA, boxA, fieldAddrV, loadV, loadC, storable, AV.cells, extractA, buildRo, buildOwn, fillE, buildSt, fillA, stS, storeV, recell, putC, lenSl, lenStr, idxAddrSl, idxAddrArr, allSome, c1, c2]; first | done | (with_reducible exact rfl) | (with_reducible exact ⟨rfl, rfl⟩))) ?_
      | refine lB (by first | (with_reducible exact rfl) | (simp [pu_val, boxRoA, boxA, fieldAddrV, loadV, loadC, storable, AV.cells, extractA, buildRo, buildOwn, fillE, buildSt, fillA, stS, storeV, recell, putC, lenSl, lenStr, idxAddrSl, idxAddrArr, allSome, c1, c2]; first | done | (with_reducible exact rfl) | (with_reducible exact ⟨rfl, rfl⟩))) ?_
      | refine oT ?_
      | refine oN ?_
      | refine oX ?_
      | refine oXn ?_
      | refine oXr ?_
      | exact oF (finV_bool ..)
      | apply oK
      | refine lT ?_
      | refine lN ?_
      | refine lX ?_
      | refine lXn ?_
      | refine lXr ?_
      | apply lK
      | refine oI ?_
      | refine oJ rfl ?_
      | refine lI ?_
      | refine lJ rfl ?_
      | (with_reducible exact rfl)
    exact oF (finV_two rfl rfl _)
  have c2 : bin Tryd.prog .gtr 2 true (I6 n) (.int .i64 63) = some (.bool false) := by rw [bin_gtr, decide_eq_false h1]
  obtain ⟨m, rfl⟩ : ∃ m : Nat, n = (m : Int) := ⟨n.toNat, by omega⟩
  have hm : m ≤ 63 := by omega
  have c3 := u64_shl Tryd.prog 48 false .i64 x m (by omega)
  have c4 := u64_shr Tryd.prog 48 false .i64 x m (by omega)
  have c5 := conv_i64 x hx
  have c6 : bin Tryd.prog .shr 2 false (I6 (s64 x)) (.int .i64 (m : Int)) = some (I6 ((s64 x).fdiv (2 ^ m))) := by
    rw [bin_shr _ _ _ _ _ _ _ (Int.natCast_nonneg m)]
    have e : min ((m : Int)).toNat IntKind.i64.bits = m := by rw [Int.toNat_natCast]; exact Nat.min_eq_left (by have : IntKind.i64.bits = 64 := rfl; omega)
    rw [e]
  have c7 := conv_u64 .i64 ((s64 x).fdiv (2 ^ m))
  have hs : shiftF op (m : Int) x = if op = 10 then (x * 2 ^ m % 18446744073709551616, true) else if op = 11 then (x / 2 ^ m, true) else (sarF x m, true) := by
    unfold shiftF; rw [if_neg (by omega), Int.toNat_natCast]
  rw [hs]
  have hq : u64 ((s64 x).fdiv (2 ^ m)) = sarF x m := rfl
  rw [hq] at c7
  generalize sarF x m = q at *
  generalize (s64 x).fdiv (2 ^ m) = q1 at *
  generalize s64 x = q2 at *
  generalize x * 2 ^ m % 18446744073709551616 = q3 at *
  generalize x / 2 ^ m = q4 at *
  generalize hmm : (m : Int) = mm at *
  by_cases e1 : op = 10
  · subst e1
    have d1 : bin Tryd.prog .eql 3 true (.int .i64 10) (.int .i64 10) = some (.bool true) := rfl
    repeat first
      | refine oB (by first | (with_reducible exact rfl) | (simp [pu_val, boxRoA, boxA, fieldAddrV, loadV, loadC, storable, AV.cells, extractA, buildRo, buildOwn, fillE, buildSt, fillA, stS, storeV, recell, putC, lenSl, lenStr, idxAddrSl, idxAddrArr, allSome, d1, c1, c2, c3]; first | done | (with_reducible exact rfl) | (with_reducible exact ⟨rfl, rfl⟩))) ?_
      | refine lB (by first | (with_reducible exact rfl) | (simp [pu_val, boxRoA, boxA, fieldAddrV, loadV, loadC, storable, AV.cells, extractA, buildRo, buildOwn, fillE, buildSt, fillA, stS, storeV, recell, putC, lenSl, lenStr, idxAddrSl, idxAddrArr, allSome, d1, c1, c2, c3]; first | done | (with_reducible exact rfl) | (with_reducible exact ⟨rfl, rfl⟩))) ?_
      | refine oT ?_
      | refine oN ?_
      | refine oX ?_
      | refine oXn ?_
      | refine oXr ?_
      | exact oF (finV_bool ..)
      | apply oK
      | refine lT ?_
      | refine lN ?_
      | refine lX ?_
      | refine lXn ?_
      | refine lXr ?_
      | apply lK
      | refine oI ?_
      | refine oJ rfl ?_
      | refine lI ?_
      | refine lJ rfl ?_
      | (with_reducible exact rfl)
    exact oF (finV_two rfl rfl _)
  have d1 : bin Tryd.prog .eql 3 true (I6 op) (.int .i64 10) = some (.bool false) := by rw [bin_eql, decide_eq_false e1]
  by_cases e2 : op = 11
  · subst e2
    repeat first
      | refine oB (by first | (with_reducible exact rfl) | (simp [pu_val, boxRoA, boxA, fieldAddrV, loadV, loadC, storable, AV.cells, extractA, buildRo, buildOwn, fillE, buildSt, fillA, stS, storeV, recell, putC, lenSl, lenStr, idxAddrSl, idxAddrArr, allSome, d1, c1, c2, c4]; first | done | (with_reducible exact rfl) | (with_reducible exact ⟨rfl, rfl⟩))) ?_
      | refine lB (by first | (with_reducible exact rfl) | (simp [pu_val, boxRoA, boxA, fieldAddrV, loadV, loadC, storable, AV.cells, extractA, buildRo, buildOwn, fillE, buildSt, fillA, stS, storeV, recell, putC, lenSl, lenStr, idxAddrSl, idxAddrArr, allSome, d1, c1, c2, c4]; first | done | (with_reducible exact rfl) | (with_reducible exact ⟨rfl, rfl⟩))) ?_
      | refine oT ?_
      | refine oN ?_
      | refine oX ?_
      | refine oXn ?_
      | refine oXr ?_
      | exact oF (finV_bool ..)
      | apply oK
      | refine lT ?_
      | refine lN ?_
      | refine lX ?_
      | refine lXn ?_
      | refine lXr ?_
      | apply lK
      | refine oI ?_
      | refine oJ rfl ?_
      | refine lI ?_
      | refine lJ rfl ?_
      | (with_reducible exact rfl)
    exact oF (finV_two rfl rfl _)
  have d2 : bin Tryd.prog .eql 3 true (I6 op) (.int .i64 11) = some (.bool false) := by rw [bin_eql, decide_eq_false e2]
  rw [if_neg e1, if_neg e2]
  repeat first
    | refine oB (by first | (with_reducible exact rfl) | (simp [pu_val, boxRoA, boxA, fieldAddrV, loadV, loadC, storable, AV.cells, extractA, buildRo, buildOwn, fillE, buildSt, fillA, stS, storeV, recell, putC, lenSl, lenStr, idxAddrSl, idxAddrArr, allSome, d1, d2, c1, c2, c5, c6, c7]; first | done | (with_reducible exact rfl) | (with_reducible exact ⟨rfl, rfl⟩))) ?_
    | refine lB (by first | (with_reducible exact rfl) | (simp [pu_val, boxRoA, boxA, fieldAddrV, loadV, loadC, storable, AV.cells, extractA, buildRo, buildOwn, fillE, buildSt, fillA, stS, storeV, recell, putC, lenSl, lenStr, idxAddrSl, idxAddrArr, allSome, d1, d2, c1, c2, c5, c6, c7]; first | done | (with_reducible exact rfl) | (with_reducible exact ⟨rfl, rfl⟩))) ?_
    | refine oT ?_
    | refine oN ?_
    | refine oX ?_
    | refine oXn ?_
    | refine oXr ?_
    | exact oF (finV_bool ..)
    | apply oK
    | refine lT ?_
    | refine lN ?_
    | refine lX ?_
    | refine lXn ?_
    | refine lXr ?_
    | apply lK
    | refine oI ?_
    | refine oJ rfl ?_
    | refine lI ?_
    | refine lJ rfl ?_
    | (with_reducible exact rfl)
  exact oF (finV_two rfl rfl _)

theorem mul_low (x0 x1 y0 y1 : Nat) (hx0 : x0 < 4294967296) (hx1 : x1 < 4294967296) (hy0 : y0 < 4294967296) (hy1 : y1 < 4294967296) :
    x0 * y0 ≤ 18446744065119617025 ∧ x1 * y0 ≤ 18446744065119617025 ∧ x0 * y1 ≤ 18446744065119617025 ∧ x1 * y1 ≤ 18446744065119617025 ∧
    (x1 * 4294967296 + x0) * (y1 * 4294967296 + y0) = x1 * y1 * 18446744073709551616 + (x1 * y0 + x0 * y1) * 4294967296 + x0 * y0 := by
  have b : ∀ p q : Nat, p < 4294967296 → q < 4294967296 → p * q ≤ 18446744065119617025 := fun p q hp hq => by
    have := Nat.mul_le_mul (show p ≤ 4294967295 by omega) (show q ≤ 4294967295 by omega)
    omega
  refine ⟨b _ _ hx0 hy0, b _ _ hx1 hy0, b _ _ hx0 hy1, b _ _ hx1 hy1, ?_⟩
  simp only [Nat.add_mul, Nat.mul_add]
  have e1 : x1 * 4294967296 * (y1 * 4294967296) = x1 * y1 * 18446744073709551616 := by
    rw [Nat.mul_mul_mul_comm]
  have e2 : x1 * 4294967296 * y0 = x1 * y0 * 4294967296 := by rw [Nat.mul_right_comm]
  have e3 : x0 * (y1 * 4294967296) = x0 * y1 * 4294967296 := by rw [Nat.mul_assoc]
  rw [e1, e2, e3]; omega

theorem mask32 (n : Nat) : n &&& 4294967295 = n % 4294967296 := Nat.and_two_pow_sub_one_eq_mod n 32

theorem mul64_spec (G : Globs) (k : Nat) (a b : Nat) (ha : a < 18446744073709551616) (hb : b < 18446744073709551616) :
    math_bits_Mul64.f G (k + 1) [Un a, Un b] [] = some (.tup [Un (a * b / 18446744073709551616), Un (a * b % 18446744073709551616)], []) := by
  rw [math_bits_Mul64.step]
  unfold math_bits_Mul64.c
  have and32 : ∀ n : Nat, n < 18446744073709551616 → bin Tryd.prog .and 48 true (Un n) (.int .u64 4294967295) = some (Un (n % 4294967296)) := fun n hn => by
    rw [bin_and]; have := u64_and n 4294967295 hn (by omega); rw [mask32] at this; exact congrArg (fun z => some (AV.int .u64 z)) this
  have shr32 : ∀ n : Nat, bin Tryd.prog .shr 48 true (Un n) (.int .u64 32) = some (Un (n / 4294967296)) := fun n => u64_shr Tryd.prog 48 true .u64 n 32 (by omega)
  obtain ⟨x0, hx0⟩ : ∃ z, z = a % 4294967296 := ⟨_, rfl⟩
  obtain ⟨x1, hx1⟩ : ∃ z, z = a / 4294967296 := ⟨_, rfl⟩
  obtain ⟨y0, hy0⟩ : ∃ z, z = b % 4294967296 := ⟨_, rfl⟩
  obtain ⟨y1, hy1⟩ : ∃ z, z = b / 4294967296 := ⟨_, rfl⟩
  have c0 := and32 a ha
  have c1 := shr32 a
  have c2 := and32 b hb
  have c3 := shr32 b
  rw [← hx0] at c0
  rw [← hx1] at c1
  rw [← hy0] at c2
  rw [← hy1] at c3
  obtain ⟨b1, b2, b3, b4, hm⟩ := mul_low x0 x1 y0 y1 (by omega) (by omega) (by omega) (by omega)
  have hab : a * b = x1 * y1 * 18446744073709551616 + (x1 * y0 + x0 * y1) * 4294967296 + x0 * y0 := by
    rw [← hm]; congr 1 <;> omega
  have m : ∀ p q : Nat, p * q ≤ 18446744065119617025 → bin Tryd.prog .mul 48 false (Un p) (Un q) = some (Un (p * q)) := fun p q h => by rw [u64_mul, Nat.mod_eq_of_lt (by omega)]
  have ad : ∀ p q : Nat, p + q < 18446744073709551616 → bin Tryd.prog .add 48 false (Un p) (Un q) = some (Un (p + q)) := fun p q h => by rw [u64_add, Nat.mod_eq_of_lt h]
  have c4 := m x0 y0 b1
  have c5 := m x1 y0 b2
  have c10 := m x0 y1 b3
  have c12 := m x1 y1 b4
  have c16 := u64_mul Tryd.prog 48 false a b
  rw [hab] at c16 ⊢
  generalize x0 * y0 = A at *
  generalize x1 * y0 = B at *
  generalize x0 * y1 = C at *
  generalize x1 * y1 = D at *
  have c6 := shr32 A
  have c7 := ad B (A / 4294967296) (by omega)
  obtain ⟨E, hE⟩ : ∃ z, z = B + A / 4294967296 := ⟨_, rfl⟩
  rw [← hE] at c7
  have c8 := and32 E (by omega)
  have c9 := shr32 E
  have c11 := ad (E % 4294967296) C (by omega)
  obtain ⟨F, hF⟩ : ∃ z, z = E % 4294967296 + C := ⟨_, rfl⟩
  rw [← hF] at c11
  have c13 := ad D (E / 4294967296) (by omega)
  have c14 := shr32 F
  have c15 := ad (D + E / 4294967296) (F / 4294967296) (by omega)
  have r1 : (D * 18446744073709551616 + (B + C) * 4294967296 + A) / 18446744073709551616 = D + E / 4294967296 + F / 4294967296 := by omega
  rw [r1]
  generalize (D * 18446744073709551616 + (B + C) * 4294967296 + A) % 18446744073709551616 = Z at *
  generalize D + E / 4294967296 + F / 4294967296 = Y at *
  generalize D + E / 4294967296 = X at *
  generalize F / 4294967296 = X2 at *
  generalize E / 4294967296 = X3 at *
  generalize E % 4294967296 = X4 at *
  generalize A / 4294967296 = X5 at *
  clear hE hF hab hm
  repeat first
    | refine oB (by first | (simp only [pu_val, nth_zero, nth_succ, gd_tt, gd_ff, gd_tf, gd_ft, gd_no, pickA_true, pickA_false, un_not, c0, c1, c2, c3, c4, c5, c6, c7, c8, c9, c10, c11, c12, c13, c14, c15, c16]; first | done | (with_reducible exact rfl) | (with_reducible exact ⟨rfl, rfl⟩)) | (with_reducible exact rfl)) ?_
    | refine lB (by first | (simp only [pu_val, nth_zero, nth_succ, gd_tt, gd_ff, gd_tf, gd_ft, gd_no, pickA_true, pickA_false, un_not, c0, c1, c2, c3, c4, c5, c6, c7, c8, c9, c10, c11, c12, c13, c14, c15, c16]; first | done | (with_reducible exact rfl) | (with_reducible exact ⟨rfl, rfl⟩)) | (with_reducible exact rfl)) ?_
    | refine oT ?_
    | refine oN ?_
    | refine oX ?_
    | refine oXn ?_
    | refine oXr ?_
    | exact oF (finV_bool ..)
    | apply oK
    | refine lT ?_
    | refine lN ?_
    | refine lX ?_
    | refine lXn ?_
    | refine lXr ?_
    | apply lK
    | refine oI ?_
    | refine oJ rfl ?_
    | refine lI ?_
    | refine lJ rfl ?_
    | (with_reducible exact rfl)
  exact oF (finV_two rfl rfl _)

/-- What an instruction makes: the program's. -/
theorem value_spec (G : Globs) (k : Nat) (op d a b c n : Int) (x y z : Nat) (hx : x < 18446744073709551616) (hy : y < 18446744073709551616) (hz : z < 18446744073709551616) :
    words_Value.f G (k + 2) [instV op d a b c n, Un x, Un y, Un z] [] = some (.tup [Un (valF op n x y z).1, .bool (valF op n x y z).2], []) := by
  rw [words_Value.step]
  unfold words_Value.c
  have e0 : instV op d a b c n = .agg [I6 op, I6 d, I6 a, I6 b, I6 c, I6 n] := rfl
  have fin : ∀ (r : Nat) (t : Bool) (H : AHeap), finV [Un r, .bool t] ([] : AHeap).length H = some (.ret, [.tup [Un r, .bool t]], []) := fun r t H => finV_two rfl rfl H
  have k1 := conv_u64 .i64 n
  have k3 := u64_add Tryd.prog 48 false x y
  have k4 := u64_sub Tryd.prog 48 false x y hy
  have k5 := u64_mul Tryd.prog 48 false x y
  have k6 : ∀ H, pureCall (math_bits_Mul64.f G (k + 1)) [Un x, Un y] H = _ := fun H => pureCall_of (H := H) (mul64_spec G k x y hx hy) rfl rfl
  have k7 : bin Tryd.prog .and 48 false (Un x) (Un y) = some (Un (x &&& y)) := by rw [bin_and, u64_and x y hx hy]
  have k8 : bin Tryd.prog .or 48 false (Un x) (Un y) = some (Un (x ||| y)) := by rw [bin_or, u64_or x y hx hy]
  have k9 : bin Tryd.prog .xor 48 false (Un x) (Un y) = some (Un (x ^^^ y)) := by rw [bin_xor, u64_xor x y hx hy]
  have k10 : ∀ H, pureCall (words_shifted.f G (k + 1)) [.agg [I6 op, I6 d, I6 a, I6 b, I6 c, I6 n], Un x] H = _ := fun H => pureCall_of (H := H) (shifted_spec G k op d a b c n x hx) rfl rfl
  have k13 : bin Tryd.prog .lss 48 false (Un x) (Un y) = some (.bool (decide (x < y))) := by rw [bin_lss]; congr 2; simp only [decide_eq_decide]; omega
  have k13b : ∀ H, pureCall (words_bit.f G (k + 1)) [.bool (decide (x < y))] H = some (Un (if decide (x < y) = true then 1 else 0), H) := fun H => pureCall_of (H := H) (bit_spec G k _) rfl rfl
  have k13c : (if decide (x < y) = true then 1 else 0) = if x < y then 1 else 0 := by simp
  rw [k13c] at k13b
  have k14 : bin Tryd.prog .neq 48 true (Un x) (.int .u64 0) = some (.bool (decide (x ≠ 0))) := by rw [bin_neq]; congr 2; simp only [decide_eq_decide]; omega
  have ev : valF op n x y z = valF op n x y z := rfl
  conv at ev => rhs; unfold valF
  rw [ev, e0]
  clear ev e0
  generalize shiftF op n x = sh at *
  obtain ⟨sh1, sh2⟩ := sh
  generalize u64 n = z1 at *
  generalize (x + y) % 18446744073709551616 = z3 at *
  generalize (x + 18446744073709551616 - y) % 18446744073709551616 = z4 at *
  generalize x * y % 18446744073709551616 = z5 at *
  generalize x * y / 18446744073709551616 = z6 at *
  generalize x &&& y = z7 at *
  generalize x ||| y = z8 at *
  generalize x ^^^ y = z9 at *
  generalize (if x < y then 1 else 0 : Nat) = z13 at *
  generalize decide (x < y) = b13 at *
  by_cases e1 : op = 1
  · subst e1
    repeat first
      | refine oB (by first | (with_reducible exact rfl) | (simp [pu_val, boxRoA, boxA, fieldAddrV, loadV, loadC, storable, AV.cells, extractA, buildRo, buildOwn, fillE, buildSt, fillA, stS, storeV, recell, putC, lenSl, lenStr, idxAddrSl, idxAddrArr, allSome, k1, k3, k4, k5, k6, k7, k8, k9, k10, k13, k13b, k14]; first | done | (with_reducible exact rfl) | (with_reducible exact ⟨rfl, rfl⟩))) ?_
      | refine lB (by first | (with_reducible exact rfl) | (simp [pu_val, boxRoA, boxA, fieldAddrV, loadV, loadC, storable, AV.cells, extractA, buildRo, buildOwn, fillE, buildSt, fillA, stS, storeV, recell, putC, lenSl, lenStr, idxAddrSl, idxAddrArr, allSome, k1, k3, k4, k5, k6, k7, k8, k9, k10, k13, k13b, k14]; first | done | (with_reducible exact rfl) | (with_reducible exact ⟨rfl, rfl⟩))) ?_
      | refine oT ?_
      | refine oN ?_
      | refine oX ?_
      | refine oXn ?_
      | refine oXr ?_
      | exact oF (finV_bool ..)
      | apply oK
      | refine lT ?_
      | refine lN ?_
      | refine lX ?_
      | refine lXn ?_
      | refine lXr ?_
      | apply lK
      | refine oI ?_
      | refine oJ rfl ?_
      | refine lI ?_
      | refine lJ rfl ?_
      | (with_reducible exact rfl)
    exact oF (fin ..)
  by_cases e2 : op = 2
  · subst e2
    repeat first
      | refine oB (by first | (with_reducible exact rfl) | (simp [pu_val, boxRoA, boxA, fieldAddrV, loadV, loadC, storable, AV.cells, extractA, buildRo, buildOwn, fillE, buildSt, fillA, stS, storeV, recell, putC, lenSl, lenStr, idxAddrSl, idxAddrArr, allSome, k1, k3, k4, k5, k6, k7, k8, k9, k10, k13, k13b, k14]; first | done | (with_reducible exact rfl) | (with_reducible exact ⟨rfl, rfl⟩))) ?_
      | refine lB (by first | (with_reducible exact rfl) | (simp [pu_val, boxRoA, boxA, fieldAddrV, loadV, loadC, storable, AV.cells, extractA, buildRo, buildOwn, fillE, buildSt, fillA, stS, storeV, recell, putC, lenSl, lenStr, idxAddrSl, idxAddrArr, allSome, k1, k3, k4, k5, k6, k7, k8, k9, k10, k13, k13b, k14]; first | done | (with_reducible exact rfl) | (with_reducible exact ⟨rfl, rfl⟩))) ?_
      | refine oT ?_
      | refine oN ?_
      | refine oX ?_
      | refine oXn ?_
      | refine oXr ?_
      | exact oF (finV_bool ..)
      | apply oK
      | refine lT ?_
      | refine lN ?_
      | refine lX ?_
      | refine lXn ?_
      | refine lXr ?_
      | apply lK
      | refine oI ?_
      | refine oJ rfl ?_
      | refine lI ?_
      | refine lJ rfl ?_
      | (with_reducible exact rfl)
    exact oF (fin ..)
  by_cases e3 : op = 3
  · subst e3
    repeat first
      | refine oB (by first | (with_reducible exact rfl) | (simp [pu_val, boxRoA, boxA, fieldAddrV, loadV, loadC, storable, AV.cells, extractA, buildRo, buildOwn, fillE, buildSt, fillA, stS, storeV, recell, putC, lenSl, lenStr, idxAddrSl, idxAddrArr, allSome, k1, k3, k4, k5, k6, k7, k8, k9, k10, k13, k13b, k14]; first | done | (with_reducible exact rfl) | (with_reducible exact ⟨rfl, rfl⟩))) ?_
      | refine lB (by first | (with_reducible exact rfl) | (simp [pu_val, boxRoA, boxA, fieldAddrV, loadV, loadC, storable, AV.cells, extractA, buildRo, buildOwn, fillE, buildSt, fillA, stS, storeV, recell, putC, lenSl, lenStr, idxAddrSl, idxAddrArr, allSome, k1, k3, k4, k5, k6, k7, k8, k9, k10, k13, k13b, k14]; first | done | (with_reducible exact rfl) | (with_reducible exact ⟨rfl, rfl⟩))) ?_
      | refine oT ?_
      | refine oN ?_
      | refine oX ?_
      | refine oXn ?_
      | refine oXr ?_
      | exact oF (finV_bool ..)
      | apply oK
      | refine lT ?_
      | refine lN ?_
      | refine lX ?_
      | refine lXn ?_
      | refine lXr ?_
      | apply lK
      | refine oI ?_
      | refine oJ rfl ?_
      | refine lI ?_
      | refine lJ rfl ?_
      | (with_reducible exact rfl)
    exact oF (fin ..)
  by_cases e4 : op = 4
  · subst e4
    repeat first
      | refine oB (by first | (with_reducible exact rfl) | (simp [pu_val, boxRoA, boxA, fieldAddrV, loadV, loadC, storable, AV.cells, extractA, buildRo, buildOwn, fillE, buildSt, fillA, stS, storeV, recell, putC, lenSl, lenStr, idxAddrSl, idxAddrArr, allSome, k1, k3, k4, k5, k6, k7, k8, k9, k10, k13, k13b, k14]; first | done | (with_reducible exact rfl) | (with_reducible exact ⟨rfl, rfl⟩))) ?_
      | refine lB (by first | (with_reducible exact rfl) | (simp [pu_val, boxRoA, boxA, fieldAddrV, loadV, loadC, storable, AV.cells, extractA, buildRo, buildOwn, fillE, buildSt, fillA, stS, storeV, recell, putC, lenSl, lenStr, idxAddrSl, idxAddrArr, allSome, k1, k3, k4, k5, k6, k7, k8, k9, k10, k13, k13b, k14]; first | done | (with_reducible exact rfl) | (with_reducible exact ⟨rfl, rfl⟩))) ?_
      | refine oT ?_
      | refine oN ?_
      | refine oX ?_
      | refine oXn ?_
      | refine oXr ?_
      | exact oF (finV_bool ..)
      | apply oK
      | refine lT ?_
      | refine lN ?_
      | refine lX ?_
      | refine lXn ?_
      | refine lXr ?_
      | apply lK
      | refine oI ?_
      | refine oJ rfl ?_
      | refine lI ?_
      | refine lJ rfl ?_
      | (with_reducible exact rfl)
    exact oF (fin ..)
  by_cases e5 : op = 5
  · subst e5
    repeat first
      | refine oB (by first | (with_reducible exact rfl) | (simp [pu_val, boxRoA, boxA, fieldAddrV, loadV, loadC, storable, AV.cells, extractA, buildRo, buildOwn, fillE, buildSt, fillA, stS, storeV, recell, putC, lenSl, lenStr, idxAddrSl, idxAddrArr, allSome, k1, k3, k4, k5, k6, k7, k8, k9, k10, k13, k13b, k14]; first | done | (with_reducible exact rfl) | (with_reducible exact ⟨rfl, rfl⟩))) ?_
      | refine lB (by first | (with_reducible exact rfl) | (simp [pu_val, boxRoA, boxA, fieldAddrV, loadV, loadC, storable, AV.cells, extractA, buildRo, buildOwn, fillE, buildSt, fillA, stS, storeV, recell, putC, lenSl, lenStr, idxAddrSl, idxAddrArr, allSome, k1, k3, k4, k5, k6, k7, k8, k9, k10, k13, k13b, k14]; first | done | (with_reducible exact rfl) | (with_reducible exact ⟨rfl, rfl⟩))) ?_
      | refine oT ?_
      | refine oN ?_
      | refine oX ?_
      | refine oXn ?_
      | refine oXr ?_
      | exact oF (finV_bool ..)
      | apply oK
      | refine lT ?_
      | refine lN ?_
      | refine lX ?_
      | refine lXn ?_
      | refine lXr ?_
      | apply lK
      | refine oI ?_
      | refine oJ rfl ?_
      | refine lI ?_
      | refine lJ rfl ?_
      | (with_reducible exact rfl)
    exact oF (fin ..)
  by_cases e6 : op = 6
  · subst e6
    repeat first
      | refine oB (by first | (with_reducible exact rfl) | (simp [pu_val, boxRoA, boxA, fieldAddrV, loadV, loadC, storable, AV.cells, extractA, buildRo, buildOwn, fillE, buildSt, fillA, stS, storeV, recell, putC, lenSl, lenStr, idxAddrSl, idxAddrArr, allSome, k1, k3, k4, k5, k6, k7, k8, k9, k10, k13, k13b, k14]; first | done | (with_reducible exact rfl) | (with_reducible exact ⟨rfl, rfl⟩))) ?_
      | refine lB (by first | (with_reducible exact rfl) | (simp [pu_val, boxRoA, boxA, fieldAddrV, loadV, loadC, storable, AV.cells, extractA, buildRo, buildOwn, fillE, buildSt, fillA, stS, storeV, recell, putC, lenSl, lenStr, idxAddrSl, idxAddrArr, allSome, k1, k3, k4, k5, k6, k7, k8, k9, k10, k13, k13b, k14]; first | done | (with_reducible exact rfl) | (with_reducible exact ⟨rfl, rfl⟩))) ?_
      | refine oT ?_
      | refine oN ?_
      | refine oX ?_
      | refine oXn ?_
      | refine oXr ?_
      | exact oF (finV_bool ..)
      | apply oK
      | refine lT ?_
      | refine lN ?_
      | refine lX ?_
      | refine lXn ?_
      | refine lXr ?_
      | apply lK
      | refine oI ?_
      | refine oJ rfl ?_
      | refine lI ?_
      | refine lJ rfl ?_
      | (with_reducible exact rfl)
    exact oF (fin ..)
  by_cases e7 : op = 7
  · subst e7
    repeat first
      | refine oB (by first | (with_reducible exact rfl) | (simp [pu_val, boxRoA, boxA, fieldAddrV, loadV, loadC, storable, AV.cells, extractA, buildRo, buildOwn, fillE, buildSt, fillA, stS, storeV, recell, putC, lenSl, lenStr, idxAddrSl, idxAddrArr, allSome, k1, k3, k4, k5, k6, k7, k8, k9, k10, k13, k13b, k14]; first | done | (with_reducible exact rfl) | (with_reducible exact ⟨rfl, rfl⟩))) ?_
      | refine lB (by first | (with_reducible exact rfl) | (simp [pu_val, boxRoA, boxA, fieldAddrV, loadV, loadC, storable, AV.cells, extractA, buildRo, buildOwn, fillE, buildSt, fillA, stS, storeV, recell, putC, lenSl, lenStr, idxAddrSl, idxAddrArr, allSome, k1, k3, k4, k5, k6, k7, k8, k9, k10, k13, k13b, k14]; first | done | (with_reducible exact rfl) | (with_reducible exact ⟨rfl, rfl⟩))) ?_
      | refine oT ?_
      | refine oN ?_
      | refine oX ?_
      | refine oXn ?_
      | refine oXr ?_
      | exact oF (finV_bool ..)
      | apply oK
      | refine lT ?_
      | refine lN ?_
      | refine lX ?_
      | refine lXn ?_
      | refine lXr ?_
      | apply lK
      | refine oI ?_
      | refine oJ rfl ?_
      | refine lI ?_
      | refine lJ rfl ?_
      | (with_reducible exact rfl)
    exact oF (fin ..)
  by_cases e8 : op = 8
  · subst e8
    repeat first
      | refine oB (by first | (with_reducible exact rfl) | (simp [pu_val, boxRoA, boxA, fieldAddrV, loadV, loadC, storable, AV.cells, extractA, buildRo, buildOwn, fillE, buildSt, fillA, stS, storeV, recell, putC, lenSl, lenStr, idxAddrSl, idxAddrArr, allSome, k1, k3, k4, k5, k6, k7, k8, k9, k10, k13, k13b, k14]; first | done | (with_reducible exact rfl) | (with_reducible exact ⟨rfl, rfl⟩))) ?_
      | refine lB (by first | (with_reducible exact rfl) | (simp [pu_val, boxRoA, boxA, fieldAddrV, loadV, loadC, storable, AV.cells, extractA, buildRo, buildOwn, fillE, buildSt, fillA, stS, storeV, recell, putC, lenSl, lenStr, idxAddrSl, idxAddrArr, allSome, k1, k3, k4, k5, k6, k7, k8, k9, k10, k13, k13b, k14]; first | done | (with_reducible exact rfl) | (with_reducible exact ⟨rfl, rfl⟩))) ?_
      | refine oT ?_
      | refine oN ?_
      | refine oX ?_
      | refine oXn ?_
      | refine oXr ?_
      | exact oF (finV_bool ..)
      | apply oK
      | refine lT ?_
      | refine lN ?_
      | refine lX ?_
      | refine lXn ?_
      | refine lXr ?_
      | apply lK
      | refine oI ?_
      | refine oJ rfl ?_
      | refine lI ?_
      | refine lJ rfl ?_
      | (with_reducible exact rfl)
    exact oF (fin ..)
  by_cases e9 : op = 9
  · subst e9
    repeat first
      | refine oB (by first | (with_reducible exact rfl) | (simp [pu_val, boxRoA, boxA, fieldAddrV, loadV, loadC, storable, AV.cells, extractA, buildRo, buildOwn, fillE, buildSt, fillA, stS, storeV, recell, putC, lenSl, lenStr, idxAddrSl, idxAddrArr, allSome, k1, k3, k4, k5, k6, k7, k8, k9, k10, k13, k13b, k14]; first | done | (with_reducible exact rfl) | (with_reducible exact ⟨rfl, rfl⟩))) ?_
      | refine lB (by first | (with_reducible exact rfl) | (simp [pu_val, boxRoA, boxA, fieldAddrV, loadV, loadC, storable, AV.cells, extractA, buildRo, buildOwn, fillE, buildSt, fillA, stS, storeV, recell, putC, lenSl, lenStr, idxAddrSl, idxAddrArr, allSome, k1, k3, k4, k5, k6, k7, k8, k9, k10, k13, k13b, k14]; first | done | (with_reducible exact rfl) | (with_reducible exact ⟨rfl, rfl⟩))) ?_
      | refine oT ?_
      | refine oN ?_
      | refine oX ?_
      | refine oXn ?_
      | refine oXr ?_
      | exact oF (finV_bool ..)
      | apply oK
      | refine lT ?_
      | refine lN ?_
      | refine lX ?_
      | refine lXn ?_
      | refine lXr ?_
      | apply lK
      | refine oI ?_
      | refine oJ rfl ?_
      | refine lI ?_
      | refine lJ rfl ?_
      | (with_reducible exact rfl)
    exact oF (fin ..)
  by_cases e10 : op = 10
  · subst e10
    repeat first
      | refine oB (by first | (with_reducible exact rfl) | (simp [pu_val, boxRoA, boxA, fieldAddrV, loadV, loadC, storable, AV.cells, extractA, buildRo, buildOwn, fillE, buildSt, fillA, stS, storeV, recell, putC, lenSl, lenStr, idxAddrSl, idxAddrArr, allSome, k1, k3, k4, k5, k6, k7, k8, k9, k10, k13, k13b, k14]; first | done | (with_reducible exact rfl) | (with_reducible exact ⟨rfl, rfl⟩))) ?_
      | refine lB (by first | (with_reducible exact rfl) | (simp [pu_val, boxRoA, boxA, fieldAddrV, loadV, loadC, storable, AV.cells, extractA, buildRo, buildOwn, fillE, buildSt, fillA, stS, storeV, recell, putC, lenSl, lenStr, idxAddrSl, idxAddrArr, allSome, k1, k3, k4, k5, k6, k7, k8, k9, k10, k13, k13b, k14]; first | done | (with_reducible exact rfl) | (with_reducible exact ⟨rfl, rfl⟩))) ?_
      | refine oT ?_
      | refine oN ?_
      | refine oX ?_
      | refine oXn ?_
      | refine oXr ?_
      | exact oF (finV_bool ..)
      | apply oK
      | refine lT ?_
      | refine lN ?_
      | refine lX ?_
      | refine lXn ?_
      | refine lXr ?_
      | apply lK
      | refine oI ?_
      | refine oJ rfl ?_
      | refine lI ?_
      | refine lJ rfl ?_
      | (with_reducible exact rfl)
    exact oF (fin ..)
  by_cases e11 : op = 11
  · subst e11
    repeat first
      | refine oB (by first | (with_reducible exact rfl) | (simp [pu_val, boxRoA, boxA, fieldAddrV, loadV, loadC, storable, AV.cells, extractA, buildRo, buildOwn, fillE, buildSt, fillA, stS, storeV, recell, putC, lenSl, lenStr, idxAddrSl, idxAddrArr, allSome, k1, k3, k4, k5, k6, k7, k8, k9, k10, k13, k13b, k14]; first | done | (with_reducible exact rfl) | (with_reducible exact ⟨rfl, rfl⟩))) ?_
      | refine lB (by first | (with_reducible exact rfl) | (simp [pu_val, boxRoA, boxA, fieldAddrV, loadV, loadC, storable, AV.cells, extractA, buildRo, buildOwn, fillE, buildSt, fillA, stS, storeV, recell, putC, lenSl, lenStr, idxAddrSl, idxAddrArr, allSome, k1, k3, k4, k5, k6, k7, k8, k9, k10, k13, k13b, k14]; first | done | (with_reducible exact rfl) | (with_reducible exact ⟨rfl, rfl⟩))) ?_
      | refine oT ?_
      | refine oN ?_
      | refine oX ?_
      | refine oXn ?_
      | refine oXr ?_
      | exact oF (finV_bool ..)
      | apply oK
      | refine lT ?_
      | refine lN ?_
      | refine lX ?_
      | refine lXn ?_
      | refine lXr ?_
      | apply lK
      | refine oI ?_
      | refine oJ rfl ?_
      | refine lI ?_
      | refine lJ rfl ?_
      | (with_reducible exact rfl)
    exact oF (fin ..)
  by_cases e12 : op = 12
  · subst e12
    repeat first
      | refine oB (by first | (with_reducible exact rfl) | (simp [pu_val, boxRoA, boxA, fieldAddrV, loadV, loadC, storable, AV.cells, extractA, buildRo, buildOwn, fillE, buildSt, fillA, stS, storeV, recell, putC, lenSl, lenStr, idxAddrSl, idxAddrArr, allSome, k1, k3, k4, k5, k6, k7, k8, k9, k10, k13, k13b, k14]; first | done | (with_reducible exact rfl) | (with_reducible exact ⟨rfl, rfl⟩))) ?_
      | refine lB (by first | (with_reducible exact rfl) | (simp [pu_val, boxRoA, boxA, fieldAddrV, loadV, loadC, storable, AV.cells, extractA, buildRo, buildOwn, fillE, buildSt, fillA, stS, storeV, recell, putC, lenSl, lenStr, idxAddrSl, idxAddrArr, allSome, k1, k3, k4, k5, k6, k7, k8, k9, k10, k13, k13b, k14]; first | done | (with_reducible exact rfl) | (with_reducible exact ⟨rfl, rfl⟩))) ?_
      | refine oT ?_
      | refine oN ?_
      | refine oX ?_
      | refine oXn ?_
      | refine oXr ?_
      | exact oF (finV_bool ..)
      | apply oK
      | refine lT ?_
      | refine lN ?_
      | refine lX ?_
      | refine lXn ?_
      | refine lXr ?_
      | apply lK
      | refine oI ?_
      | refine oJ rfl ?_
      | refine lI ?_
      | refine lJ rfl ?_
      | (with_reducible exact rfl)
    exact oF (fin ..)
  by_cases e13 : op = 13
  · subst e13
    repeat first
      | refine oB (by first | (with_reducible exact rfl) | (simp [pu_val, boxRoA, boxA, fieldAddrV, loadV, loadC, storable, AV.cells, extractA, buildRo, buildOwn, fillE, buildSt, fillA, stS, storeV, recell, putC, lenSl, lenStr, idxAddrSl, idxAddrArr, allSome, k1, k3, k4, k5, k6, k7, k8, k9, k10, k13, k13b, k14]; first | done | (with_reducible exact rfl) | (with_reducible exact ⟨rfl, rfl⟩))) ?_
      | refine lB (by first | (with_reducible exact rfl) | (simp [pu_val, boxRoA, boxA, fieldAddrV, loadV, loadC, storable, AV.cells, extractA, buildRo, buildOwn, fillE, buildSt, fillA, stS, storeV, recell, putC, lenSl, lenStr, idxAddrSl, idxAddrArr, allSome, k1, k3, k4, k5, k6, k7, k8, k9, k10, k13, k13b, k14]; first | done | (with_reducible exact rfl) | (with_reducible exact ⟨rfl, rfl⟩))) ?_
      | refine oT ?_
      | refine oN ?_
      | refine oX ?_
      | refine oXn ?_
      | refine oXr ?_
      | exact oF (finV_bool ..)
      | apply oK
      | refine lT ?_
      | refine lN ?_
      | refine lX ?_
      | refine lXn ?_
      | refine lXr ?_
      | apply lK
      | refine oI ?_
      | refine oJ rfl ?_
      | refine lI ?_
      | refine lJ rfl ?_
      | (with_reducible exact rfl)
    exact oF (fin ..)
  by_cases e14 : op = 14
  · subst e14
    by_cases hx0 : x = 0
    · have k14' : bin Tryd.prog .neq 48 true (Un x) (.int .u64 0) = some (.bool false) := by rw [k14]; simp [hx0]
      rw [show (if x ≠ 0 then y else z) = z by rw [if_neg (by simp [hx0])]]
      repeat first
        | refine oB (by first | (with_reducible exact rfl) | (simp [pu_val, boxRoA, boxA, fieldAddrV, loadV, loadC, storable, AV.cells, extractA, buildRo, buildOwn, fillE, buildSt, fillA, stS, storeV, recell, putC, lenSl, lenStr, idxAddrSl, idxAddrArr, allSome, k1, k3, k4, k5, k6, k7, k8, k9, k10, k13, k13b, k14']; first | done | (with_reducible exact rfl) | (with_reducible exact ⟨rfl, rfl⟩))) ?_
        | refine lB (by first | (with_reducible exact rfl) | (simp [pu_val, boxRoA, boxA, fieldAddrV, loadV, loadC, storable, AV.cells, extractA, buildRo, buildOwn, fillE, buildSt, fillA, stS, storeV, recell, putC, lenSl, lenStr, idxAddrSl, idxAddrArr, allSome, k1, k3, k4, k5, k6, k7, k8, k9, k10, k13, k13b, k14']; first | done | (with_reducible exact rfl) | (with_reducible exact ⟨rfl, rfl⟩))) ?_
        | refine oT ?_
        | refine oN ?_
        | refine oX ?_
        | refine oXn ?_
        | refine oXr ?_
        | exact oF (finV_bool ..)
        | apply oK
        | refine lT ?_
        | refine lN ?_
        | refine lX ?_
        | refine lXn ?_
        | refine lXr ?_
        | apply lK
        | refine oI ?_
        | refine oJ rfl ?_
        | refine lI ?_
        | refine lJ rfl ?_
        | (with_reducible exact rfl)
      exact oF (fin ..)
    · have k14' : bin Tryd.prog .neq 48 true (Un x) (.int .u64 0) = some (.bool true) := by rw [k14]; simp [hx0]
      rw [show (if x ≠ 0 then y else z) = y by rw [if_pos hx0]]
      repeat first
        | refine oB (by first | (with_reducible exact rfl) | (simp [pu_val, boxRoA, boxA, fieldAddrV, loadV, loadC, storable, AV.cells, extractA, buildRo, buildOwn, fillE, buildSt, fillA, stS, storeV, recell, putC, lenSl, lenStr, idxAddrSl, idxAddrArr, allSome, k1, k3, k4, k5, k6, k7, k8, k9, k10, k13, k13b, k14']; first | done | (with_reducible exact rfl) | (with_reducible exact ⟨rfl, rfl⟩))) ?_
        | refine lB (by first | (with_reducible exact rfl) | (simp [pu_val, boxRoA, boxA, fieldAddrV, loadV, loadC, storable, AV.cells, extractA, buildRo, buildOwn, fillE, buildSt, fillA, stS, storeV, recell, putC, lenSl, lenStr, idxAddrSl, idxAddrArr, allSome, k1, k3, k4, k5, k6, k7, k8, k9, k10, k13, k13b, k14']; first | done | (with_reducible exact rfl) | (with_reducible exact ⟨rfl, rfl⟩))) ?_
        | refine oT ?_
        | refine oN ?_
        | refine oX ?_
        | refine oXn ?_
        | refine oXr ?_
        | exact oF (finV_bool ..)
        | apply oK
        | refine lT ?_
        | refine lN ?_
        | refine lX ?_
        | refine lXn ?_
        | refine lXr ?_
        | apply lK
        | refine oI ?_
        | refine oJ rfl ?_
        | refine lI ?_
        | refine lJ rfl ?_
        | (with_reducible exact rfl)
      exact oF (fin ..)
  repeat first
    | refine oB (by first | (with_reducible exact rfl) | (simp [pu_val, boxRoA, boxA, fieldAddrV, loadV, loadC, storable, AV.cells, extractA, buildRo, buildOwn, fillE, buildSt, fillA, stS, storeV, recell, putC, lenSl, lenStr, idxAddrSl, idxAddrArr, allSome, e1, e2, e3, e4, e5, e6, e7, e8, e9, e10, e11, e12, e13, e14]; first | done | (with_reducible exact rfl) | (with_reducible exact ⟨rfl, rfl⟩))) ?_
    | refine lB (by first | (with_reducible exact rfl) | (simp [pu_val, boxRoA, boxA, fieldAddrV, loadV, loadC, storable, AV.cells, extractA, buildRo, buildOwn, fillE, buildSt, fillA, stS, storeV, recell, putC, lenSl, lenStr, idxAddrSl, idxAddrArr, allSome, e1, e2, e3, e4, e5, e6, e7, e8, e9, e10, e11, e12, e13, e14]; first | done | (with_reducible exact rfl) | (with_reducible exact ⟨rfl, rfl⟩))) ?_
    | refine oT ?_
    | refine oN ?_
    | refine oX ?_
    | refine oXn ?_
    | refine oXr ?_
    | exact oF (finV_bool ..)
    | apply oK
    | refine lT ?_
    | refine lN ?_
    | refine lX ?_
    | refine lXn ?_
    | refine lXr ?_
    | apply lK
    | refine oI ?_
    | refine oJ rfl ?_
    | refine lI ?_
    | refine lJ rfl ?_
    | (with_reducible exact rfl)
  simp only [e1, e2, e3, e4, e5, e6, e7, e8, e9, e10, e11, e12, e13, e14, if_false, or_self]
  exact oF (fin ..)
end Go.Proofs.YtcmblhedhgiofaaDoor.Mir
