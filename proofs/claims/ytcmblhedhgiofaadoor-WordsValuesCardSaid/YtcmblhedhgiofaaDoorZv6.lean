/- Printed by rowgen.py: the row of WordsValues, out of its law in plain Lean. -/
import Derived.Test.YtcmblhedhgiofaaDoorZv5
import Derived.Test.YtcmblhedhgiofaaDoorRows
import Derived.KernelRfl
import Derived.SizedLaws
import Derived.Lib.ItoaLen
import Derived.Test.YtcmblhedhgiofaaDoorTie
import Derived.Test.YtcmblhedhgiofaaDoorCards
import Derived.SevenTiedAt
namespace Go.Proofs.YtcmblhedhgiofaaDoor
open Go Go.ChangeShapes Go.WideShapes Go.RowKit Mir
set_option linter.unusedVariables false
set_option linter.unusedSimpArgs false
namespace Rk
theorem own : ownKnob Tryd.prog.godebug = none := by kernel_rfl
theorem laidOut : laidOutB Tryd.prog = true := by kernel_rfl
theorem aCq : "*" ++ "errors.errorString" = "*errors.errorString" := by decide
theorem row (u : TypeId) (h : Tryd.prog.typeName? 3 u = some "*errors.errorString") : u = 154 :=
 typeName_ptr_named (nm := "errors.errorString") (by rw [aCq]; kernel_rfl) (by kernel_rfl) (by decide) u (by rw [aCq]; exact h)
noncomputable def low : Nat := (World.holding Tryd.prog default ⟨#[], #[], []⟩).heap.size
end Rk
end Go.Proofs.YtcmblhedhgiofaaDoor
namespace Go.Proofs.YtcmblhedhgiofaaDoor.Mir
open Go
set_option linter.unusedSimpArgs false
set_option linter.unusedVariables false
set_option maxHeartbeats 8000000
set_option maxRecDepth 20000
abbrev Un (n : Nat) : AV := .int .u64 (n : Int)
abbrev Nn (n : Nat) : AV := .int .i64 (n : Int)
abbrev I6 (n : Int) : AV := .int .i64 n
theorem gD (a : Nat) (h : a < 18446744073709551616) : (BitVec.ofInt 64 (a : Int)).toNat = a := by
 rw [BitVec.toNat_ofInt]
 omega
theorem tB (a b : Nat) (ha : a < 18446744073709551616) (hb : b < 18446744073709551616) : bits .and .u64 (a : Int) (b : Int) = ((a &&& b : Nat) : Int) := by
 have hx : a &&& b ≤ a := Nat.and_le_left
 show IntKind.u64.wrap ((BitVec.ofInt 64 (a : Int) &&& BitVec.ofInt 64 (b : Int)).toNat : Int) = _
 rw [BitVec.toNat_and, gD a ha, gD b hb, fX (by omega) (by omega)]
theorem aAs (a b : Nat) (ha : a < 18446744073709551616) (hb : b < 18446744073709551616) : bits .or .u64 (a : Int) (b : Int) = ((a ||| b : Nat) : Int) := by
 have hx : a ||| b < 2 ^ 64 := Nat.or_lt_two_pow (by omega) (by omega)
 show IntKind.u64.wrap ((BitVec.ofInt 64 (a : Int) ||| BitVec.ofInt 64 (b : Int)).toNat : Int) = _
 rw [BitVec.toNat_or, gD a ha, gD b hb, fX (by omega) (by omega)]
theorem xO (a b : Nat) (ha : a < 18446744073709551616) (hb : b < 18446744073709551616) : bits .xor .u64 (a : Int) (b : Int) = ((a ^^^ b : Nat) : Int) := by
 have hx : a ^^^ b < 2 ^ 64 := Nat.xor_lt_two_pow (by omega) (by omega)
 show IntKind.u64.wrap ((BitVec.ofInt 64 (a : Int) ^^^ BitVec.ofInt 64 (b : Int)).toNat : Int) = _
 rw [BitVec.toNat_xor, gD a ha, gD b hb, fX (by omega) (by omega)]
theorem iX (n : Nat) : IntKind.u64.wrap (n : Int) = ((n % 18446744073709551616 : Nat) : Int) := by rw [jX]; rfl
theorem tA (P : Program) (t : Nat) (c : Bool) (a b : Nat) : aZ P .add t c (Un a) (Un b) = some (Un ((a + b) % 18446744073709551616)) := by
 rw [iP, ← Int.natCast_add, iX]
theorem oE (P : Program) (t : Nat) (c : Bool) (a b : Nat) : aZ P .mul t c (Un a) (Un b) = some (Un (a * b % 18446744073709551616)) := by
 rw [aAx, ← Int.natCast_mul, iX]
theorem xN (P : Program) (t : Nat) (c : Bool) (a b : Nat) (hb : b < 18446744073709551616) : aZ P .sub t c (Un a) (Un b) = some (Un ((a + 18446744073709551616 - b) % 18446744073709551616)) := by
 rw [wG, jX]; congr 2; omega
theorem tC (P : Program) (t : Nat) (c : Bool) (k : IntKind) (a n : Nat) (h : n ≤ 64) : aZ P .shr t c (Un a) (.int k (n : Int)) = some (Un (a / 2 ^ n)) := by
 rw [sA _ _ _ _ _ _ _ (Int.natCast_nonneg n)]
 have e : min ((n : Int)).toNat IntKind.u64.bits = n := by rw [Int.toNat_natCast]; exact Nat.min_eq_left h
 rw [e, sJ]
theorem xM (P : Program) (t : Nat) (c : Bool) (k : IntKind) (a n : Nat) (h : n ≤ 64) : aZ P .shl t c (Un a) (.int k (n : Int)) = some (Un (a * 2 ^ n % 18446744073709551616)) := by
 rw [aAy _ _ _ _ _ _ _ (Int.natCast_nonneg n)]
 have e : min ((n : Int)).toNat IntKind.u64.bits = n := by rw [Int.toNat_natCast]; exact Nat.min_eq_left h
 have e2 : ((a : Int) * 2 ^ n : Int) = ((a * 2 ^ n : Nat) : Int) := by push_cast; rfl
 rw [e, e2, iX]
def xK (a : Nat) : Int := if a ≥ 9223372036854775808 then (a : Int) - 18446744073709551616 else (a : Int)
def u64 (n : Int) : Nat := (n % 18446744073709551616).toNat
theorem tM (a : Nat) (h : a < 18446744073709551616) : dL .i64 (Un a) = some (I6 (xK a)) := by
 rw [fH, nK]; unfold xK; congr 2; split <;> split <;> omega
theorem lD (k : IntKind) (n : Int) : dL .u64 (.int k n) = some (Un (u64 n)) := by
 rw [fH, jX]; unfold u64; congr 2; omega
def aAp (a n : Nat) : Nat := u64 ((xK a).fdiv (2 ^ n))
def gR (op k : Int) (a : Nat) : Nat × Bool :=
 if k < 0 ∨ 63 < k then (0, false)
 else if op = 10 then (a * 2 ^ k.toNat % 18446744073709551616, true)
 else if op = 11 then (a / 2 ^ k.toNat, true)
 else (aAp a k.toNat, true)
def nR (op k : Int) (a b c : Nat) : Nat × Bool :=
 if op = 1 then (u64 k, true)
 else if op = 2 then (a, true)
 else if op = 3 then ((a + b) % 18446744073709551616, true)
 else if op = 4 then ((a + 18446744073709551616 - b) % 18446744073709551616, true)
 else if op = 5 then (a * b % 18446744073709551616, true)
 else if op = 6 then (a * b / 18446744073709551616, true)
 else if op = 7 then (a &&& b, true)
 else if op = 8 then (a ||| b, true)
 else if op = 9 then (a ^^^ b, true)
 else if op = 10 ∨ op = 11 ∨ op = 12 then gR op k a
 else if op = 13 then (if a < b then 1 else 0, true)
 else if op = 14 then (if a ≠ 0 then b else c, true)
 else (0, false)
def lO (op d a b c k : Int) : AV := .agg [I6 op, I6 d, I6 a, I6 b, I6 c, I6 k]
theorem yT (G : aC) (k : Nat) (b : Bool) : cO.f G (k + 1) [.bool b] [] = some (Un (if b = true then 1 else 0), []) := by
 cases b <;> kernel_rfl
theorem sW (G : aC) (k : Nat) (op d a b c n : Int) (x : Nat) (hx : x < 18446744073709551616) :
  bG.f G (k + 1) [lO op d a b c n, Un x] [] = some (.tup [Un (gR op n x).1, .bool (gR op n x).2], []) := by
 rw [bG.step]
 unfold bG.c lO
 by_cases h0 : n < 0
 ·have e : gR op n x = (0, false) := by unfold gR; rw [if_pos (.inl h0)]
  rw [e]
  have c1 : aZ Tryd.prog .lss 2 true (I6 n) (.int .i64 0) = some (.bool true) := by rw [jZ, decide_eq_true h0]
  repeat first
   | refine oB (by first | (with_reducible exact rfl) | (simp [cK, bN, cY, aA, aE, cR, bA, AV.cells, aI, bK, bJ, cU, aU, cW, eD, aT, cD, dI, bX, cQ, aH, bB, bW, c1]; first | done | (with_reducible exact rfl) | (with_reducible exact ⟨rfl, rfl⟩))) ?_
   | refine lB (by first | (with_reducible exact rfl) | (simp [cK, bN, cY, aA, aE, cR, bA, AV.cells, aI, bK, bJ, cU, aU, cW, eD, aT, cD, dI, bX, cQ, aH, bB, bW, c1]; first | done | (with_reducible exact rfl) | (with_reducible exact ⟨rfl, rfl⟩))) ?_
   | refine oT ?_
   | refine oN ?_
   | refine oX ?_
   | refine qL ?_
   | refine qM ?_
   | exact oF (cX ..)
   | apply oK
   | refine lT ?_
   | refine lN ?_
   | refine lX ?_
   | refine qJ ?_
   | refine qK ?_
   | apply lK
   | refine oI ?_
   | refine oJ rfl ?_
   | refine lI ?_
   | refine lJ rfl ?_
   | (with_reducible exact rfl)
  exact oF (gM rfl rfl _)
 have c1 : aZ Tryd.prog .lss 2 true (I6 n) (.int .i64 0) = some (.bool false) := by rw [jZ, decide_eq_false h0]
 by_cases h1 : 63 < n
 ·have e : gR op n x = (0, false) := by unfold gR; rw [if_pos (.inr h1)]
  rw [e]
  have c2 : aZ Tryd.prog .gtr 2 true (I6 n) (.int .i64 63) = some (.bool true) := by rw [jY, decide_eq_true h1]
  repeat first
   | refine oB (by first | (with_reducible exact rfl) | (simp [cK, bN, cY, aA, aE, cR, bA, AV.cells, aI, bK, bJ, cU, aU, cW, eD, aT, cD, dI, bX, cQ, aH, bB, bW, c1, c2]; first | done | (with_reducible exact rfl) | (with_reducible exact ⟨rfl, rfl⟩))) ?_
   | refine lB (by first | (with_reducible exact rfl) | (simp [cK, bN, cY, aA, aE, cR, bA, AV.cells, aI, bK, bJ, cU, aU, cW, eD, aT, cD, dI, bX, cQ, aH, bB, bW, c1, c2]; first | done | (with_reducible exact rfl) | (with_reducible exact ⟨rfl, rfl⟩))) ?_
   | refine oT ?_
   | refine oN ?_
   | refine oX ?_
   | refine qL ?_
   | refine qM ?_
   | exact oF (cX ..)
   | apply oK
   | refine lT ?_
   | refine lN ?_
   | refine lX ?_
   | refine qJ ?_
   | refine qK ?_
   | apply lK
   | refine oI ?_
   | refine oJ rfl ?_
   | refine lI ?_
   | refine lJ rfl ?_
   | (with_reducible exact rfl)
  exact oF (gM rfl rfl _)
 have c2 : aZ Tryd.prog .gtr 2 true (I6 n) (.int .i64 63) = some (.bool false) := by rw [jY, decide_eq_false h1]
 obtain ⟨m, rfl⟩ : ∃ m : Nat, n = (m : Int) := ⟨n.toNat, by omega⟩
 have hm : m ≤ 63 := by omega
 have c3 := xM Tryd.prog 48 false .i64 x m (by omega)
 have c4 := tC Tryd.prog 48 false .i64 x m (by omega)
 have c5 := tM x hx
 have c6 : aZ Tryd.prog .shr 2 false (I6 (xK x)) (.int .i64 (m : Int)) = some (I6 ((xK x).fdiv (2 ^ m))) := by
  rw [sA _ _ _ _ _ _ _ (Int.natCast_nonneg m)]
  have e : min ((m : Int)).toNat IntKind.i64.bits = m := by rw [Int.toNat_natCast]; exact Nat.min_eq_left (by have : IntKind.i64.bits = 64 := rfl; omega)
  rw [e]
 have c7 := lD .i64 ((xK x).fdiv (2 ^ m))
 have hs : gR op (m : Int) x = if op = 10 then (x * 2 ^ m % 18446744073709551616, true) else if op = 11 then (x / 2 ^ m, true) else (aAp x m, true) := by
  unfold gR; rw [if_neg (by omega), Int.toNat_natCast]
 rw [hs]
 have hq : u64 ((xK x).fdiv (2 ^ m)) = aAp x m := rfl
 rw [hq] at c7
 generalize aAp x m = q at *
 generalize (xK x).fdiv (2 ^ m) = q1 at *
 generalize xK x = q2 at *
 generalize x * 2 ^ m % 18446744073709551616 = q3 at *
 generalize x / 2 ^ m = q4 at *
 generalize hmm : (m : Int) = mm at *
 by_cases e1 : op = 10
 ·subst e1
  have d1 : aZ Tryd.prog .eql 3 true (.int .i64 10) (.int .i64 10) = some (.bool true) := rfl
  repeat first
   | refine oB (by first | (with_reducible exact rfl) | (simp [cK, bN, cY, aA, aE, cR, bA, AV.cells, aI, bK, bJ, cU, aU, cW, eD, aT, cD, dI, bX, cQ, aH, bB, bW, d1, c1, c2, c3]; first | done | (with_reducible exact rfl) | (with_reducible exact ⟨rfl, rfl⟩))) ?_
   | refine lB (by first | (with_reducible exact rfl) | (simp [cK, bN, cY, aA, aE, cR, bA, AV.cells, aI, bK, bJ, cU, aU, cW, eD, aT, cD, dI, bX, cQ, aH, bB, bW, d1, c1, c2, c3]; first | done | (with_reducible exact rfl) | (with_reducible exact ⟨rfl, rfl⟩))) ?_
   | refine oT ?_
   | refine oN ?_
   | refine oX ?_
   | refine qL ?_
   | refine qM ?_
   | exact oF (cX ..)
   | apply oK
   | refine lT ?_
   | refine lN ?_
   | refine lX ?_
   | refine qJ ?_
   | refine qK ?_
   | apply lK
   | refine oI ?_
   | refine oJ rfl ?_
   | refine lI ?_
   | refine lJ rfl ?_
   | (with_reducible exact rfl)
  exact oF (gM rfl rfl _)
 have d1 : aZ Tryd.prog .eql 3 true (I6 op) (.int .i64 10) = some (.bool false) := by rw [kW, decide_eq_false e1]
 by_cases e2 : op = 11
 ·subst e2
  repeat first
   | refine oB (by first | (with_reducible exact rfl) | (simp [cK, bN, cY, aA, aE, cR, bA, AV.cells, aI, bK, bJ, cU, aU, cW, eD, aT, cD, dI, bX, cQ, aH, bB, bW, d1, c1, c2, c4]; first | done | (with_reducible exact rfl) | (with_reducible exact ⟨rfl, rfl⟩))) ?_
   | refine lB (by first | (with_reducible exact rfl) | (simp [cK, bN, cY, aA, aE, cR, bA, AV.cells, aI, bK, bJ, cU, aU, cW, eD, aT, cD, dI, bX, cQ, aH, bB, bW, d1, c1, c2, c4]; first | done | (with_reducible exact rfl) | (with_reducible exact ⟨rfl, rfl⟩))) ?_
   | refine oT ?_
   | refine oN ?_
   | refine oX ?_
   | refine qL ?_
   | refine qM ?_
   | exact oF (cX ..)
   | apply oK
   | refine lT ?_
   | refine lN ?_
   | refine lX ?_
   | refine qJ ?_
   | refine qK ?_
   | apply lK
   | refine oI ?_
   | refine oJ rfl ?_
   | refine lI ?_
   | refine lJ rfl ?_
   | (with_reducible exact rfl)
  exact oF (gM rfl rfl _)
 have d2 : aZ Tryd.prog .eql 3 true (I6 op) (.int .i64 11) = some (.bool false) := by rw [kW, decide_eq_false e2]
 rw [if_neg e1, if_neg e2]
 repeat first
  | refine oB (by first | (with_reducible exact rfl) | (simp [cK, bN, cY, aA, aE, cR, bA, AV.cells, aI, bK, bJ, cU, aU, cW, eD, aT, cD, dI, bX, cQ, aH, bB, bW, d1, d2, c1, c2, c5, c6, c7]; first | done | (with_reducible exact rfl) | (with_reducible exact ⟨rfl, rfl⟩))) ?_
  | refine lB (by first | (with_reducible exact rfl) | (simp [cK, bN, cY, aA, aE, cR, bA, AV.cells, aI, bK, bJ, cU, aU, cW, eD, aT, cD, dI, bX, cQ, aH, bB, bW, d1, d2, c1, c2, c5, c6, c7]; first | done | (with_reducible exact rfl) | (with_reducible exact ⟨rfl, rfl⟩))) ?_
  | refine oT ?_
  | refine oN ?_
  | refine oX ?_
  | refine qL ?_
  | refine qM ?_
  | exact oF (cX ..)
  | apply oK
  | refine lT ?_
  | refine lN ?_
  | refine lX ?_
  | refine qJ ?_
  | refine qK ?_
  | apply lK
  | refine oI ?_
  | refine oJ rfl ?_
  | refine lI ?_
  | refine lJ rfl ?_
  | (with_reducible exact rfl)
 exact oF (gM rfl rfl _)
theorem aAQ (x0 x1 y0 y1 : Nat) (hx0 : x0 < 4294967296) (hx1 : x1 < 4294967296) (hy0 : y0 < 4294967296) (hy1 : y1 < 4294967296) :
  x0 * y0 ≤ 18446744065119617025 ∧ x1 * y0 ≤ 18446744065119617025 ∧ x0 * y1 ≤ 18446744065119617025 ∧ x1 * y1 ≤ 18446744065119617025 ∧
  (x1 * 4294967296 + x0) * (y1 * 4294967296 + y0) = x1 * y1 * 18446744073709551616 + (x1 * y0 + x0 * y1) * 4294967296 + x0 * y0 := by
 have b : ∀ p q : Nat, p < 4294967296 → q < 4294967296 → p * q ≤ 18446744065119617025 := fun p q hp hq => by
  have := Nat.mul_le_mul (show p ≤ 4294967295 by omega) (show q ≤ 4294967295 by omega)
  omega
 refine ⟨b _ _ hx0 hy0, b _ _ hx1 hy0, b _ _ hx0 hy1, b _ _ hx1 hy1, ?_⟩
 simp only [Nat.add_mul, Nat.mul_add]
 have e1 : x1 * 4294967296 * (y1 * 4294967296) = x1 * y1 * 18446744073709551616 := by
  rw [Nat.mul_mul_mul_comm]
 have e2 : x1 * 4294967296 * y0 = x1 * y0 * 4294967296 := by rw [Nat.mul_right_comm]
 have e3 : x0 * (y1 * 4294967296) = x0 * y1 * 4294967296 := by rw [Nat.mul_assoc]
 rw [e1, e2, e3]; omega
theorem aBD (n : Nat) : n &&& 4294967295 = n % 4294967296 := Nat.and_two_pow_sub_one_eq_mod n 32
theorem pH (G : aC) (k : Nat) (a b : Nat) (ha : a < 18446744073709551616) (hb : b < 18446744073709551616) :
  aS.f G (k + 1) [Un a, Un b] [] = some (.tup [Un (a * b / 18446744073709551616), Un (a * b % 18446744073709551616)], []) := by
 rw [aS.step]
 unfold aS.c
 have and32 : ∀ n : Nat, n < 18446744073709551616 → aZ Tryd.prog .and 48 true (Un n) (.int .u64 4294967295) = some (Un (n % 4294967296)) := fun n hn => by
  rw [nU]; have := tB n 4294967295 hn (by omega); rw [aBD] at this; exact congrArg (fun z => some (AV.int .u64 z)) this
 have shr32 : ∀ n : Nat, aZ Tryd.prog .shr 48 true (Un n) (.int .u64 32) = some (Un (n / 4294967296)) := fun n => tC Tryd.prog 48 true .u64 n 32 (by omega)
 obtain ⟨x0, hx0⟩ : ∃ z, z = a % 4294967296 := ⟨_, rfl⟩
 obtain ⟨x1, hx1⟩ : ∃ z, z = a / 4294967296 := ⟨_, rfl⟩
 obtain ⟨y0, hy0⟩ : ∃ z, z = b % 4294967296 := ⟨_, rfl⟩
 obtain ⟨y1, hy1⟩ : ∃ z, z = b / 4294967296 := ⟨_, rfl⟩
 have c0 := and32 a ha
 have c1 := shr32 a
 have c2 := and32 b hb
 have c3 := shr32 b
 rw [← hx0] at c0
 rw [← hx1] at c1
 rw [← hy0] at c2
 rw [← hy1] at c3
 obtain ⟨b1, b2, b3, b4, hm⟩ := aAQ x0 x1 y0 y1 (by omega) (by omega) (by omega) (by omega)
 have hab : a * b = x1 * y1 * 18446744073709551616 + (x1 * y0 + x0 * y1) * 4294967296 + x0 * y0 := by
  rw [← hm]; congr 1 <;> omega
 have m : ∀ p q : Nat, p * q ≤ 18446744065119617025 → aZ Tryd.prog .mul 48 false (Un p) (Un q) = some (Un (p * q)) := fun p q h => by rw [oE, Nat.mod_eq_of_lt (by omega)]
 have ad : ∀ p q : Nat, p + q < 18446744073709551616 → aZ Tryd.prog .add 48 false (Un p) (Un q) = some (Un (p + q)) := fun p q h => by rw [tA, Nat.mod_eq_of_lt h]
 have c4 := m x0 y0 b1
 have c5 := m x1 y0 b2
 have c10 := m x0 y1 b3
 have c12 := m x1 y1 b4
 have c16 := oE Tryd.prog 48 false a b
 rw [hab] at c16 ⊢
 generalize x0 * y0 = A at *
 generalize x1 * y0 = B at *
 generalize x0 * y1 = C at *
 generalize x1 * y1 = D at *
 have c6 := shr32 A
 have c7 := ad B (A / 4294967296) (by omega)
 obtain ⟨E, hE⟩ : ∃ z, z = B + A / 4294967296 := ⟨_, rfl⟩
 rw [← hE] at c7
 have c8 := and32 E (by omega)
 have c9 := shr32 E
 have c11 := ad (E % 4294967296) C (by omega)
 obtain ⟨F, hF⟩ : ∃ z, z = E % 4294967296 + C := ⟨_, rfl⟩
 rw [← hF] at c11
 have c13 := ad D (E / 4294967296) (by omega)
 have c14 := shr32 F
 have c15 := ad (D + E / 4294967296) (F / 4294967296) (by omega)
 have r1 : (D * 18446744073709551616 + (B + C) * 4294967296 + A) / 18446744073709551616 = D + E / 4294967296 + F / 4294967296 := by omega
 rw [r1]
 generalize (D * 18446744073709551616 + (B + C) * 4294967296 + A) % 18446744073709551616 = Z at *
 generalize D + E / 4294967296 + F / 4294967296 = Y at *
 generalize D + E / 4294967296 = X at *
 generalize F / 4294967296 = X2 at *
 generalize E / 4294967296 = X3 at *
 generalize E % 4294967296 = X4 at *
 generalize A / 4294967296 = X5 at *
 clear hE hF hab hm
 repeat first
  | refine oB (by first | (simp only [cK, dY, dX, uC, tY, uB, tZ, uA, iU, hR, qF, c0, c1, c2, c3, c4, c5, c6, c7, c8, c9, c10, c11, c12, c13, c14, c15, c16]; first | done | (with_reducible exact rfl) | (with_reducible exact ⟨rfl, rfl⟩)) | (with_reducible exact rfl)) ?_
  | refine lB (by first | (simp only [cK, dY, dX, uC, tY, uB, tZ, uA, iU, hR, qF, c0, c1, c2, c3, c4, c5, c6, c7, c8, c9, c10, c11, c12, c13, c14, c15, c16]; first | done | (with_reducible exact rfl) | (with_reducible exact ⟨rfl, rfl⟩)) | (with_reducible exact rfl)) ?_
  | refine oT ?_
  | refine oN ?_
  | refine oX ?_
  | refine qL ?_
  | refine qM ?_
  | exact oF (cX ..)
  | apply oK
  | refine lT ?_
  | refine lN ?_
  | refine lX ?_
  | refine qJ ?_
  | refine qK ?_
  | apply lK
  | refine oI ?_
  | refine oJ rfl ?_
  | refine lI ?_
  | refine lJ rfl ?_
  | (with_reducible exact rfl)
 exact oF (gM rfl rfl _)
theorem wB (G : aC) (k : Nat) (op d a b c n : Int) (x y z : Nat) (hx : x < 18446744073709551616) (hy : y < 18446744073709551616) (hz : z < 18446744073709551616) :
  bH.f G (k + 2) [lO op d a b c n, Un x, Un y, Un z] [] = some (.tup [Un (nR op n x y z).1, .bool (nR op n x y z).2], []) := by
 rw [bH.step]
 unfold bH.c
 have e0 : lO op d a b c n = .agg [I6 op, I6 d, I6 a, I6 b, I6 c, I6 n] := rfl
 have fin : ∀ (r : Nat) (t : Bool) (H : aB), bS [Un r, .bool t] ([] : aB).length H = some (.ret, [.tup [Un r, .bool t]], []) := fun r t H => gM rfl rfl H
 have k1 := lD .i64 n
 have k3 := tA Tryd.prog 48 false x y
 have k4 := xN Tryd.prog 48 false x y hy
 have k5 := oE Tryd.prog 48 false x y
 have k6 : ∀ H, aN (aS.f G (k + 1)) [Un x, Un y] H = _ := fun H => cS (H := H) (pH G k x y hx hy) rfl rfl
 have k7 : aZ Tryd.prog .and 48 false (Un x) (Un y) = some (Un (x &&& y)) := by rw [nU, tB x y hx hy]
 have k8 : aZ Tryd.prog .or 48 false (Un x) (Un y) = some (Un (x ||| y)) := by rw [yS, aAs x y hx hy]
 have k9 : aZ Tryd.prog .xor 48 false (Un x) (Un y) = some (Un (x ^^^ y)) := by rw [wH, xO x y hx hy]
 have k10 : ∀ H, aN (bG.f G (k + 1)) [.agg [I6 op, I6 d, I6 a, I6 b, I6 c, I6 n], Un x] H = _ := fun H => cS (H := H) (sW G k op d a b c n x hx) rfl rfl
 have k13 : aZ Tryd.prog .lss 48 false (Un x) (Un y) = some (.bool (decide (x < y))) := by rw [jZ]; congr 2; simp only [decide_eq_decide]; omega
 have k13b : ∀ H, aN (cO.f G (k + 1)) [.bool (decide (x < y))] H = some (Un (if decide (x < y) = true then 1 else 0), H) := fun H => cS (H := H) (yT G k _) rfl rfl
 have k13c : (if decide (x < y) = true then 1 else 0) = if x < y then 1 else 0 := by simp
 rw [k13c] at k13b
 have k14 : aZ Tryd.prog .neq 48 true (Un x) (.int .u64 0) = some (.bool (decide (x ≠ 0))) := by rw [nW]; congr 2; simp only [decide_eq_decide]; omega
 have ev : nR op n x y z = nR op n x y z := rfl
 conv at ev => rhs; unfold nR
 rw [ev, e0]
 clear ev e0
 generalize gR op n x = sh at *
 obtain ⟨sh1, sh2⟩ := sh
 generalize u64 n = z1 at *
 generalize (x + y) % 18446744073709551616 = z3 at *
 generalize (x + 18446744073709551616 - y) % 18446744073709551616 = z4 at *
 generalize x * y % 18446744073709551616 = z5 at *
 generalize x * y / 18446744073709551616 = z6 at *
 generalize x &&& y = z7 at *
 generalize x ||| y = z8 at *
 generalize x ^^^ y = z9 at *
 generalize (if x < y then 1 else 0 : Nat) = z13 at *
 generalize decide (x < y) = b13 at *
 by_cases e1 : op = 1
 ·subst e1
  repeat first
   | refine oB (by first | (with_reducible exact rfl) | (simp [cK, bN, cY, aA, aE, cR, bA, AV.cells, aI, bK, bJ, cU, aU, cW, eD, aT, cD, dI, bX, cQ, aH, bB, bW, k1, k3, k4, k5, k6, k7, k8, k9, k10, k13, k13b, k14]; first | done | (with_reducible exact rfl) | (with_reducible exact ⟨rfl, rfl⟩))) ?_
   | refine lB (by first | (with_reducible exact rfl) | (simp [cK, bN, cY, aA, aE, cR, bA, AV.cells, aI, bK, bJ, cU, aU, cW, eD, aT, cD, dI, bX, cQ, aH, bB, bW, k1, k3, k4, k5, k6, k7, k8, k9, k10, k13, k13b, k14]; first | done | (with_reducible exact rfl) | (with_reducible exact ⟨rfl, rfl⟩))) ?_
   | refine oT ?_
   | refine oN ?_
   | refine oX ?_
   | refine qL ?_
   | refine qM ?_
   | exact oF (cX ..)
   | apply oK
   | refine lT ?_
   | refine lN ?_
   | refine lX ?_
   | refine qJ ?_
   | refine qK ?_
   | apply lK
   | refine oI ?_
   | refine oJ rfl ?_
   | refine lI ?_
   | refine lJ rfl ?_
   | (with_reducible exact rfl)
  exact oF (fin ..)
 by_cases e2 : op = 2
 ·subst e2
  repeat first
   | refine oB (by first | (with_reducible exact rfl) | (simp [cK, bN, cY, aA, aE, cR, bA, AV.cells, aI, bK, bJ, cU, aU, cW, eD, aT, cD, dI, bX, cQ, aH, bB, bW, k1, k3, k4, k5, k6, k7, k8, k9, k10, k13, k13b, k14]; first | done | (with_reducible exact rfl) | (with_reducible exact ⟨rfl, rfl⟩))) ?_
   | refine lB (by first | (with_reducible exact rfl) | (simp [cK, bN, cY, aA, aE, cR, bA, AV.cells, aI, bK, bJ, cU, aU, cW, eD, aT, cD, dI, bX, cQ, aH, bB, bW, k1, k3, k4, k5, k6, k7, k8, k9, k10, k13, k13b, k14]; first | done | (with_reducible exact rfl) | (with_reducible exact ⟨rfl, rfl⟩))) ?_
   | refine oT ?_
   | refine oN ?_
   | refine oX ?_
   | refine qL ?_
   | refine qM ?_
   | exact oF (cX ..)
   | apply oK
   | refine lT ?_
   | refine lN ?_
   | refine lX ?_
   | refine qJ ?_
   | refine qK ?_
   | apply lK
   | refine oI ?_
   | refine oJ rfl ?_
   | refine lI ?_
   | refine lJ rfl ?_
   | (with_reducible exact rfl)
  exact oF (fin ..)
 by_cases e3 : op = 3
 ·subst e3
  repeat first
   | refine oB (by first | (with_reducible exact rfl) | (simp [cK, bN, cY, aA, aE, cR, bA, AV.cells, aI, bK, bJ, cU, aU, cW, eD, aT, cD, dI, bX, cQ, aH, bB, bW, k1, k3, k4, k5, k6, k7, k8, k9, k10, k13, k13b, k14]; first | done | (with_reducible exact rfl) | (with_reducible exact ⟨rfl, rfl⟩))) ?_
   | refine lB (by first | (with_reducible exact rfl) | (simp [cK, bN, cY, aA, aE, cR, bA, AV.cells, aI, bK, bJ, cU, aU, cW, eD, aT, cD, dI, bX, cQ, aH, bB, bW, k1, k3, k4, k5, k6, k7, k8, k9, k10, k13, k13b, k14]; first | done | (with_reducible exact rfl) | (with_reducible exact ⟨rfl, rfl⟩))) ?_
   | refine oT ?_
   | refine oN ?_
   | refine oX ?_
   | refine qL ?_
   | refine qM ?_
   | exact oF (cX ..)
   | apply oK
   | refine lT ?_
   | refine lN ?_
   | refine lX ?_
   | refine qJ ?_
   | refine qK ?_
   | apply lK
   | refine oI ?_
   | refine oJ rfl ?_
   | refine lI ?_
   | refine lJ rfl ?_
   | (with_reducible exact rfl)
  exact oF (fin ..)
 by_cases e4 : op = 4
 ·subst e4
  repeat first
   | refine oB (by first | (with_reducible exact rfl) | (simp [cK, bN, cY, aA, aE, cR, bA, AV.cells, aI, bK, bJ, cU, aU, cW, eD, aT, cD, dI, bX, cQ, aH, bB, bW, k1, k3, k4, k5, k6, k7, k8, k9, k10, k13, k13b, k14]; first | done | (with_reducible exact rfl) | (with_reducible exact ⟨rfl, rfl⟩))) ?_
   | refine lB (by first | (with_reducible exact rfl) | (simp [cK, bN, cY, aA, aE, cR, bA, AV.cells, aI, bK, bJ, cU, aU, cW, eD, aT, cD, dI, bX, cQ, aH, bB, bW, k1, k3, k4, k5, k6, k7, k8, k9, k10, k13, k13b, k14]; first | done | (with_reducible exact rfl) | (with_reducible exact ⟨rfl, rfl⟩))) ?_
   | refine oT ?_
   | refine oN ?_
   | refine oX ?_
   | refine qL ?_
   | refine qM ?_
   | exact oF (cX ..)
   | apply oK
   | refine lT ?_
   | refine lN ?_
   | refine lX ?_
   | refine qJ ?_
   | refine qK ?_
   | apply lK
   | refine oI ?_
   | refine oJ rfl ?_
   | refine lI ?_
   | refine lJ rfl ?_
   | (with_reducible exact rfl)
  exact oF (fin ..)
 by_cases e5 : op = 5
 ·subst e5
  repeat first
   | refine oB (by first | (with_reducible exact rfl) | (simp [cK, bN, cY, aA, aE, cR, bA, AV.cells, aI, bK, bJ, cU, aU, cW, eD, aT, cD, dI, bX, cQ, aH, bB, bW, k1, k3, k4, k5, k6, k7, k8, k9, k10, k13, k13b, k14]; first | done | (with_reducible exact rfl) | (with_reducible exact ⟨rfl, rfl⟩))) ?_
   | refine lB (by first | (with_reducible exact rfl) | (simp [cK, bN, cY, aA, aE, cR, bA, AV.cells, aI, bK, bJ, cU, aU, cW, eD, aT, cD, dI, bX, cQ, aH, bB, bW, k1, k3, k4, k5, k6, k7, k8, k9, k10, k13, k13b, k14]; first | done | (with_reducible exact rfl) | (with_reducible exact ⟨rfl, rfl⟩))) ?_
   | refine oT ?_
   | refine oN ?_
   | refine oX ?_
   | refine qL ?_
   | refine qM ?_
   | exact oF (cX ..)
   | apply oK
   | refine lT ?_
   | refine lN ?_
   | refine lX ?_
   | refine qJ ?_
   | refine qK ?_
   | apply lK
   | refine oI ?_
   | refine oJ rfl ?_
   | refine lI ?_
   | refine lJ rfl ?_
   | (with_reducible exact rfl)
  exact oF (fin ..)
 by_cases e6 : op = 6
 ·subst e6
  repeat first
   | refine oB (by first | (with_reducible exact rfl) | (simp [cK, bN, cY, aA, aE, cR, bA, AV.cells, aI, bK, bJ, cU, aU, cW, eD, aT, cD, dI, bX, cQ, aH, bB, bW, k1, k3, k4, k5, k6, k7, k8, k9, k10, k13, k13b, k14]; first | done | (with_reducible exact rfl) | (with_reducible exact ⟨rfl, rfl⟩))) ?_
   | refine lB (by first | (with_reducible exact rfl) | (simp [cK, bN, cY, aA, aE, cR, bA, AV.cells, aI, bK, bJ, cU, aU, cW, eD, aT, cD, dI, bX, cQ, aH, bB, bW, k1, k3, k4, k5, k6, k7, k8, k9, k10, k13, k13b, k14]; first | done | (with_reducible exact rfl) | (with_reducible exact ⟨rfl, rfl⟩))) ?_
   | refine oT ?_
   | refine oN ?_
   | refine oX ?_
   | refine qL ?_
   | refine qM ?_
   | exact oF (cX ..)
   | apply oK
   | refine lT ?_
   | refine lN ?_
   | refine lX ?_
   | refine qJ ?_
   | refine qK ?_
   | apply lK
   | refine oI ?_
   | refine oJ rfl ?_
   | refine lI ?_
   | refine lJ rfl ?_
   | (with_reducible exact rfl)
  exact oF (fin ..)
 by_cases e7 : op = 7
 ·subst e7
  repeat first
   | refine oB (by first | (with_reducible exact rfl) | (simp [cK, bN, cY, aA, aE, cR, bA, AV.cells, aI, bK, bJ, cU, aU, cW, eD, aT, cD, dI, bX, cQ, aH, bB, bW, k1, k3, k4, k5, k6, k7, k8, k9, k10, k13, k13b, k14]; first | done | (with_reducible exact rfl) | (with_reducible exact ⟨rfl, rfl⟩))) ?_
   | refine lB (by first | (with_reducible exact rfl) | (simp [cK, bN, cY, aA, aE, cR, bA, AV.cells, aI, bK, bJ, cU, aU, cW, eD, aT, cD, dI, bX, cQ, aH, bB, bW, k1, k3, k4, k5, k6, k7, k8, k9, k10, k13, k13b, k14]; first | done | (with_reducible exact rfl) | (with_reducible exact ⟨rfl, rfl⟩))) ?_
   | refine oT ?_
   | refine oN ?_
   | refine oX ?_
   | refine qL ?_
   | refine qM ?_
   | exact oF (cX ..)
   | apply oK
   | refine lT ?_
   | refine lN ?_
   | refine lX ?_
   | refine qJ ?_
   | refine qK ?_
   | apply lK
   | refine oI ?_
   | refine oJ rfl ?_
   | refine lI ?_
   | refine lJ rfl ?_
   | (with_reducible exact rfl)
  exact oF (fin ..)
 by_cases e8 : op = 8
 ·subst e8
  repeat first
   | refine oB (by first | (with_reducible exact rfl) | (simp [cK, bN, cY, aA, aE, cR, bA, AV.cells, aI, bK, bJ, cU, aU, cW, eD, aT, cD, dI, bX, cQ, aH, bB, bW, k1, k3, k4, k5, k6, k7, k8, k9, k10, k13, k13b, k14]; first | done | (with_reducible exact rfl) | (with_reducible exact ⟨rfl, rfl⟩))) ?_
   | refine lB (by first | (with_reducible exact rfl) | (simp [cK, bN, cY, aA, aE, cR, bA, AV.cells, aI, bK, bJ, cU, aU, cW, eD, aT, cD, dI, bX, cQ, aH, bB, bW, k1, k3, k4, k5, k6, k7, k8, k9, k10, k13, k13b, k14]; first | done | (with_reducible exact rfl) | (with_reducible exact ⟨rfl, rfl⟩))) ?_
   | refine oT ?_
   | refine oN ?_
   | refine oX ?_
   | refine qL ?_
   | refine qM ?_
   | exact oF (cX ..)
   | apply oK
   | refine lT ?_
   | refine lN ?_
   | refine lX ?_
   | refine qJ ?_
   | refine qK ?_
   | apply lK
   | refine oI ?_
   | refine oJ rfl ?_
   | refine lI ?_
   | refine lJ rfl ?_
   | (with_reducible exact rfl)
  exact oF (fin ..)
 by_cases e9 : op = 9
 ·subst e9
  repeat first
   | refine oB (by first | (with_reducible exact rfl) | (simp [cK, bN, cY, aA, aE, cR, bA, AV.cells, aI, bK, bJ, cU, aU, cW, eD, aT, cD, dI, bX, cQ, aH, bB, bW, k1, k3, k4, k5, k6, k7, k8, k9, k10, k13, k13b, k14]; first | done | (with_reducible exact rfl) | (with_reducible exact ⟨rfl, rfl⟩))) ?_
   | refine lB (by first | (with_reducible exact rfl) | (simp [cK, bN, cY, aA, aE, cR, bA, AV.cells, aI, bK, bJ, cU, aU, cW, eD, aT, cD, dI, bX, cQ, aH, bB, bW, k1, k3, k4, k5, k6, k7, k8, k9, k10, k13, k13b, k14]; first | done | (with_reducible exact rfl) | (with_reducible exact ⟨rfl, rfl⟩))) ?_
   | refine oT ?_
   | refine oN ?_
   | refine oX ?_
   | refine qL ?_
   | refine qM ?_
   | exact oF (cX ..)
   | apply oK
   | refine lT ?_
   | refine lN ?_
   | refine lX ?_
   | refine qJ ?_
   | refine qK ?_
   | apply lK
   | refine oI ?_
   | refine oJ rfl ?_
   | refine lI ?_
   | refine lJ rfl ?_
   | (with_reducible exact rfl)
  exact oF (fin ..)
 by_cases e10 : op = 10
 ·subst e10
  repeat first
   | refine oB (by first | (with_reducible exact rfl) | (simp [cK, bN, cY, aA, aE, cR, bA, AV.cells, aI, bK, bJ, cU, aU, cW, eD, aT, cD, dI, bX, cQ, aH, bB, bW, k1, k3, k4, k5, k6, k7, k8, k9, k10, k13, k13b, k14]; first | done | (with_reducible exact rfl) | (with_reducible exact ⟨rfl, rfl⟩))) ?_
   | refine lB (by first | (with_reducible exact rfl) | (simp [cK, bN, cY, aA, aE, cR, bA, AV.cells, aI, bK, bJ, cU, aU, cW, eD, aT, cD, dI, bX, cQ, aH, bB, bW, k1, k3, k4, k5, k6, k7, k8, k9, k10, k13, k13b, k14]; first | done | (with_reducible exact rfl) | (with_reducible exact ⟨rfl, rfl⟩))) ?_
   | refine oT ?_
   | refine oN ?_
   | refine oX ?_
   | refine qL ?_
   | refine qM ?_
   | exact oF (cX ..)
   | apply oK
   | refine lT ?_
   | refine lN ?_
   | refine lX ?_
   | refine qJ ?_
   | refine qK ?_
   | apply lK
   | refine oI ?_
   | refine oJ rfl ?_
   | refine lI ?_
   | refine lJ rfl ?_
   | (with_reducible exact rfl)
  exact oF (fin ..)
 by_cases e11 : op = 11
 ·subst e11
  repeat first
   | refine oB (by first | (with_reducible exact rfl) | (simp [cK, bN, cY, aA, aE, cR, bA, AV.cells, aI, bK, bJ, cU, aU, cW, eD, aT, cD, dI, bX, cQ, aH, bB, bW, k1, k3, k4, k5, k6, k7, k8, k9, k10, k13, k13b, k14]; first | done | (with_reducible exact rfl) | (with_reducible exact ⟨rfl, rfl⟩))) ?_
   | refine lB (by first | (with_reducible exact rfl) | (simp [cK, bN, cY, aA, aE, cR, bA, AV.cells, aI, bK, bJ, cU, aU, cW, eD, aT, cD, dI, bX, cQ, aH, bB, bW, k1, k3, k4, k5, k6, k7, k8, k9, k10, k13, k13b, k14]; first | done | (with_reducible exact rfl) | (with_reducible exact ⟨rfl, rfl⟩))) ?_
   | refine oT ?_
   | refine oN ?_
   | refine oX ?_
   | refine qL ?_
   | refine qM ?_
   | exact oF (cX ..)
   | apply oK
   | refine lT ?_
   | refine lN ?_
   | refine lX ?_
   | refine qJ ?_
   | refine qK ?_
   | apply lK
   | refine oI ?_
   | refine oJ rfl ?_
   | refine lI ?_
   | refine lJ rfl ?_
   | (with_reducible exact rfl)
  exact oF (fin ..)
 by_cases e12 : op = 12
 ·subst e12
  repeat first
   | refine oB (by first | (with_reducible exact rfl) | (simp [cK, bN, cY, aA, aE, cR, bA, AV.cells, aI, bK, bJ, cU, aU, cW, eD, aT, cD, dI, bX, cQ, aH, bB, bW, k1, k3, k4, k5, k6, k7, k8, k9, k10, k13, k13b, k14]; first | done | (with_reducible exact rfl) | (with_reducible exact ⟨rfl, rfl⟩))) ?_
   | refine lB (by first | (with_reducible exact rfl) | (simp [cK, bN, cY, aA, aE, cR, bA, AV.cells, aI, bK, bJ, cU, aU, cW, eD, aT, cD, dI, bX, cQ, aH, bB, bW, k1, k3, k4, k5, k6, k7, k8, k9, k10, k13, k13b, k14]; first | done | (with_reducible exact rfl) | (with_reducible exact ⟨rfl, rfl⟩))) ?_
   | refine oT ?_
   | refine oN ?_
   | refine oX ?_
   | refine qL ?_
   | refine qM ?_
   | exact oF (cX ..)
   | apply oK
   | refine lT ?_
   | refine lN ?_
   | refine lX ?_
   | refine qJ ?_
   | refine qK ?_
   | apply lK
   | refine oI ?_
   | refine oJ rfl ?_
   | refine lI ?_
   | refine lJ rfl ?_
   | (with_reducible exact rfl)
  exact oF (fin ..)
 by_cases e13 : op = 13
 ·subst e13
  repeat first
   | refine oB (by first | (with_reducible exact rfl) | (simp [cK, bN, cY, aA, aE, cR, bA, AV.cells, aI, bK, bJ, cU, aU, cW, eD, aT, cD, dI, bX, cQ, aH, bB, bW, k1, k3, k4, k5, k6, k7, k8, k9, k10, k13, k13b, k14]; first | done | (with_reducible exact rfl) | (with_reducible exact ⟨rfl, rfl⟩))) ?_
   | refine lB (by first | (with_reducible exact rfl) | (simp [cK, bN, cY, aA, aE, cR, bA, AV.cells, aI, bK, bJ, cU, aU, cW, eD, aT, cD, dI, bX, cQ, aH, bB, bW, k1, k3, k4, k5, k6, k7, k8, k9, k10, k13, k13b, k14]; first | done | (with_reducible exact rfl) | (with_reducible exact ⟨rfl, rfl⟩))) ?_
   | refine oT ?_
   | refine oN ?_
   | refine oX ?_
   | refine qL ?_
   | refine qM ?_
   | exact oF (cX ..)
   | apply oK
   | refine lT ?_
   | refine lN ?_
   | refine lX ?_
   | refine qJ ?_
   | refine qK ?_
   | apply lK
   | refine oI ?_
   | refine oJ rfl ?_
   | refine lI ?_
   | refine lJ rfl ?_
   | (with_reducible exact rfl)
  exact oF (fin ..)
 by_cases e14 : op = 14
 ·subst e14
  by_cases hx0 : x = 0
  ·have k14' : aZ Tryd.prog .neq 48 true (Un x) (.int .u64 0) = some (.bool false) := by rw [k14]; simp [hx0]
   rw [show (if x ≠ 0 then y else z) = z by rw [if_neg (by simp [hx0])]]
   repeat first
    | refine oB (by first | (with_reducible exact rfl) | (simp [cK, bN, cY, aA, aE, cR, bA, AV.cells, aI, bK, bJ, cU, aU, cW, eD, aT, cD, dI, bX, cQ, aH, bB, bW, k1, k3, k4, k5, k6, k7, k8, k9, k10, k13, k13b, k14']; first | done | (with_reducible exact rfl) | (with_reducible exact ⟨rfl, rfl⟩))) ?_
    | refine lB (by first | (with_reducible exact rfl) | (simp [cK, bN, cY, aA, aE, cR, bA, AV.cells, aI, bK, bJ, cU, aU, cW, eD, aT, cD, dI, bX, cQ, aH, bB, bW, k1, k3, k4, k5, k6, k7, k8, k9, k10, k13, k13b, k14']; first | done | (with_reducible exact rfl) | (with_reducible exact ⟨rfl, rfl⟩))) ?_
    | refine oT ?_
    | refine oN ?_
    | refine oX ?_
    | refine qL ?_
    | refine qM ?_
    | exact oF (cX ..)
    | apply oK
    | refine lT ?_
    | refine lN ?_
    | refine lX ?_
    | refine qJ ?_
    | refine qK ?_
    | apply lK
    | refine oI ?_
    | refine oJ rfl ?_
    | refine lI ?_
    | refine lJ rfl ?_
    | (with_reducible exact rfl)
   exact oF (fin ..)
  ·have k14' : aZ Tryd.prog .neq 48 true (Un x) (.int .u64 0) = some (.bool true) := by rw [k14]; simp [hx0]
   rw [show (if x ≠ 0 then y else z) = y by rw [if_pos hx0]]
   repeat first
    | refine oB (by first | (with_reducible exact rfl) | (simp [cK, bN, cY, aA, aE, cR, bA, AV.cells, aI, bK, bJ, cU, aU, cW, eD, aT, cD, dI, bX, cQ, aH, bB, bW, k1, k3, k4, k5, k6, k7, k8, k9, k10, k13, k13b, k14']; first | done | (with_reducible exact rfl) | (with_reducible exact ⟨rfl, rfl⟩))) ?_
    | refine lB (by first | (with_reducible exact rfl) | (simp [cK, bN, cY, aA, aE, cR, bA, AV.cells, aI, bK, bJ, cU, aU, cW, eD, aT, cD, dI, bX, cQ, aH, bB, bW, k1, k3, k4, k5, k6, k7, k8, k9, k10, k13, k13b, k14']; first | done | (with_reducible exact rfl) | (with_reducible exact ⟨rfl, rfl⟩))) ?_
    | refine oT ?_
    | refine oN ?_
    | refine oX ?_
    | refine qL ?_
    | refine qM ?_
    | exact oF (cX ..)
    | apply oK
    | refine lT ?_
    | refine lN ?_
    | refine lX ?_
    | refine qJ ?_
    | refine qK ?_
    | apply lK
    | refine oI ?_
    | refine oJ rfl ?_
    | refine lI ?_
    | refine lJ rfl ?_
    | (with_reducible exact rfl)
   exact oF (fin ..)
 repeat first
  | refine oB (by first | (with_reducible exact rfl) | (simp [cK, bN, cY, aA, aE, cR, bA, AV.cells, aI, bK, bJ, cU, aU, cW, eD, aT, cD, dI, bX, cQ, aH, bB, bW, e1, e2, e3, e4, e5, e6, e7, e8, e9, e10, e11, e12, e13, e14]; first | done | (with_reducible exact rfl) | (with_reducible exact ⟨rfl, rfl⟩))) ?_
  | refine lB (by first | (with_reducible exact rfl) | (simp [cK, bN, cY, aA, aE, cR, bA, AV.cells, aI, bK, bJ, cU, aU, cW, eD, aT, cD, dI, bX, cQ, aH, bB, bW, e1, e2, e3, e4, e5, e6, e7, e8, e9, e10, e11, e12, e13, e14]; first | done | (with_reducible exact rfl) | (with_reducible exact ⟨rfl, rfl⟩))) ?_
  | refine oT ?_
  | refine oN ?_
  | refine oX ?_
  | refine qL ?_
  | refine qM ?_
  | exact oF (cX ..)
  | apply oK
  | refine lT ?_
  | refine lN ?_
  | refine lX ?_
  | refine qJ ?_
  | refine qK ?_
  | apply lK
  | refine oI ?_
  | refine oJ rfl ?_
  | refine lI ?_
  | refine lJ rfl ?_
  | (with_reducible exact rfl)
 simp only [e1, e2, e3, e4, e5, e6, e7, e8, e9, e10, e11, e12, e13, e14, if_false, or_self]
 exact oF (fin ..)
structure Ins where
 op : Int
 d : Int
 a : Int
 b : Int
 c : Int
 k : Int
def Ins.v (i : Ins) : AV := lO i.op i.d i.a i.b i.c i.k
instance : Inhabited Ins := ⟨⟨0, 0, 0, 0, 0, 0⟩⟩
structure MS where
 regs : List Nat
 at_ : Nat
 code : Int
 mem : List Nat
 leaks : List (Int × Int)
 steps : Nat
def aBb (l : List Nat) : List AV := l.map fun n => Un n
def aCn (p : Int × Int) : AV := .agg [I6 p.1, I6 p.2]
def aBA (l : List (Int × Int)) : List AV := l.map aCn
def eE (cs : List Ins) : List AV := cs.map Ins.v
theorem xV (l : List Ins) : (eE l).length = l.length := by simp [eE]
theorem hO (n : Nat) (l : List Ins) : cV n (eE l) = true := oO n _ (fun _ => rfl) l
def MS.leak (s : MS) (kind at_ : Int) : MS := { s with leaks := s.leaks ++ [(kind, at_)] }
def MS.rg (s : MS) (i : Int) : Nat := s.regs.getD i.toNat 0
def MS.set (s : MS) (i : Int) (n : Nat) : MS := { s with regs := s.regs.set i.toNat n }
def MS.touch (s : MS) (i : Ins) : MS × Bool :=
 let ad := (s.rg i.a + u64 i.k) % 18446744073709551616
 let s1 := s.leak 3 (xK ad)
 if s.mem.length ≤ ad then ({ s1 with code := 3 }, false)
 else if i.op = 15 then (s1.set i.d (s.mem.getD ad 0), true)
 else ({ s1 with mem := s.mem.set ad (s.rg i.b) }, true)
def MS.branch (s : MS) (i : Ins) : MS :=
 if i.op = 17 then { s with at_ := i.k.toNat }
 else if (decide (s.rg i.a = 0) == decide (i.op = 18)) = true then { s.leak 2 1 with at_ := i.k.toNat }
 else s.leak 2 0
def MS.step (s : MS) (i : Ins) : MS × Bool :=
 let s := { s with at_ := s.at_ + 1 }
 if i.op = 15 ∨ i.op = 16 then s.touch i
 else if i.op = 17 ∨ i.op = 18 ∨ i.op = 19 then (s.branch i, true)
 else if i.op = 20 then ({ s with code := i.k }, false)
 else if (nR i.op i.k (s.rg i.a) (s.rg i.b) (s.rg i.c)).2 = true then (s.set i.d (nR i.op i.k (s.rg i.a) (s.rg i.b) (s.rg i.c)).1, true)
 else (s, true)
def hpM (p0 : ABlk) (bor : Bool) (cs : List Ins) (R M : Int) (s : MS) : aB :=
 [p0, ⟨40, 4, [.agg [.int .i64 0, .nils, .nils, .int .i64 0]]⟩, ⟨48, 1, aBb s.regs⟩,
  ⟨126, 9, [.agg [.ro bor (eE cs), I6 R, I6 M, .sl 2 s.regs.length 0 s.regs.length 1, Nn s.at_, I6 s.code, .sl 5 s.mem.length 0 s.mem.length 1, .sl 6 s.leaks.length 0 s.leaks.length 2, Nn s.steps]]⟩,
  ⟨48, 1, []⟩, ⟨48, 1, aBb s.mem⟩, ⟨96, 2, aBA s.leaks⟩]
section
variable (G : aC) (p0 : ABlk) (bor : Bool) (cs : List Ins) (R M : Int) (s : MS)
theorem wN {g : bV} {args : List AV} {r : AV} {s' : MS} (h : g args (hpM p0 bor cs R M s) = some (r, hpM p0 bor cs R M s')) : eW g args (hpM p0 bor cs R M s) = some (r, hpM p0 bor cs R M s') := by
 unfold eW; rw [h]; rfl
end
structure MS.Ok (s : MS) (R : Nat) : Prop where
 len : s.regs.length = R
 regs : ∀ x ∈ s.regs, x < 18446744073709551616
 mem : ∀ x ∈ s.mem, x < 18446744073709551616
 leaks : s.leaks.length ≤ 3 * s.steps
 big : s.mem.length ≤ 1000000
 few : s.steps ≤ 100000
theorem MS.Ok.rg {s : MS} {R : Nat} (h : s.Ok R) (i : Int) : s.rg i < 18446744073709551616 := by
 unfold MS.rg
 rw [List.getD_eq_getElem?_getD]
 cases hq : s.regs[i.toNat]? with
 | none => decide
 | some x => exact h.regs x (List.mem_of_getElem? hq)
structure Ins.Ok (i : Ins) (R n : Nat) : Prop where
 op : 1 ≤ i.op ∧ i.op ≤ 20
 a : i.op ≠ 17 → i.op ≠ 20 → 0 ≤ i.a ∧ i.a < R
 d : i.op ≤ 16 → 0 ≤ i.d ∧ i.d < R
 b : i.op ≤ 16 → 0 ≤ i.b ∧ i.b < R
 c : i.op ≤ 16 → 0 ≤ i.c ∧ i.c < R
 k : 17 ≤ i.op → i.op ≤ 19 → 0 ≤ i.k ∧ i.k ≤ n
section
variable (G : aC) (p0 : ABlk) (hp : cV 7 p0.elems = true) (bor : Bool) (cs : List Ins) (R : Nat) (M : Int) (s : MS) (i : Ins) (hs : s.Ok R) (hl : s.leaks.length ≤ 999990)
theorem bx (H : aB) : bN i.v H = some (.rp false i.v 0, H) := rfl
end
section
variable (G : aC) (p0 : ABlk) (hp : cV 7 p0.elems = true) (bor b2 : Bool) (cs : List Ins) (R : Nat) (M : Int) (fuel : Int) (self : bV) (k : Nat)
end
theorem aBJ (l : List Ins) : dW (eE l) = true := pP _ (fun _ => rfl) l
theorem aBs (l : List Ins) : fT (eE l) = true := oQ _ (fun _ => rfl) l
def iQ (bor : Bool) (cs : List Ins) (R M : Int) : AV := .agg [.ro bor (eE cs), I6 R, I6 M]
structure Frm where
 d : Bool
 a : Bool
 b : Bool
 c : Bool
 k : Bool
def iG (op : Int) : Option Frm :=
 if op = 1 then some ⟨true, false, false, false, true⟩
 else if op = 2 then some ⟨true, true, false, false, false⟩
 else if (3 ≤ op ∧ op ≤ 9) ∨ op = 13 then some ⟨true, true, true, false, false⟩
 else if (10 ≤ op ∧ op ≤ 12) ∨ op = 15 then some ⟨true, true, false, false, true⟩
 else if op = 14 then some ⟨true, true, true, true, false⟩
 else if op = 16 then some ⟨false, true, true, false, true⟩
 else if op = 17 ∨ op = 20 then some ⟨false, false, false, false, true⟩
 else if op = 18 ∨ op = 19 then some ⟨false, true, false, false, true⟩
 else none
def eM (op : Int) : ByteArray :=
 if op = 1 then ⟨#[99, 111, 110, 115, 116]⟩ else if op = 2 then ⟨#[109, 111, 118]⟩ else if op = 3 then ⟨#[97, 100, 100]⟩ else if op = 4 then ⟨#[115, 117, 98]⟩ else if op = 5 then ⟨#[109, 117, 108]⟩
 else if op = 6 then ⟨#[104, 105, 103, 104]⟩ else if op = 7 then ⟨#[97, 110, 100]⟩ else if op = 8 then ⟨#[111, 114]⟩ else if op = 9 then ⟨#[120, 111, 114]⟩ else if op = 10 then ⟨#[115, 104, 108]⟩
 else if op = 11 then ⟨#[115, 104, 114]⟩ else if op = 12 then ⟨#[115, 97, 114]⟩ else if op = 13 then ⟨#[108, 101, 115, 115]⟩ else if op = 14 then ⟨#[115, 101, 108]⟩ else if op = 15 then ⟨#[108, 100]⟩
 else if op = 16 then ⟨#[115, 116]⟩ else if op = 17 then ⟨#[98, 114]⟩ else if op = 18 then ⟨#[98, 122]⟩ else if op = 19 then ⟨#[98, 110, 122]⟩ else if op = 20 then ⟨#[104, 97, 108, 116]⟩ else ⟨#[110, 111, 110, 101]⟩
def fE (w : ByteArray) (f : Frm) : AV := .agg [.str w, .bool f.d, .bool f.a, .bool f.b, .bool f.c, .bool f.k]
def dN (op : Int) : Frm := match iG op with | some f => f | none => ⟨false, false, false, false, false⟩
theorem zN {op : Int} (h : 1 ≤ op ∧ op ≤ 20) : op = 1 ∨ op = 2 ∨ op = 3 ∨ op = 4 ∨ op = 5 ∨ op = 6 ∨ op = 7 ∨ op = 8 ∨ op = 9 ∨ op = 10 ∨ op = 11 ∨ op = 12 ∨ op = 13 ∨ op = 14 ∨ op = 15 ∨ op = 16 ∨ op = 17 ∨ op = 18 ∨ op = 19 ∨ op = 20 := by omega
theorem kP {op : Int} (h : ¬ (1 ≤ op ∧ op ≤ 20)) : iG op = none := by
 unfold iG
 repeat rw [if_neg (by omega)]
theorem kT {op : Int} (h : ¬ (1 ≤ op ∧ op ≤ 20)) : eM op = ⟨#[110, 111, 110, 101]⟩ := by
 unfold eM
 repeat rw [if_neg (by omega)]
theorem aAT (G : aC) (k : Nat) (op : Int) : cE.f G (k + 4) [I6 op] [] = some (.tup [fE (eM op) (dN op), .bool (iG op).isSome], []) := by
 by_cases h : 1 ≤ op ∧ op ≤ 20
 ·rcases zN h with rfl | rfl | rfl | rfl | rfl | rfl | rfl | rfl | rfl | rfl | rfl | rfl | rfl | rfl | rfl | rfl | rfl | rfl | rfl | rfl <;> kernel_rfl
 ·rw [cE.step]
  unfold cE.c
  unfold dN
  rw [kP h, kT h]
  refine nM ?_
  have fx := True.intro
  refine wkA ?_
  refine jI ?_
  rfl
def bsV (f : Frm) : AV := .ro false [.bool f.d, .bool f.a, .bool f.b, .bool f.c, .bool f.k]
def isV (i : Ins) : AV := .ro false [I6 i.d, I6 i.a, I6 i.b, I6 i.c, I6 i.k]
theorem zE (G : aC) (k : Nat) (i : Ins) (w : ByteArray) (f : Frm) : cP.f G (k + 1) [i.v, fE w f] [] = some (.tup [bsV f, isV i], []) := by kernel_rfl
abbrev eV (g : Nat) : AV := .iface 154 (.gp g)
section
variable (G : aC) (k : Nat) (self : bV) (c1 : AV) (R : Int) (hR0 : 0 ≤ R)
end
structure GOk (G : aC) : Prop where
 g0 : G 0 = some (eV 0)
 g1 : G 1 = some (eV 1)
 g2 : G 2 = some (eV 2)
 g3 : G 3 = some (eV 3)
 g4 : G 4 = some (eV 4)
 g5 : G 5 = some (eV 5)
abbrev I (n : Int) : AV := .int .i64 n
abbrev Rg (n : Int) : Prop := -9223372036854775808 ≤ n ∧ n < 9223372036854775808
def dH (n : Int) : ByteArray := ⟨(Lib.itoa n).toArray⟩
def qR : ByteArray := ⟨#[32]⟩
theorem iM {n : Int} (h : Rg n) : (dH n).size ≤ 21 := by
 have := Lib.itoa_length_le n h.1 (by have := h.2; omega)
 show (Lib.itoa n).toArray.size ≤ 21
 rw [List.size_toArray]; exact this
theorem fQ : qR.size = 1 := rfl
theorem tK (t : Bool) (a b : ByteArray) (h : a.size + b.size ≤ 9223372036854775807) : aZ Tryd.prog .add 9 t (.str a) (.str b) = some (.str (a ++ b)) := by
 simp [aZ, oP, h]
def fN (p : Bool) (n : Int) (s : ByteArray) : ByteArray := if p then s ++ (qR ++ dH n) else s
theorem fJ {p : Bool} {n : Int} {s : ByteArray} {m : Nat} (hn : Rg n) (hs : s.size ≤ m) : (fN p n s).size ≤ m + 22 := by
 have := iM hn
 unfold fN
 split
 ·rw [ByteArray.size_append, ByteArray.size_append, fQ]; omega
 ·omega
theorem mP (op : Int) : (eM op).size ≤ 5 := by
 by_cases h : 1 ≤ op ∧ op ≤ 20
 ·rcases zN h with rfl | rfl | rfl | rfl | rfl | rfl | rfl | rfl | rfl | rfl | rfl | rfl | rfl | rfl | rfl | rfl | rfl | rfl | rfl | rfl <;> decide
 ·rw [kT h]; decide
def lH (j : Int) (i : Ins) : ByteArray := (dH j ++ qR) ++ eM i.op
theorem pA {j : Int} (i : Ins) (h : Rg j) : (lH j i).size ≤ 27 := by
 have h1 := iM h
 have h2 := mP i.op
 unfold lH
 rw [ByteArray.size_append, ByteArray.size_append, fQ]; omega
def dO (j : Int) (i : Ins) : ByteArray :=
 fN (dN i.op).k i.k (fN (dN i.op).c i.c (fN (dN i.op).b i.b (fN (dN i.op).a i.a (fN (dN i.op).d i.d (lH j i)))))
structure Ins.Rgs (i : Ins) : Prop where
 d : Rg i.d
 a : Rg i.a
 b : Rg i.b
 c : Rg i.c
 k : Rg i.k
section
variable (G : aC) (hT : iA (G 14) = true) (k : Nat)
include hT in
theorem aCj (n : Int) (h : Rg n) (H : aB) : aN (bI.f G k) [I6 n, .int .i64 10] H = some (.str (dH n), H) := by
 refine cS ?_ rfl rfl
 show (if iA (G 14) = true ∧ (10 : Int) = 10 ∧ -9223372036854775808 ≤ n ∧ n ≤ 9223372036854775807 then some (AV.str ⟨(Lib.itoa n).toArray⟩, ([] : aB)) else none) = _
 exact if_pos ⟨hT, rfl, h.1, by have := h.2; omega⟩
include hT in
theorem aCk (n : Int) (h : Rg n) (H : aB) : aN (aO.f G (k + 1)) [I6 n, .int .i64 10] H = some (.str (dH n), H) := by
 refine cS ?_ rfl rfl
 have r := aCj G hT k n h
 rw [aO.step]
 unfold aO.c
 refine nM ?_
 have fx := r
 refine tE ?_
 exact w1 rfl rfl
include hT in
theorem zK (n : Int) (h : Rg n) (H : aB) : aN (aW.f G (k + 2)) [I6 n] H = some (.str (dH n), H) := by
 refine cS ?_ rfl rfl
 have r := aCj G hT k n h
 have r2 : ∀ H, aN (aL.f G (k + 1)) [I6 n] H = some (.str (dH n), H) := fun H => by
  refine cS ?_ rfl rfl
  rw [aL.step]
  unfold aL.c
  refine nM ?_
  have fx := r
  refine tE ?_
  exact w1 rfl rfl
 rw [aW.step]
 unfold aW.c
 refine nM ?_
 have fx := r2
 refine tE ?_
 exact w1 rfl rfl
def gC (L : List AV) (T : aB) : aB := ⟨9, 1, []⟩ :: ⟨9, 1, L⟩ :: T
abbrev qI (L : List AV) (iv fv : AV) : aB := gC L [⟨52, 6, [iv]⟩, ⟨113, 6, [fv]⟩]
def bD (l : List ByteArray) : List AV := l.map .str
theorem gF (l : List ByteArray) : (bD l).length = l.length := by simp [bD]
theorem gO (n : Nat) (l : List ByteArray) : cV n (bD l) = true := by
 induction l with
 | nil => rfl
 | cons a l ih => simpa [bD, cV, bR] using ih
theorem aAq (l : List ByteArray) : iY 1 (bD l) = true := xP 1 _ (fun _ => rfl) l
def wD (x0 x3 x4 x5 : AV) (i : Ins) (f : Frm) (s : ByteArray) (j : Int) : List AV := [x0, .str s, isV i, x3, x4, x5, bsV f, I6 5, I6 j]
variable (self : bV) (L : List ByteArray) (i : Ins) (f : Frm) (w : ByteArray) (x0 x3 x4 x5 : AV)
include hT in
theorem lS (h0 : bR 4 x0 = true) (h3 : bR 4 x3 = true) (h4 : bR 4 x4 = true) (h5 : bR 4 x5 = true) (j : Int) (hj : 0 ≤ j ∧ j < 5) (p : Bool) (n : Int) (s : ByteArray) (fu : Nat) (hn : Rg n) (hs : s.size ≤ 1000)
  (i1 : aH 1 (bsV f) (I6 j) = some (.rp false (.bool p) 0)) (i2 : aH 1 (isV i) (I6 j) = some (.rp false (I6 n) 0)) :
  eY (aV.l9 G (k + 1) 4 self) (fu + 1) (wD x0 x3 x4 x5 i f s j) (qI (bD L) i.v (fE w f)) = eY (aV.l9 G (k + 1) 4 self) fu (wD x0 x3 x4 x5 i f (fN p n s) (j + 1)) (qI (bD L) i.v (fE w f)) := by
 have hc : iR 4 (wD x0 x3 x4 x5 i f s j) (qI (bD L) i.v (fE w f)) = some (qI (bD L) i.v (fE w f)) := by
  have e : (qI (bD L) i.v (fE w f)).take 4 = qI (bD L) i.v (fE w f) := rfl
  have b1 : cV 4 (wD x0 x3 x4 x5 i f s j) = true := by
   unfold wD
   simp only [cV, h0, h3, h4, h5, Bool.and_true, Bool.true_and]; rfl
  have b2 : eU 4 (qI (bD L) i.v (fE w f)) = true := by simp [gC, eU, cV, bR, gO, Ins.v, lO, fE]
  unfold iR
  rw [e, b1, b2]; rfl
 have g1 : aZ Tryd.prog .lss 3 false (I6 j) (I6 5) = some (.bool true) := iW (by omega)
 have q2 : aZ Tryd.prog .add 3 true (I6 j) (.int .i64 1) = some (I6 (j + 1)) := by rw [iP, fB (by omega) (by omega)]
 have l1 : ∀ H, aE G false 1 (.rp false (.bool p) 0) H = some (.bool p) := fun H => rfl
 have l2 : ∀ H, aE G false 1 (.rp false (I6 n) 0) H = some (I6 n) := fun H => rfl
 have r := aCk G hT k n hn
 have hz := iM hn
 have c1 : aZ Tryd.prog .add 9 true (.str ⟨#[32]⟩) (.str (dH n)) = some (.str (qR ++ dH n)) := tK true qR (dH n) (by rw [fQ]; omega)
 have c2 : aZ Tryd.prog .add 9 false (.str s) (.str (qR ++ dH n)) = some (.str (s ++ (qR ++ dH n))) := tK false s _ (by rw [ByteArray.size_append, fQ]; omega)
 generalize hrr : eY (aV.l9 G (k + 1) 4 self) fu (wD x0 x3 x4 x5 i f (fN p n s) (j + 1)) (qI (bD L) i.v (fE w f)) = rr
 rw [fI, aV.l9]
 refine tP ?_
 refine eC hc ?_
 unfold wD at hrr ⊢
 generalize qI (bD L) i.v (fE w f) = HH at *
 generalize bsV f = bv at *
 generalize isV i = pv at *
 clear hs hz hc h0 h3 h4 h5
 cases p
 ·have e : fN false n s = s := rfl
  rw [e] at hrr
  have fx := aCJ g1 <| aCJ i1 <| aCJ l1 <| q2
  refine tE ?_
  refine jI ?_
  exact hrr
 ·have e : fN true n s = s ++ (qR ++ dH n) := rfl
  rw [e] at hrr
  generalize s ++ (qR ++ dH n) = s2 at *
  generalize qR ++ dH n = s3 at *
  generalize dH n = s4 at *
  have fx := aCJ g1 <| aCJ i1 <| aCJ l1 <| aCJ i2 <| aCJ l2 <| aCJ r <| aCJ c1 <| aCJ c2 <| q2
  refine tE ?_
  refine jI ?_
  exact hrr
include hT in
theorem aBz (h0 : bR 4 x0 = true) (h3 : bR 4 x3 = true) (h4 : bR 4 x4 = true) (h5 : bR 4 x5 = true) (s : ByteArray) (fu : Nat) (hi : i.Rgs) (hs : s.size ≤ 27) :
  eY (aV.l9 G (k + 1) 4 self) (fu + 6) (wD x0 x3 x4 x5 i f s 0) (qI (bD L) i.v (fE w f)) = some (.exit 2, wD x0 x3 x4 x5 i f (fN f.k i.k (fN f.c i.c (fN f.b i.b (fN f.a i.a (fN f.d i.d s))))) 5, qI (bD L) i.v (fE w f)) := by
 have z1 := fJ (p := f.d) hi.d hs
 have z2 := fJ (p := f.a) hi.a z1
 have z3 := fJ (p := f.b) hi.b z2
 have z4 := fJ (p := f.c) hi.c z3
 have z5 := fJ (p := f.k) hi.k z4
 refine (lS G hT k self L i f w x0 x3 x4 x5 h0 h3 h4 h5 0 (by omega) f.d i.d s (fu + 5) hi.d (by omega) rfl rfl).trans ?_
 refine (lS G hT k self L i f w x0 x3 x4 x5 h0 h3 h4 h5 1 (by omega) f.a i.a _ (fu + 4) hi.a (by omega) rfl rfl).trans ?_
 refine (lS G hT k self L i f w x0 x3 x4 x5 h0 h3 h4 h5 2 (by omega) f.b i.b _ (fu + 3) hi.b (by omega) rfl rfl).trans ?_
 refine (lS G hT k self L i f w x0 x3 x4 x5 h0 h3 h4 h5 3 (by omega) f.c i.c _ (fu + 2) hi.c (by omega) rfl rfl).trans ?_
 refine (lS G hT k self L i f w x0 x3 x4 x5 h0 h3 h4 h5 4 (by omega) f.k i.k _ (fu + 1) hi.k (by omega) rfl rfl).trans ?_
 generalize fN f.k i.k (fN f.c i.c (fN f.b i.b (fN f.a i.a (fN f.d i.d s)))) = s9
 have hc : iR 4 (wD x0 x3 x4 x5 i f s9 5) (qI (bD L) i.v (fE w f)) = some (qI (bD L) i.v (fE w f)) := by
  have e : (qI (bD L) i.v (fE w f)).take 4 = qI (bD L) i.v (fE w f) := rfl
  have b1 : cV 4 (wD x0 x3 x4 x5 i f s9 5) = true := by
   unfold wD
   simp only [cV, h0, h3, h4, h5, Bool.and_true, Bool.true_and]; rfl
  have b2 : eU 4 (qI (bD L) i.v (fE w f)) = true := by simp [gC, eU, cV, bR, gO, Ins.v, lO, fE]
  unfold iR
  rw [e, b1, b2]; rfl
 have g1 : aZ Tryd.prog .lss 3 false (I6 5) (I6 5) = some (.bool false) := iV (by omega)
 show eY _ (fu + 1) (wD x0 x3 x4 x5 i f s9 5) _ = _
 rw [fI, aV.l9]
 refine tP ?_
 refine eC hc ?_
 unfold wD
 clear z1 z2 z3 z4 z5 hs hi hc
 have fx := g1
 refine tE ?_
 refine jI ?_; rfl
end
section
variable (G : aC) (hT : iA (G 14) = true) (k : Nat) (self : bV) (cs : List Ins)
def yO (j : Nat) : List AV := [.sl 1 j 0 j 1, .ro false (eE cs), Nn cs.length, Nn j]
theorem rP (j : Nat) : cV 2 (yO cs j) = true := by simp [yO, cV, bR, hO]
theorem nZ (xs : List AV) (hx : cV 2 xs = true) (L : List ByteArray) (T : aB) : iR 2 xs (gC (bD L) T) = some (gC (bD L) []) := by
 have e : (gC (bD L) T).take 2 = gC (bD L) [] := rfl
 have h : eU 2 (gC (bD L) []) = true := by simp [gC, eU, cV, bR, gO]
 unfold iR
 rw [e, hx, h]; rfl
theorem apT (L : List ByteArray) (s : ByteArray) (j : Nat) (hL : L.length = j) (hj : j ≤ 100000) (T : aB) : fS 9 1 (.sl 1 j 0 j 1) (.ro false [.str s]) (gC (bD L) T) = some (.sl 1 (j + 1) 0 (j + 1) 1, gC (bD (L ++ [s])) T) := by
 have e : (gC (bD L) T)[1]? = some ⟨9, 1, bD L⟩ := rfl
 have hs : iY 1 [AV.str s] = true := rfl
 unfold fS
 simp only [e, gH, gF, hL, List.length_singleton]
 rw [if_pos (by refine ⟨?_, ?_, ?_, ?_, ?_⟩ <;> first | trivial | exact hs | omega)]
 have e2 : (bD L).take j = bD L := List.take_of_length_le (by rw [gF]; omega)
 have e3 : (bD L).drop (j + 1) = [] := List.drop_of_length_le (by rw [gF]; omega)
 rw [e2, e3, List.append_nil]
 have e4 : bD L ++ [AV.str s] = bD (L ++ [s]) := by simp [bD]
 rw [e4, gF, List.length_append, hL]
 rfl
include hT in
theorem wO (L : List ByteArray) (j : Nat) (hL : L.length = j) (hj : j < cs.length) (hl : cs.length ≤ 1000) (hi : (cs.getD j default).Rgs) (fu : Nat) (T : aB) :
  ∃ T2, eY (aV.l3 G (k + 10) 2 self) (fu + 1) (yO cs j) (gC (bD L) T) = eY (aV.l3 G (k + 10) 2 self) fu (yO cs (j + 1)) (gC (bD (L ++ [dO j (cs.getD j default)])) T2) := by
 have hc := nZ (yO cs j) (rP cs j) L T
 have g1 : aZ Tryd.prog .lss 3 false (Nn j) (Nn cs.length) = some (.bool true) := iW (by omega)
 have q2 : aZ Tryd.prog .add 3 true (Nn j) (.int .i64 1) = some (Nn (j + 1 : Nat)) := by
  rw [iP, fB (by omega) (by omega)]; congr 2
 have h0 : (0 : Int) ≤ (j : Int) := by omega
 have d1 : aH 6 (.ro false (eE cs)) (Nn j) = some (.rp false (cs.getD j default).v 0) := by
  have e : (eE cs)[(j : Int).toNat]? = some (cs.getD j default).v := by
   rw [Int.toNat_natCast]
   simp [eE, List.getElem?_map, List.getD, List.getElem?_eq_getElem hj]
  unfold aH
  simp only [e]
  rw [if_pos h0]; rfl
 generalize cs.getD j default = i at *
 have d2 : ∀ H, aE G true 6 (.rp false i.v 0) H = some i.v := fun H => rfl
 have bx : cY 52 (.agg [(.int .i64 0), (.int .i64 0), (.int .i64 0), (.int .i64 0), (.int .i64 0), (.int .i64 0)]) (gC (bD L) []) = some (.ptr 2 1 0 0, gC (bD L) [⟨52, 6, [.agg [(.int .i64 0), (.int .i64 0), (.int .i64 0), (.int .i64 0), (.int .i64 0), (.int .i64 0)]]⟩]) := rfl
 have sx : eD (aT 6 (.ptr 2 1 0 0) i.v (gC (bD L) [⟨52, 6, [.agg [(.int .i64 0), (.int .i64 0), (.int .i64 0), (.int .i64 0), (.int .i64 0), (.int .i64 0)]]⟩])) = some (.tup [], gC (bD L) [⟨52, 6, [i.v]⟩]) := rfl
 have f0 : aA 0 (.ptr 2 1 0 0) = some (.ptr 2 1 0 0) := rfl
 have l0 : aE G false 1 (.ptr 2 1 0 0) (gC (bD L) [⟨52, 6, [i.v]⟩]) = some (I6 i.op) := rfl
 have ro : ∀ H, aN (cE.f G (k + 10)) [I6 i.op] H = _ := fun H => cS (H := H) (aAT G (k + 6) i.op) rfl rfl
 have y0 : aI (.tup [fE (eM i.op) (dN i.op), .bool (iG i.op).isSome]) 0 = some (fE (eM i.op) (dN i.op)) := rfl
 have y1 : aI (.tup [fE (eM i.op) (dN i.op), .bool (iG i.op).isSome]) 1 = some (.bool (iG i.op).isSome) := rfl
 have b2 : cY 113 (.agg [(.str ⟨#[]⟩), (.bool false), (.bool false), (.bool false), (.bool false), (.bool false)]) (gC (bD L) [⟨52, 6, [i.v]⟩]) = some (.ptr 3 1 0 0, gC (bD L) [⟨52, 6, [i.v]⟩, ⟨113, 6, [.agg [(.str ⟨#[]⟩), (.bool false), (.bool false), (.bool false), (.bool false), (.bool false)]]⟩]) := rfl
 have s2 : eD (aT 6 (.ptr 3 1 0 0) (fE (eM i.op) (dN i.op)) (gC (bD L) [⟨52, 6, [i.v]⟩, ⟨113, 6, [.agg [(.str ⟨#[]⟩), (.bool false), (.bool false), (.bool false), (.bool false), (.bool false)]]⟩])) = some (.tup [], qI (bD L) i.v (fE (eM i.op) (dN i.op))) := rfl
 have ri : ∀ H, aN (aW.f G (k + 10)) [Nn j] H = _ := fun H => zK G hT (k + 8) (j : Int) ⟨by omega, by omega⟩ H
 have hz := iM (n := (j : Int)) ⟨by omega, by omega⟩
 have hw := mP i.op
 have c1 : aZ Tryd.prog .add 9 true (.str (dH j)) (.str ⟨#[32]⟩) = some (.str (dH j ++ qR)) := tK true _ qR (by rw [fQ]; omega)
 have f3 : aA 0 (.ptr 3 1 0 0) = some (.ptr 3 1 0 0) := rfl
 have l3 : aE G false 1 (.ptr 3 1 0 0) (qI (bD L) i.v (fE (eM i.op) (dN i.op))) = some (.str (eM i.op)) := rfl
 have c2 : aZ Tryd.prog .add 9 false (.str (dH j ++ qR)) (.str (eM i.op)) = some (.str (lH j i)) := tK false _ _ (by rw [ByteArray.size_append, fQ]; omega)
 have l4 : aE G true 6 (.ptr 2 1 0 0) (qI (bD L) i.v (fE (eM i.op) (dN i.op))) = some i.v := rfl
 have l5 : aE G true 6 (.ptr 3 1 0 0) (qI (bD L) i.v (fE (eM i.op) (dN i.op))) = some (fE (eM i.op) (dN i.op)) := rfl
 have rh : ∀ H, aN (cP.f G (k + 10)) [i.v, fE (eM i.op) (dN i.op)] H = _ := fun H => cS (H := H) (zE G (k + 9) i (eM i.op) (dN i.op)) rfl rfl
 have x0 : aI (.tup [bsV (dN i.op), isV i]) 0 = some (bsV (dN i.op)) := rfl
 have x1 : aI (.tup [bsV (dN i.op), isV i]) 1 = some (isV i) := rfl
 have lb : bX (bsV (dN i.op)) = some (I6 5) := rfl
 have lp := aBz G hT (k + 9) self L i (dN i.op) (eM i.op) (.sl 1 j 0 j 1) (.ro false (eE cs)) (Nn cs.length) (Nn j) (by simp [bR]) (by simp [bR, hO]) rfl rfl (lH j i) (k + 4) hi (pA i ⟨by omega, by omega⟩)
 have br : ∀ s H, bK 1 1 (.str ⟨#[]⟩) [(0, .str s)] H = some (.ro false [.str s], H) := fun s H => rfl
 have ap := apT L (dO j i) j hL (by omega) [⟨52, 6, [i.v]⟩, ⟨113, 6, [fE (eM i.op) (dN i.op)]⟩]
 refine ⟨[⟨52, 6, [i.v]⟩, ⟨113, 6, [fE (eM i.op) (dN i.op)]⟩], ?_⟩
 generalize hrr : eY (aV.l3 G (k + 10) 2 self) fu (yO cs (j + 1)) (gC (bD (L ++ [dO j i])) [⟨52, 6, [i.v]⟩, ⟨113, 6, [fE (eM i.op) (dN i.op)]⟩]) = rr
 have eS : fN (dN i.op).k i.k (fN (dN i.op).c i.c (fN (dN i.op).b i.b (fN (dN i.op).a i.a (fN (dN i.op).d i.d (lH j i))))) = dO j i := rfl
 rw [eS] at lp
 rw [fI, aV.l3]
 refine tP ?_
 refine eC hc ?_
 unfold yO at hrr ⊢
 unfold wD at lp
 have ap' : fS 9 1 (.sl 1 j 0 j 1) (.ro false [.str (dO j i)]) (qI (bD L) i.v (fE (eM i.op) (dN i.op))) = some (.sl 1 (j + 1) 0 (j + 1) 1, gC (bD (L ++ [dO j i])) [⟨52, 6, [i.v]⟩, ⟨113, 6, [fE (eM i.op) (dN i.op)]⟩]) := ap
 clear ap hi hw hz hc eS
 have hlen : (qI (bD L) i.v (fE (eM i.op) (dN i.op))).length = 4 := rfl
 generalize dO j i = ln at *
 generalize lH j i = hd at *
 generalize bsV (dN i.op) = bv at *
 generalize isV i = pv at *
 generalize (iG i.op).isSome = fs at *
 generalize eM i.op = wd at *
 generalize fE wd (dN i.op) = fv at *
 generalize i.op = op at *
 generalize i.v = iv at *
 have fx := aCJ g1 <| aCJ d1 <| aCJ d2 <| aCJ bx <| aCJ sx <| aCJ f0 <| aCJ l0 <| aCJ ro <| aCJ y0 <| aCJ y1 <| aCJ b2 <| aCJ s2 <| aCJ ri <| aCJ c1 <| aCJ f3 <| aCJ l3 <| aCJ c2 <| aCJ l4 <| aCJ l5 <| aCJ rh <| aCJ x0 <| aCJ x1 <| aCJ lb <| aCJ br <| aCJ ap' <| q2
 have lx1 := lp
 refine tE ?_
 refine jI ?_
 exact hrr
end
inductive VE where
 | ok
 | bare (e : Nat)
 | at_ (j e : Nat)
section
variable {bor : Bool} (G : aC) (hg : GOk G) (k : Nat) (self : bV) (cs : List Ins) (R M : Int)
end
section
variable {bor : Bool} (G : aC) (hg : GOk G) (k : Nat) (cs : List Ins) (R M : Int) (bm : Bool) (mem : List Nat) (fuel : Int)
end
def gU (op : Int) : Int :=
 if op = 1 then 1 else if 10 ≤ op ∧ op ≤ 12 then 2 else if op = 15 ∨ op = 16 then 3 else if op = 17 ∨ op = 18 ∨ op = 19 then 4 else if op = 20 then 5 else 0
def hvV (f : Frm) (n : Int) : AV := .agg [.bool f.d, .bool f.a, .bool f.b, .bool f.c, I6 n]
theorem pC {op : Int} (h : ¬ (1 ≤ op ∧ op ≤ 20)) : gU op = 0 := by
 unfold gU
 repeat rw [if_neg (by omega)]
theorem aAl (G : aC) (k : Nat) (op : Int) : aX.f G (k + 1) [I6 op] [] = some (.tup [hvV (dN op) (gU op), .bool (iG op).isSome], []) := by
 by_cases h : 1 ≤ op ∧ op ≤ 20
 ·rcases zN h with rfl | rfl | rfl | rfl | rfl | rfl | rfl | rfl | rfl | rfl | rfl | rfl | rfl | rfl | rfl | rfl | rfl | rfl | rfl | rfl <;> kernel_rfl
 ·rw [aX.step]
  unfold aX.c
  unfold dN
  rw [kP h, pC h]
  refine nM ?_
  repeat' first
   | (with_reducible first | refine eT ?_ | refine eN ?_ | refine eS ?_ | refine eXn ?_ | refine eXr ?_ | refine eX ?_ | refine eI ?_ | refine eK ?_ | refine eV0 ?_ | refine aAD ?_ | refine aAG ?_ | refine aAA ?_ | refine aAF ?_ | refine aAB ?_ | refine aAC ?_)
   | ((with_reducible apply eCn); (simp only [dY, dX]; first | done | (with_reducible exact rfl)))
   | ((with_reducible apply eJ); (rfl))
   | ((with_reducible apply aAE); (first | rfl | (simp only [dY, dX]; rfl)))
   | ((with_reducible apply eB); (first | (with_reducible exact rfl) | (simp (disch := omega) only [qa, dI, AV.cells, bA, aU, cW, bK, bJ, cU, Nat.reduceLeDiff, Nat.reduceLT, Nat.reduceAdd, ↓reduceIte]; first | done | (with_reducible exact rfl) | (with_reducible exact ⟨rfl, rfl⟩))))
   | ((with_reducible apply eR); (simp only [dY, dX]; (with_reducible exact rfl)))
   | ((with_reducible first | refine aBN ?_ ?_ | refine aBS ?_ ?_ | refine aBR ?_ ?_ | refine aBQ ?_ ?_ | refine aBP ?_ ?_ | refine aBO ?_ ?_ | refine aBT ?_ ?_ | refine aAo ?_ ?_ | refine sGd ?_ ?_ | refine yY ?_ ?_) <;> intro hq <;> try subst hq)
  all_goals first | omega | (refine jI ?_; rfl)
def ftV (c : Int) (p : Bool) (j : Int) : AV := .agg [I6 c, .bool p, I6 j]
inductive Cls : Frm → Int → Prop
 | c1 : Cls ⟨true, false, false, false, true⟩ 1
 | c2 : Cls ⟨true, true, false, false, false⟩ 0
 | c3 : Cls ⟨true, true, true, false, false⟩ 0
 | c4 : Cls ⟨true, true, false, false, true⟩ 2
 | c5 : Cls ⟨true, true, true, true, false⟩ 0
 | c6 : Cls ⟨true, true, false, false, true⟩ 3
 | c7 : Cls ⟨false, true, true, false, true⟩ 3
 | c8 : Cls ⟨false, false, false, false, true⟩ 4
 | c9 : Cls ⟨false, true, false, false, true⟩ 4
 | c10 : Cls ⟨false, false, false, false, true⟩ 5
section
variable (G : aC) (k : Nat) (self : bV) (cs : List Ins) (R M : Int)
abbrev f0 : AV := ftV 0 false 0
end
theorem aCh (L : List ByteArray) (n : Nat) (hn : L.length = n) (T : aB) : bS [.sl 1 n 0 n 1] 0 (gC (bD L) T) = some (.ret, [.ro false (bD L)], []) := by
 have hc : iR 0 [] (gC (bD L) T) = some [] := by
  unfold iR
  rw [List.take_zero]; rfl
 have hf : tX (gC (bD L) T) 0 6 (.sl 1 n 0 n 1) = some (.ro false (bD L)) := aBw (ty := 9) (xs := bD L) rfl (by omega) (by rw [gF]; exact hn) (aAq L) (gO 0 L)
 unfold bS mB
 simp only [hf, hc]
section
variable (G : aC) (hT : iA (G 14) = true) (k : Nat) (i : Ins) (R M : Int)
def fY : List ByteArray := [dO 0 i, dO 1 i]
include hT in
theorem yN (hi : i.Rgs) : aV.f G (k + 11) [iQ false [i, i] R M] [] = some (.ro false (bD (fY i)), []) := by
 rw [aV.step]
 unfold aV.c
 have b0 : ∀ H, bN (iQ false [i, i] R M) H = some (.rp false (iQ false [i, i] R M) 0, H) := fun H => rfl
 have f0 : aA 0 (.rp false (iQ false [i, i] R M) 0) = some (.rp false (iQ false [i, i] R M) 0) := rfl
 have l0 : ∀ H, aE G false 1 (.rp false (iQ false [i, i] R M) 0) H = some (.ro false (eE [i, i])) := fun H => rfl
 have lc : bX (.ro false (eE [i, i])) = some (Nn 2) := rfl
 obtain ⟨T1, s1⟩ := wO G hT k (aV.f G (k + 10)) [i, i] [] 0 rfl (by simp) (by simp) hi (k + 9) []
 obtain ⟨T2, s2⟩ := wO G hT k (aV.f G (k + 10)) [i, i] [dO 0 i] 1 rfl (by simp) (by simp) hi (k + 8) T1
 have s3 : eY (aV.l3 G (k + 10) 2 (aV.f G (k + 10))) (k + 7 + 1) (yO [i, i] 2) (gC (bD [dO 0 i, dO 1 i]) T2) = some (.exit 0, yO [i, i] 2, gC (bD [dO 0 i, dO 1 i]) []) := by
  have hc := nZ (yO [i, i] 2) (rP [i, i] 2) [dO 0 i, dO 1 i] T2
  have g1 : aZ Tryd.prog .lss 3 false (Nn 2) (Nn 2) = some (.bool false) := iV (by omega)
  rw [fI, aV.l3]
  refine tP ?_
  refine eC hc ?_
  generalize gC (bD [dO 0 i, dO 1 i]) [] = hA
  have ex : yO [i, i] 2 = [.sl 1 2 0 2 1, .ro false (eE [i, i]), Nn 2, Nn 2] := rfl
  rw [ex]
  generalize eE [i, i] = cv
  have fx := g1
  refine tE ?_
  refine jI ?_; rfl
 have lp := s1.trans (s2.trans s3)
 have fin := aCh (fY i) 2 rfl []
 have ex0 : yO [i, i] 0 = [.sl 1 0 0 0 1, .ro false (eE [i, i]), Nn 2, .int .i64 0] := rfl
 have ex2 : yO [i, i] 2 = [.sl 1 2 0 2 1, .ro false (eE [i, i]), Nn 2, Nn 2] := rfl
 have eh : gC (bD []) [] = [⟨9, 1, []⟩, ⟨9, 1, []⟩] := rfl
 rw [ex0, ex2, eh] at lp
 have el : gC (bD [dO 0 i, dO 1 i]) [] = gC (bD (fY i)) [] := rfl
 rw [el] at lp
 clear s1 s2 s3 hi ex0 ex2 eh el
 generalize gC (bD (fY i)) [] = hA at *
 generalize eE [i, i] = cv at *
 generalize iQ false [i, i] R M = cd at *
 refine nM ?_
 have fx := aCJ b0 <| aCJ f0 <| aCJ l0 <| lc
 have lx1 := lp
 refine tE ?_
 exact oF fin
theorem yH (op : Int) : aR.f G (k + 1) [I6 op] [] = some (.str (eM op), []) := by
 by_cases h : 1 ≤ op ∧ op ≤ 20
 ·rcases zN h with rfl | rfl | rfl | rfl | rfl | rfl | rfl | rfl | rfl | rfl | rfl | rfl | rfl | rfl | rfl | rfl | rfl | rfl | rfl | rfl <;> kernel_rfl
 ·rw [aR.step, kT h]
  unfold aR.c
  obtain ⟨tab, ht⟩ : ∃ tab, tab = bK 1 21 (.str ⟨#[]⟩) [(0, (.str ⟨#[110, 111, 110, 101]⟩)), (1, (.str ⟨#[99, 111, 110, 115, 116]⟩)), (2, (.str ⟨#[109, 111, 118]⟩)), (3, (.str ⟨#[97, 100, 100]⟩)), (4, (.str ⟨#[115, 117, 98]⟩)), (5, (.str ⟨#[109, 117, 108]⟩)), (6, (.str ⟨#[104, 105, 103, 104]⟩)), (7, (.str ⟨#[97, 110, 100]⟩)), (8, (.str ⟨#[111, 114]⟩)), (9, (.str ⟨#[120, 111, 114]⟩)), (10, (.str ⟨#[115, 104, 108]⟩)), (11, (.str ⟨#[115, 104, 114]⟩)), (12, (.str ⟨#[115, 97, 114]⟩)), (13, (.str ⟨#[108, 101, 115, 115]⟩)), (14, (.str ⟨#[115, 101, 108]⟩)), (15, (.str ⟨#[108, 100]⟩)), (16, (.str ⟨#[115, 116]⟩)), (17, (.str ⟨#[98, 114]⟩)), (18, (.str ⟨#[98, 122]⟩)), (19, (.str ⟨#[98, 110, 122]⟩)), (20, (.str ⟨#[104, 97, 108, 116]⟩))] [] := ⟨_, rfl⟩
  obtain ⟨tv, e1, e2⟩ : ∃ tv, tab = some (tv, []) ∧ bX tv = some (I6 21) := by
   rw [ht]; exact ⟨_, rfl, rfl⟩
  rw [← ht]
  clear ht
  refine nM ?_
  by_cases h1 : op < 1
  ·have g1 : aZ Tryd.prog .lss 3 true (I6 op) (.int .i64 1) = some (.bool true) := iW h1
   have fx := aCJ e1 <| g1
   refine tE ?_
   exact w1 rfl rfl
  ·have g1 : aZ Tryd.prog .lss 3 true (I6 op) (.int .i64 1) = some (.bool false) := iV (by omega)
   have g2 : aZ Tryd.prog .geq 3 false (I6 op) (I6 21) = some (.bool true) := by rw [nV, decide_eq_true (by omega)]
   have fx := aCJ e1 <| aCJ g1 <| aCJ e2 <| g2
   refine tE ?_
   exact w1 rfl rfl
end
theorem pO (p : Bool) (n : Int) (s : ByteArray) (m : Nat) (hn : Rg n) (hs : s.size ≤ m) (hm : m ≤ 1000) :
  ∃ t, aZ Tryd.prog .add 9 true (.str s) (.str ⟨#[32]⟩) = some (.str (s ++ qR)) ∧ aZ Tryd.prog .add 9 false (.str (s ++ qR)) (.str (dH n)) = some (.str t) ∧ (p = true → t = fN p n s) ∧ (p = false → fN p n s = s) := by
 have hz := iM hn
 refine ⟨(s ++ qR) ++ dH n, tK true s qR (by rw [fQ]; omega), tK false _ _ (by rw [ByteArray.size_append, fQ]; omega), fun h => ?_, fun h => ?_⟩
 ·subst h
  show _ = s ++ (qR ++ dH n)
  rw [ByteArray.append_assoc]
 ·subst h; rfl
theorem zL (op : Int) : decide (0 < gU op) = (dN op).k := by
 by_cases h : 1 ≤ op ∧ op ≤ 20
 ·rcases zN h with rfl | rfl | rfl | rfl | rfl | rfl | rfl | rfl | rfl | rfl | rfl | rfl | rfl | rfl | rfl | rfl | rfl | rfl | rfl | rfl <;> rfl
 ·unfold dN
  rw [kP h, pC h]; rfl
section
variable (G : aC) (hT : iA (G 14) = true) (k : Nat) (self : bV) (cs : List Ins) (R M : Int)
def yP (j : Nat) : List AV := [.rp false (iQ false cs R M) 0, .sl 1 j 0 j 1, Nn j]
theorem rQ (j : Nat) : cV 2 (yP cs R M j) = true := by simp [yP, cV, bR, iQ, hO]
include hT in
theorem xJ (L : List ByteArray) (j : Nat) (hL : L.length = j) (hj : j < cs.length) (hl : cs.length ≤ 1000) (hi : (cs.getD j default).Rgs) (fu : Nat) (T : aB) :
  ∃ T2, eY (aG.l3 G (k + 10) 2 self) (fu + 1) (yP cs R M j) (gC (bD L) T) = eY (aG.l3 G (k + 10) 2 self) fu (yP cs R M (j + 1)) (gC (bD (L ++ [dO j (cs.getD j default)])) T2) := by
 have hc := nZ (yP cs R M j) (rQ cs R M j) L T
 have f0 : aA 0 (.rp false (iQ false cs R M) 0) = some (.rp false (iQ false cs R M) 0) := rfl
 have l0 : ∀ H, aE G false 1 (.rp false (iQ false cs R M) 0) H = some (.ro false (eE cs)) := fun H => rfl
 have lc : bX (.ro false (eE cs)) = some (Nn cs.length) := by simp [bX, xV]
 have g1 : aZ Tryd.prog .lss 3 false (Nn j) (Nn cs.length) = some (.bool true) := iW (by omega)
 have q2 : aZ Tryd.prog .add 3 true (Nn j) (.int .i64 1) = some (Nn (j + 1 : Nat)) := by
  rw [iP, fB (by omega) (by omega)]; congr 2
 have h0 : (0 : Int) ≤ (j : Int) := by omega
 have d1 : aH 6 (.ro false (eE cs)) (Nn j) = some (.rp false (cs.getD j default).v 0) := by
  have e : (eE cs)[(j : Int).toNat]? = some (cs.getD j default).v := by
   rw [Int.toNat_natCast]
   simp [eE, List.getElem?_map, List.getD, List.getElem?_eq_getElem hj]
  unfold aH
  simp only [e]
  rw [if_pos h0]; rfl
 generalize cs.getD j default = i at *
 have d2 : ∀ H, aE G true 6 (.rp false i.v 0) H = some i.v := fun H => rfl
 have bx : cY 52 (.agg [(.int .i64 0), (.int .i64 0), (.int .i64 0), (.int .i64 0), (.int .i64 0), (.int .i64 0)]) (gC (bD L) []) = some (.ptr 2 1 0 0, gC (bD L) [⟨52, 6, [.agg [(.int .i64 0), (.int .i64 0), (.int .i64 0), (.int .i64 0), (.int .i64 0), (.int .i64 0)]]⟩]) := rfl
 have sx : eD (aT 6 (.ptr 2 1 0 0) i.v (gC (bD L) [⟨52, 6, [.agg [(.int .i64 0), (.int .i64 0), (.int .i64 0), (.int .i64 0), (.int .i64 0), (.int .i64 0)]]⟩])) = some (.tup [], gC (bD L) [⟨52, 6, [i.v]⟩]) := rfl
 have p0 : aA 0 (.ptr 2 1 0 0) = some (.ptr 2 1 0 0) := rfl
 have lo : aE G false 1 (.ptr 2 1 0 0) (gC (bD L) [⟨52, 6, [i.v]⟩]) = some (I6 i.op) := rfl
 have ro : ∀ H, aN (aX.f G (k + 10)) [I6 i.op] H = _ := fun H => cS (H := H) (aAl G (k + 9) i.op) rfl rfl
 have y0 : aI (.tup [hvV (dN i.op) (gU i.op), .bool (iG i.op).isSome]) 0 = some (hvV (dN i.op) (gU i.op)) := rfl
 have y1 : aI (.tup [hvV (dN i.op) (gU i.op), .bool (iG i.op).isSome]) 1 = some (.bool (iG i.op).isSome) := rfl
 have b2 : cY 79 (.agg [(.bool false), (.bool false), (.bool false), (.bool false), (.int .i64 0)]) (gC (bD L) [⟨52, 6, [i.v]⟩]) = some (.ptr 3 1 0 0, gC (bD L) [⟨52, 6, [i.v]⟩, ⟨79, 5, [.agg [(.bool false), (.bool false), (.bool false), (.bool false), (.int .i64 0)]]⟩]) := rfl
 obtain ⟨HH, hHH⟩ : ∃ HH, HH = gC (bD L) [⟨52, 6, [i.v]⟩, ⟨79, 5, [hvV (dN i.op) (gU i.op)]⟩] := ⟨_, rfl⟩
 have s2 : eD (aT 5 (.ptr 3 1 0 0) (hvV (dN i.op) (gU i.op)) (gC (bD L) [⟨52, 6, [i.v]⟩, ⟨79, 5, [.agg [(.bool false), (.bool false), (.bool false), (.bool false), (.int .i64 0)]]⟩])) = some (.tup [], HH) := by rw [hHH]; rfl
 have ri : ∀ n, Rg n → ∀ H, aN (aW.f G (k + 10)) [I6 n] H = some (.str (dH n), H) := fun n h H => zK G hT (k + 8) n h H
 have rj : ∀ H, aN (aW.f G (k + 10)) [Nn j] H = _ := fun H => zK G hT (k + 8) (j : Int) ⟨by omega, by omega⟩ H
 have rd := ri i.d hi.d
 have ra := ri i.a hi.a
 have rb := ri i.b hi.b
 have rc := ri i.c hi.c
 have rk := aCk G hT (k + 9) i.k hi.k
 have hz := iM (n := (j : Int)) ⟨by omega, by omega⟩
 have hw := mP i.op
 have c1 : aZ Tryd.prog .add 9 true (.str (dH j)) (.str ⟨#[32]⟩) = some (.str (dH j ++ qR)) := tK true _ qR (by rw [fQ]; omega)
 have c2 : aZ Tryd.prog .add 9 false (.str (dH j ++ qR)) (.str (eM i.op)) = some (.str (lH j i)) := tK false _ _ (by rw [ByteArray.size_append, fQ]; omega)
 have rn : ∀ H, aN (aR.f G (k + 10)) [I6 i.op] H = _ := fun H => cS (H := H) (yH G (k + 9) i.op) rfl rfl
 have m0 : aE G false 1 (.ptr 2 1 0 0) HH = some (I6 i.op) := by rw [hHH]; rfl
 have u1 : aA 1 (.ptr 2 1 0 0) = some (.ptr 2 1 0 1) := rfl
 have u2 : aA 2 (.ptr 2 1 0 0) = some (.ptr 2 1 0 2) := rfl
 have u3 : aA 3 (.ptr 2 1 0 0) = some (.ptr 2 1 0 3) := rfl
 have u4 : aA 4 (.ptr 2 1 0 0) = some (.ptr 2 1 0 4) := rfl
 have u5 : aA 5 (.ptr 2 1 0 0) = some (.ptr 2 1 0 5) := rfl
 have m1 : aE G false 1 (.ptr 2 1 0 1) HH = some (I6 i.d) := by rw [hHH]; rfl
 have m2 : aE G false 1 (.ptr 2 1 0 2) HH = some (I6 i.a) := by rw [hHH]; rfl
 have m3 : aE G false 1 (.ptr 2 1 0 3) HH = some (I6 i.b) := by rw [hHH]; rfl
 have m4 : aE G false 1 (.ptr 2 1 0 4) HH = some (I6 i.c) := by rw [hHH]; rfl
 have m5 : aE G false 1 (.ptr 2 1 0 5) HH = some (I6 i.k) := by rw [hHH]; rfl
 have w0 : aA 0 (.ptr 3 1 0 0) = some (.ptr 3 1 0 0) := rfl
 have w1 : aA 1 (.ptr 3 1 0 0) = some (.ptr 3 1 0 1) := rfl
 have w2 : aA 2 (.ptr 3 1 0 0) = some (.ptr 3 1 0 2) := rfl
 have w3 : aA 3 (.ptr 3 1 0 0) = some (.ptr 3 1 0 3) := rfl
 have w4 : aA 4 (.ptr 3 1 0 0) = some (.ptr 3 1 0 4) := rfl
 have n0 : aE G false 1 (.ptr 3 1 0 0) HH = some (.bool (dN i.op).d) := by rw [hHH]; rfl
 have n1 : aE G false 1 (.ptr 3 1 0 1) HH = some (.bool (dN i.op).a) := by rw [hHH]; rfl
 have n2 : aE G false 1 (.ptr 3 1 0 2) HH = some (.bool (dN i.op).b) := by rw [hHH]; rfl
 have n3 : aE G false 1 (.ptr 3 1 0 3) HH = some (.bool (dN i.op).c) := by rw [hHH]; rfl
 have n4 : aE G false 1 (.ptr 3 1 0 4) HH = some (I6 (gU i.op)) := by rw [hHH]; rfl
 have gk : aZ Tryd.prog .gtr 3 true (I6 (gU i.op)) (.int .i64 0) = some (.bool (dN i.op).k) := by rw [jY, zL]
 have br : ∀ s H, bK 1 1 (.str ⟨#[]⟩) [(0, .str s)] H = some (.ro false [.str s], H) := fun s H => rfl
 have ap : fS 9 1 (.sl 1 j 0 j 1) (.ro false [.str (dO j i)]) HH = some (.sl 1 (j + 1) 0 (j + 1) 1, gC (bD (L ++ [dO j i])) [⟨52, 6, [i.v]⟩, ⟨79, 5, [hvV (dN i.op) (gU i.op)]⟩]) := by
  rw [hHH]; exact apT L (dO j i) j hL (by omega) _
 clear hHH
 have zh := pA (j := (j : Int)) i ⟨by omega, by omega⟩
 refine ⟨[⟨52, 6, [i.v]⟩, ⟨79, 5, [hvV (dN i.op) (gU i.op)]⟩], ?_⟩
 obtain ⟨S5, h5⟩ : ∃ S, S = dO j i := ⟨_, rfl⟩
 rw [← h5] at ap ⊢
 unfold dO at h5
 generalize lH j i = S0 at *
 generalize hvV (dN i.op) (gU i.op) = hv at *
 generalize (dN i.op).d = fd at *
 generalize (dN i.op).a = fa at *
 generalize (dN i.op).b = fb at *
 generalize (dN i.op).c = fc at *
 generalize (dN i.op).k = fk at *
 obtain ⟨S1, h1⟩ : ∃ S, S = fN fd i.d S0 := ⟨_, rfl⟩
 have z1 : S1.size ≤ 27 + 22 := by rw [h1]; exact fJ hi.d zh
 rw [← h1] at h5
 obtain ⟨S2, h2⟩ : ∃ S, S = fN fa i.a S1 := ⟨_, rfl⟩
 have z2 : S2.size ≤ 27 + 22 + 22 := by rw [h2]; exact fJ hi.a z1
 rw [← h2] at h5
 obtain ⟨S3, h3⟩ : ∃ S, S = fN fb i.b S2 := ⟨_, rfl⟩
 have z3 : S3.size ≤ 27 + 22 + 22 + 22 := by rw [h3]; exact fJ hi.b z2
 rw [← h3] at h5
 obtain ⟨S4, h4⟩ : ∃ S, S = fN fc i.c S3 := ⟨_, rfl⟩
 have z4 : S4.size ≤ 27 + 22 + 22 + 22 + 22 := by rw [h4]; exact fJ hi.c z3
 rw [← h4] at h5
 obtain ⟨V0, ea0, eb0, et0, ef0⟩ := pO fd i.d S0 _ hi.d zh (by omega)
 obtain ⟨V1, ea1, eb1, et1, ef1⟩ := pO fa i.a S1 _ hi.a z1 (by omega)
 obtain ⟨V2, ea2, eb2, et2, ef2⟩ := pO fb i.b S2 _ hi.b z2 (by omega)
 obtain ⟨V3, ea3, eb3, et3, ef3⟩ := pO fc i.c S3 _ hi.c z3 (by omega)
 obtain ⟨V4, ea4, eb4, et4, ef4⟩ := pO fk i.k S4 _ hi.k z4 (by omega)
 rw [← h1] at et0 ef0
 rw [← h2] at et1 ef1
 rw [← h3] at et2 ef2
 rw [← h4] at et3 ef3
 rw [← h5] at et4 ef4
 clear h1 h2 h3 h4 h5 z1 z2 z3 z4 zh hz hw hi hL hl ri
 generalize hrr : eY (aG.l3 G (k + 10) 2 self) fu (yP cs R M (j + 1)) (gC (bD (L ++ [S5])) [⟨52, 6, [i.v]⟩, ⟨79, 5, [hv]⟩]) = rr
 rw [fI, aG.l3]
 refine tP ?_
 refine eC hc ?_
 unfold yP at hrr ⊢
 clear hc
 generalize gC (bD (L ++ [S5])) [⟨52, 6, [i.v]⟩, ⟨79, 5, [hv]⟩] = HZ at *
 generalize (iG i.op).isSome = fs at *
 generalize eM i.op = wd at *
 generalize gU i.op = kd at *
 generalize iQ false cs R M = cd at *
 generalize eE cs = cv at *
 generalize dH i.d = nd at *
 generalize dH i.a = na at *
 generalize dH i.b = nb at *
 generalize dH i.c = nc at *
 generalize dH i.k = nk at *
 generalize i.op = op at *
 generalize i.d = di at *
 generalize i.a = ai at *
 generalize i.b = bi at *
 generalize i.c = ci at *
 generalize i.k = ki at *
 generalize i.v = iv at *
 cases fd <;> cases fa <;> cases fb <;> cases fc <;> cases fk
 all_goals try (have q := et0 rfl; subst q)
 all_goals try (have q := ef0 rfl; subst q)
 all_goals try (have q := et1 rfl; subst q)
 all_goals try (have q := ef1 rfl; subst q)
 all_goals try (have q := et2 rfl; subst q)
 all_goals try (have q := ef2 rfl; subst q)
 all_goals try (have q := et3 rfl; subst q)
 all_goals try (have q := ef3 rfl; subst q)
 all_goals try (have q := et4 rfl; subst q)
 all_goals try (have q := ef4 rfl; subst q)
 all_goals clear et0 ef0 et1 ef1 et2 ef2 et3 ef3 et4 ef4
 all_goals have fx := aCJ f0 <| aCJ l0 <| aCJ lc <| aCJ g1 <| aCJ q2 <| aCJ d1 <| aCJ d2 <| aCJ bx <| aCJ sx <| aCJ p0 <| aCJ lo <| aCJ ro <| aCJ y0 <| aCJ y1 <| aCJ b2 <| aCJ s2 <| aCJ rj <| aCJ rd <| aCJ ra <| aCJ rb <| aCJ rc <| aCJ rk <| aCJ c1 <| aCJ c2 <| aCJ rn <| aCJ m0 <| aCJ u1 <| aCJ u2 <| aCJ u3 <| aCJ u4 <| aCJ u5 <| aCJ m1 <| aCJ m2 <| aCJ m3 <| aCJ m4 <| aCJ m5 <| aCJ w0 <| aCJ w1 <| aCJ w2 <| aCJ w3 <| aCJ w4 <| aCJ n0 <| aCJ n1 <| aCJ n2 <| aCJ n3 <| aCJ n4 <| aCJ gk <| aCJ br <| aCJ ap <| aCJ ea0 <| aCJ eb0 <| aCJ ea1 <| aCJ eb1 <| aCJ ea2 <| aCJ eb2 <| aCJ ea3 <| aCJ eb3 <| aCJ ea4 eb4
 all_goals refine tE ?_
 all_goals refine jI ?_
 all_goals exact hrr
end
section
variable (G : aC) (hT : iA (G 14) = true) (k : Nat) (i : Ins) (R M : Int)
include hT in
theorem vW (hi : i.Rgs) : aG.f G (k + 11) [iQ false [i, i] R M] [] = some (.ro false (bD (fY i)), []) := by
 rw [aG.step]
 unfold aG.c
 have b0 : ∀ H, bN (iQ false [i, i] R M) H = some (.rp false (iQ false [i, i] R M) 0, H) := fun H => rfl
 obtain ⟨T1, s1⟩ := xJ G hT k (aG.f G (k + 10)) [i, i] R M [] 0 rfl (by simp) (by simp) hi (k + 9) []
 obtain ⟨T2, s2⟩ := xJ G hT k (aG.f G (k + 10)) [i, i] R M [dO 0 i] 1 rfl (by simp) (by simp) hi (k + 8) T1
 have s3 : eY (aG.l3 G (k + 10) 2 (aG.f G (k + 10))) (k + 7 + 1) (yP [i, i] R M 2) (gC (bD [dO 0 i, dO 1 i]) T2) = some (.exit 0, yP [i, i] R M 2, gC (bD [dO 0 i, dO 1 i]) []) := by
  have hc := nZ (yP [i, i] R M 2) (rQ [i, i] R M 2) [dO 0 i, dO 1 i] T2
  have f0 : aA 0 (.rp false (iQ false [i, i] R M) 0) = some (.rp false (iQ false [i, i] R M) 0) := rfl
  have l0 : ∀ H, aE G false 1 (.rp false (iQ false [i, i] R M) 0) H = some (.ro false (eE [i, i])) := fun H => rfl
  have lc : bX (.ro false (eE [i, i])) = some (Nn 2) := rfl
  have g1 : aZ Tryd.prog .lss 3 false (Nn 2) (Nn 2) = some (.bool false) := iV (by omega)
  rw [fI, aG.l3]
  refine tP ?_
  refine eC hc ?_
  generalize gC (bD [dO 0 i, dO 1 i]) [] = hA
  have ex : yP [i, i] R M 2 = [.rp false (iQ false [i, i] R M) 0, .sl 1 2 0 2 1, Nn 2] := rfl
  rw [ex]
  clear hc ex
  generalize iQ false [i, i] R M = cd at *
  generalize eE [i, i] = cv at *
  have fx := aCJ f0 <| aCJ l0 <| aCJ lc <| g1
  refine tE ?_
  refine jI ?_; rfl
 have lp := s1.trans (s2.trans s3)
 have fin := aCh (fY i) 2 rfl []
 have ex0 : yP [i, i] R M 0 = [.rp false (iQ false [i, i] R M) 0, .sl 1 0 0 0 1, .int .i64 0] := rfl
 have ex2 : yP [i, i] R M 2 = [.rp false (iQ false [i, i] R M) 0, .sl 1 2 0 2 1, Nn 2] := rfl
 have eh : gC (bD []) [] = [⟨9, 1, []⟩, ⟨9, 1, []⟩] := rfl
 rw [ex0, ex2, eh] at lp
 have el : gC (bD [dO 0 i, dO 1 i]) [] = gC (bD (fY i)) [] := rfl
 rw [el] at lp
 clear s1 s2 s3 hi ex0 ex2 eh el
 generalize gC (bD (fY i)) [] = hA at *
 generalize iQ false [i, i] R M = cd at *
 refine nM ?_
 have fx := b0
 have lx1 := lp
 refine tE ?_
 exact oF fin
end
section
variable (G : aC) (k : Nat) (self : bV) (l : List ByteArray)
theorem aCr (j : Nat) (h : j < l.length) : aH 1 (.ro false (bD l)) (Nn j) = some (.rp false (.str (l.getD j ⟨#[]⟩)) 0) := by
 have h0 : (0 : Int) ≤ (j : Int) := by omega
 have e : (bD l)[(j : Int).toNat]? = some (.str (l.getD j ⟨#[]⟩)) := by
  rw [Int.toNat_natCast]
  simp [bD, List.getElem?_map, List.getD, List.getElem?_eq_getElem h]
 unfold aH
 simp only [e]
 rw [if_pos h0]; rfl
def xsQ (j : Nat) : List AV := [.ro false (bD l), .ro false (bD l), .bool false, Nn j]
theorem rL (hl : l.length ≤ 1000) : ∀ (d j f : Nat) (T : aB), j + d = l.length → d < f → eY (aF.l4 G k 0 self) f (xsQ l j) T = some (.exit 0, xsQ l l.length, [])
 | d, j, 0, T, _, h => by omega
 | d, j, f + 1, T, hd, hf => by
  have hb : cV 0 (xsQ l j) = true := by simp [xsQ, cV, bR, gO]
  have hc : iR 0 (xsQ l j) T = some [] := by
   unfold iR
   rw [List.take_zero, hb]; rfl
  have ln : bX (.ro false (bD l)) = some (Nn l.length) := by simp [bX, gF]
  by_cases hj : j < l.length
  ·have g1 : aZ Tryd.prog .lss 3 false (Nn j) (Nn l.length) = some (.bool true) := iW (by omega)
   have q2 : aZ Tryd.prog .add 3 true (Nn j) (.int .i64 1) = some (Nn (j + 1 : Nat)) := by
    rw [iP, fB (by omega) (by omega)]; congr 2
   have i1 := aCr l j hj
   generalize l.getD j ⟨#[]⟩ = s at *
   have ls : ∀ H, aE G false 1 (.rp false (.str s) 0) H = some (.str s) := fun H => rfl
   have eq : aZ Tryd.prog .eql 9 false (.str s) (.str s) = some (.bool true) := by simp [aZ, oP, gI]
   have ih := rL hl (d - 1) (j + 1) f [] (by omega) (by omega)
   rw [fI, aF.l4]
   refine tP ?_
   refine eC hc ?_
   unfold xsQ at ih ⊢
   clear hb hc
   generalize bD l = sv at *
   have fx := aCJ ln <| aCJ g1 <| aCJ i1 <| aCJ ls <| aCJ eq <| q2
   refine tE ?_
   refine jI ?_
   exact ih
  ·have e : j = l.length := by omega
   subst e
   have g1 : aZ Tryd.prog .lss 3 false (Nn l.length) (Nn l.length) = some (.bool false) := iV (by omega)
   rw [fI, aF.l4]
   refine tP ?_
   refine eC hc ?_
   unfold xsQ
   clear hb hc
   generalize bD l = sv at *
   have fx := aCJ ln <| g1
   refine tE ?_
   refine jI ?_; rfl
theorem yK (hl : l.length < k) (hl2 : l.length ≤ 1000) : aF.f G (k + 1) [.ro false (bD l), .ro false (bD l)] [] = some (.bool true, []) := by
 have lp := rL G k (aF.f G k) l hl2 l.length 0 k [] (by omega) hl
 have ln : bX (.ro false (bD l)) = some (Nn l.length) := by simp [bX, gF]
 have g1 : aZ Tryd.prog .neq 3 false (Nn l.length) (Nn l.length) = some (.bool false) := sQ rfl
 have z0 : Nn 0 = .int .i64 0 := rfl
 unfold xsQ at lp
 rw [z0] at lp
 rw [aF.step]
 unfold aF.c
 generalize bD l = sv at *
 refine nM ?_
 have fx := aCJ ln <| g1
 have lx1 := lp
 refine tE ?_
 exact w1b rfl
end
section
variable (G : aC) (k : Nat) (self : bV) (cs : List Ins) (R M : Int)
end
def VE.low : VE → Prop
 | .ok => True
 | .bare e => e < 6
 | .at_ j e => e < 6
theorem aBE (n : Nat) (h : n ≤ 63) : bits .and .i64 (n : Int) 63 = (n : Int) := by
 show IntKind.i64.wrap ((BitVec.ofInt 64 (n : Int) &&& BitVec.ofInt 64 63).toNat : Int) = _
 rw [BitVec.toNat_and, gD n (by omega)]
 have e : (BitVec.ofInt 64 (63 : Int)).toNat = 63 := rfl
 have e2 : n &&& 63 = n := by have := Nat.and_two_pow_sub_one_eq_mod n 6; simp at this; omega
 rw [e, e2, fB (by omega) (by omega)]
theorem uU (G : aC) (k : Nat) (op d a b c n : Int) (x y z : Nat) (hx : x < 18446744073709551616) (hy : y < 18446744073709551616) (hz : z < 18446744073709551616) :
  aQ.f G (k + 2) [lO op d a b c n, Un x, Un y, Un z] [] = some (.tup [Un (nR op n x y z).1, .bool (nR op n x y z).2], []) := by
 rw [aQ.step]
 unfold aQ.c lO
 obtain ⟨w, hw⟩ : ∃ w, w = bits .and .i64 n 63 := ⟨_, rfl⟩
 have k0 : aZ Tryd.prog .and 2 true (I6 n) (.int .i64 63) = some (I6 w) := by rw [nU, hw]
 obtain ⟨w2, hw2⟩ : ∃ w2, w2 = IntKind.u64.wrap w := ⟨_, rfl⟩
 have k0' : dL .u64 (I6 w) = some (.int .u64 w2) := by rw [fH, hw2]
 have hw3 : 0 ≤ n → n ≤ 63 → w2 = n := fun h0 h1 => by
  obtain ⟨m, rfl⟩ : ∃ m : Nat, n = (m : Int) := ⟨n.toNat, by omega⟩
  rw [hw2, hw, aBE m (by omega), fX (by omega) (by omega)]
 clear hw hw2
 have k1 := lD .i64 n
 have k3 := tA Tryd.prog 48 false x y
 have k4 := xN Tryd.prog 48 false x y hy
 have k5 := oE Tryd.prog 48 false x y
 have k6 : ∀ H, aN (aS.f G (k + 1)) [Un x, Un y] H = _ := fun H => cS (H := H) (pH G k x y hx hy) rfl rfl
 have k7 : aZ Tryd.prog .and 48 false (Un x) (Un y) = some (Un (x &&& y)) := by rw [nU, tB x y hx hy]
 have k8 : aZ Tryd.prog .or 48 false (Un x) (Un y) = some (Un (x ||| y)) := by rw [yS, aAs x y hx hy]
 have k9 : aZ Tryd.prog .xor 48 false (Un x) (Un y) = some (Un (x ^^^ y)) := by rw [wH, xO x y hx hy]
 have k10 : 0 ≤ n → n ≤ 63 → aZ Tryd.prog .shl 48 false (Un x) (.int .u64 w2) = some (Un (x * 2 ^ n.toNat % 18446744073709551616)) := fun h0 h1 => by
  have := xM Tryd.prog 48 false .u64 x n.toNat (by omega); rw [Int.toNat_of_nonneg h0] at this; rw [hw3 h0 h1]; exact this
 have k11 : 0 ≤ n → n ≤ 63 → aZ Tryd.prog .shr 48 false (Un x) (.int .u64 w2) = some (Un (x / 2 ^ n.toNat)) := fun h0 h1 => by
  have := tC Tryd.prog 48 false .u64 x n.toNat (by omega); rw [Int.toNat_of_nonneg h0] at this; rw [hw3 h0 h1]; exact this
 have k12 := tM x hx
 have k13 : 0 ≤ n → n ≤ 63 → aZ Tryd.prog .shr 2 false (I6 (xK x)) (.int .u64 w2) = some (I6 ((xK x).fdiv (2 ^ n.toNat))) := fun h0 h1 => by
  rw [hw3 h0 h1, sA _ _ _ _ _ _ _ h0]
  have e : min n.toNat IntKind.i64.bits = n.toNat := Nat.min_eq_left (by have : IntKind.i64.bits = 64 := rfl; omega)
  rw [e]
 have k14 := lD .i64 ((xK x).fdiv (2 ^ n.toNat))
 have hq : u64 ((xK x).fdiv (2 ^ n.toNat)) = aAp x n.toNat := rfl
 rw [hq] at k14
 clear hw3 hq
 refine nM ?_
 repeat' first
  | (with_reducible first | refine eT ?_ | refine eN ?_ | refine eS ?_ | refine eXn ?_ | refine eXr ?_ | refine eX ?_ | refine eI ?_ | refine eK ?_ | refine eV0 ?_ | refine aAD ?_ | refine aAG ?_ | refine aAA ?_ | refine aAF ?_ | refine aAB ?_ | refine aAC ?_)
  | ((with_reducible apply eCn); (simp only [dY, dX]; first | done | (with_reducible exact rfl)))
  | ((with_reducible apply eJ); (rfl))
  | ((with_reducible apply aAE); (first | rfl | (simp only [dY, dX]; rfl)))
  | ((with_reducible apply eB); (first | (with_reducible exact rfl) | (simp (disch := omega) only [qf, k0, k0', k1, k3, k4, k5, k6, k7, k8, k9, k10, k11, k12, k13, k14]; first | done | (with_reducible exact rfl) | (with_reducible exact ⟨rfl, rfl⟩)) | (simp (disch := omega) only [qa, dI, AV.cells, bA, aU, cW, bK, bJ, cU, Nat.reduceLeDiff, Nat.reduceLT, Nat.reduceAdd, ↓reduceIte, k0, k0', k1, k3, k4, k5, k6, k7, k8, k9, k10, k11, k12, k13, k14]; first | done | (with_reducible exact rfl) | (with_reducible exact ⟨rfl, rfl⟩))))
  | ((with_reducible apply eR); (simp only [dY, dX]; (with_reducible exact rfl)))
  | ((with_reducible first | refine aBN ?_ ?_ | refine aBS ?_ ?_ | refine aBR ?_ ?_ | refine aBQ ?_ ?_ | refine aBP ?_ ?_ | refine aBO ?_ ?_ | refine aBT ?_ ?_ | refine aAo ?_ ?_ | refine sGd ?_ ?_ | refine yY ?_ ?_) <;> intro hq <;> try subst hq)
 all_goals first | (refine w2b ?_ ?_ <;> ((try simp (disch := omega) only [nR, gR, if_pos, if_neg, if_true, if_false, ↓reduceIte]) <;> first | done | rfl | omega)) | (by_cases h10 : op = 10 ∨ op = 11 ∨ op = 12 <;> refine w2b ?_ ?_ <;> ((try simp (disch := omega) only [nR, gR, if_pos, if_neg, if_true, if_false, ↓reduceIte]) <;> first | done | rfl | omega))
end Go.Proofs.YtcmblhedhgiofaaDoor.Mir
namespace Go.Proofs.YtcmblhedhgiofaaDoor
open Go Go.Proofs.YtcmblhedhgiofaaDoor.Mir
set_option linter.unusedVariables false
set_option linter.unusedSimpArgs false
set_option maxHeartbeats 8000000
set_option maxRecDepth 20000
theorem aAK (G : aC) (k : Nat) : aY.f G (k + 60) [] [] = some (.bool true, []) := by kernel_rfl
theorem aBI {x : AV} (h : IsT Tryd.prog 52 x) : ∃ i : Ins, x = i.v ∧ i.Rgs := by
 obtain ⟨cs, rfl, hf⟩ := h.of_struct Tryd.underlying52
 cases hf with
 | cons h1 hf =>
 cases hf with
 | cons h2 hf =>
 cases hf with
 | cons h3 hf =>
 cases hf with
 | cons h4 hf =>
 cases hf with
 | cons h5 hf =>
 cases hf with
 | cons h6 hf =>
 cases hf with
 | nil =>
 obtain ⟨a, rfl, _⟩ := h1.of_int (k := .i64) Tryd.underlying3
 obtain ⟨b, rfl, hb⟩ := h2.of_int (k := .i64) Tryd.underlying3
 obtain ⟨c, rfl, hc⟩ := h3.of_int (k := .i64) Tryd.underlying3
 obtain ⟨d, rfl, hd⟩ := h4.of_int (k := .i64) Tryd.underlying3
 obtain ⟨e, rfl, he⟩ := h5.of_int (k := .i64) Tryd.underlying3
 obtain ⟨f, rfl, hw⟩ := h6.of_int (k := .i64) Tryd.underlying2
 exact ⟨⟨a, b, c, d, e, f⟩, rfl, ⟨qG hb, qG hc, qG hd, qG he, qG hw⟩⟩
theorem vU {x : AV} (h : IsT Tryd.prog 48 x) : ∃ n : Nat, x = Un n ∧ n < 18446744073709551616 := by
 obtain ⟨a, rfl, hw⟩ := h.of_int (k := .u64) Tryd.underlying48
 obtain ⟨h1, h2⟩ := aBX hw
 refine ⟨a.toNat, ?_, by omega⟩
 show AV.int .u64 a = AV.int .u64 ((a.toNat : Nat) : Int)
 rw [Int.toNat_of_nonneg h1]
theorem aAU (G : aC) (k : Nat) (cs : List Ins) (R M : Int) : aP.f G (k + 1) [iQ false cs R M] [] = some (iQ false cs R M, []) := by
 rw [aP.step]
 unfold aP.c iQ
 refine nM ?_
 have fx := True.intro
 refine wkA ?_
 refine oF ?_
 unfold iE
 exact kC (by simp [bR, cV, hO, AV.cells]) _
theorem yW (l : List ByteArray) : dR (.ro false (bD l)) = true := by
 have : ∀ l : List ByteArray, fT (bD l) = true := fun l => by
  induction l with
  | nil => rfl
  | cons a l ih => simpa [bD, fT, dR] using ih
 simp [dR, this]
theorem aBK (l : List ByteArray) : bE (.ro false (bD l)) = true := by
 have : ∀ l : List ByteArray, dW (bD l) = true := fun l => by
  induction l with
  | nil => rfl
  | cons a l ih => simpa [bD, dW, bE] using ih
 simp [bE, this]
theorem LWordsValues.law (xs : List AV) (h : IsTs Tryd.prog [52, 48, 48, 48] xs) : ∃ k, alembiclaw17_WordsValues.f (nF 14 154 [2, 1, 0, 3, 4, 5]) k xs [] = some (.bool true, []) := by
 obtain ⟨x1, _, rfl, hx1, h⟩ := h.uncons
 obtain ⟨x2, _, rfl, hx2, h⟩ := h.uncons
 obtain ⟨x3, _, rfl, hx3, h⟩ := h.uncons
 obtain ⟨x4, _, rfl, hx4, h⟩ := h.uncons
 obtain rfl := h.unnil
 obtain ⟨i, rfl, hi⟩ := aBI hx1
 obtain ⟨a, rfl, ha⟩ := vU hx2
 obtain ⟨b, rfl, hb⟩ := vU hx3
 obtain ⟨c, rfl, hc⟩ := vU hx4
 clear h hx1 hx2 hx3 hx4
 refine ⟨8001, ?_⟩
 have hT : iA (nF 14 154 [2, 1, 0, 3, 4, 5] 14) = true := rfl
 generalize nF 14 154 [2, 1, 0, 3, 4, 5] = G at *
 have rf : ∀ H, aN (aY.f G 8000) [] H = _ := fun H => cS (H := H) (aAK G 7940) rfl rfl
 have b0 : ∀ H, bN i.v H = some (.rp false i.v 0, H) := fun H => rfl
 have l0 : ∀ H, aE G true 6 (.rp false i.v 0) H = some i.v := fun H => rfl
 have rv : ∀ H, aN (bH.f G 8000) [i.v, Un a, Un b, Un c] H = _ := fun H => cS (H := H) (wB G 7998 i.op i.d i.a i.b i.c i.k a b c ha hb hc) rfl rfl
 have rw_ : ∀ H, aN (aQ.f G 8000) [i.v, Un a, Un b, Un c] H = _ := fun H => cS (H := H) (uU G 7998 i.op i.d i.a i.b i.c i.k a b c ha hb hc) rfl rfl
 obtain ⟨p, hp⟩ : ∃ p, nR i.op i.k a b c = p := ⟨_, rfl⟩
 rw [hp] at rv rw_
 obtain ⟨v, t⟩ := p
 clear hp
 simp only at rv rw_
 have x0 : aI (.tup [Un v, .bool t]) 0 = some (Un v) := rfl
 have x1 : aI (.tup [Un v, .bool t]) 1 = some (.bool t) := rfl
 have br : ∀ H, bK 6 2 (.agg [(.int .i64 0), (.int .i64 0), (.int .i64 0), (.int .i64 0), (.int .i64 0), (.int .i64 0)]) [(0, i.v), (1, i.v)] H = some (.ro false (eE [i, i]), H) := fun H => rfl
 have bs : aU [(0, 1), (1, 1), (2, 1)] [.nils, (.int .i64 0), (.int .i64 0)] [(0, .ro false (eE [i, i]))] = some (iQ false [i, i] 0 0) := rfl
 have bx : cY 24 (.agg [.nils, (.int .i64 0), (.int .i64 0)]) [] = some (.ptr 0 1 0 0, [⟨24, 3, [.agg [.nils, (.int .i64 0), (.int .i64 0)]]⟩]) := rfl
 have sx : eD (aT 3 (.ptr 0 1 0 0) (iQ false [i, i] 0 0) [⟨24, 3, [.agg [.nils, (.int .i64 0), (.int .i64 0)]]⟩]) = some (.tup [], [⟨24, 3, [iQ false [i, i] 0 0]⟩]) := rfl
 have l1 : aE G true 3 (.ptr 0 1 0 0) [⟨24, 3, [iQ false [i, i] 0 0]⟩] = some (iQ false [i, i] 0 0) := rfl
 have e1 : aZ Tryd.prog .eql 48 false (Un v) (Un v) = some (.bool true) := sP rfl
 have e2 : aZ Tryd.prog .eql 4 false (.bool t) (.bool t) = some (.bool true) := by rw [rY Tryd.underlying4]; simp
 have pc : bE (iQ false [i, i] 0 0) = true := by simp [bE, dW, aBJ, iQ]
 have rt : ∀ H, aN (aV.f G 8000) [iQ false [i, i] 0 0] H = _ := fun H => cS (H := H) (yN G hT 7989 i 0 0 hi) (by simp [dW, pc]) (yW _)
 have ro_ : ∀ H, aN (aP.f G 8000) [iQ false [i, i] 0 0] H = _ := fun H => cS (H := H) (aAU G 7999 [i, i] 0 0) (by simp [dW, pc]) (by simp [iQ, dR, fT, aBs])
 have rr : ∀ H, aN (aG.f G 8000) [iQ false [i, i] 0 0] H = _ := fun H => cS (H := H) (vW G hT 7989 i 0 0 hi) (by simp [dW, pc]) (yW _)
 have rs : ∀ H, aN (aF.f G 8000) [.ro false (bD (fY i)), .ro false (bD (fY i))] H = _ := fun H => cS (H := H) (yK G 7999 (fY i) (by simp [fY]) (by simp [fY])) (by simp [dW, aBK]) rfl
 change alembiclaw17_WordsValues.f G 8001 _ _ = _
 rw [alembiclaw17_WordsValues.step]
 unfold alembiclaw17_WordsValues.c
 clear hi hT pc
 generalize iQ false [i, i] 0 0 = cd at *
 generalize eE [i, i] = cv at *
 generalize bD (fY i) = sv at *
 generalize i.v = iv at *
 refine nM ?_
 have fx := aCJ rf <| aCJ b0 <| aCJ l0 <| aCJ rv <| aCJ rw_ <| aCJ x0 <| aCJ x1 <| aCJ br <| aCJ bs <| aCJ bx <| aCJ sx <| aCJ l1 <| aCJ e1 <| aCJ e2 <| aCJ rt <| aCJ ro_ <| aCJ rr <| rs
 refine tE ?_
 exact w1b rfl
end Go.Proofs.YtcmblhedhgiofaaDoor
namespace Go.Proofs.YtcmblhedhgiofaaDoor
open Go Go.ChangeShapes Go.WideShapes Go.RowKit Mir
set_option linter.unusedVariables false
set_option linter.unusedSimpArgs false
namespace RWordsValues
noncomputable def rE (os : Os) : World :=
 let w0 := World.holding Tryd.prog os ⟨#[.cells #[.string ⟨#[97, 32, 110, 117, 109, 98, 101, 114, 32, 111, 117, 116, 32, 111, 102, 32, 105, 116, 115, 32, 114, 97, 110, 103, 101]⟩] 171, .cells #[.string ⟨#[110, 111, 116, 32, 97, 115, 32, 108, 111, 110, 103, 32, 97, 115, 32, 105, 116, 32, 104, 97, 115, 32, 116, 111, 32, 98, 101]⟩] 171, .cells #[.string ⟨#[116, 111, 111, 32, 109, 97, 110, 121]⟩] 171, .cells #[.string ⟨#[110, 111, 116, 32, 97, 115, 32, 105, 116, 32, 104, 97, 115, 32, 116, 111, 32, 98, 101]⟩] 171, .cells #[.string ⟨#[110, 111, 32, 115, 117, 99, 104, 32, 116, 104, 105, 110, 103, 32, 116, 111, 32, 100, 111]⟩] 171, .cells #[.string ⟨#[110, 111, 32, 115, 117, 99, 104, 32, 112, 108, 97, 99, 101]⟩] 171], #[], []⟩
 {w0 with heap := w0.heap
  |>.modify 15 (fun
   | .cells _ t frozen => .cells #[.int .u8 0, .int .u8 1, .int .u8 28, .int .u8 2, .int .u8 29, .int .u8 14, .int .u8 24, .int .u8 3, .int .u8 30, .int .u8 22, .int .u8 20, .int .u8 15, .int .u8 25, .int .u8 17, .int .u8 4, .int .u8 8, .int .u8 31, .int .u8 27, .int .u8 13, .int .u8 23, .int .u8 21, .int .u8 19, .int .u8 16, .int .u8 7, .int .u8 26, .int .u8 12, .int .u8 18, .int .u8 6, .int .u8 11, .int .u8 5, .int .u8 10, .int .u8 9] t frozen
   | o => o)
  |>.modify 16 (fun
   | .cells _ t frozen => .cells #[.int .u8 0, .int .u8 1, .int .u8 56, .int .u8 2, .int .u8 57, .int .u8 49, .int .u8 28, .int .u8 3, .int .u8 61, .int .u8 58, .int .u8 42, .int .u8 50, .int .u8 38, .int .u8 29, .int .u8 17, .int .u8 4, .int .u8 62, .int .u8 47, .int .u8 59, .int .u8 36, .int .u8 45, .int .u8 43, .int .u8 51, .int .u8 22, .int .u8 53, .int .u8 39, .int .u8 33, .int .u8 30, .int .u8 24, .int .u8 18, .int .u8 12, .int .u8 5, .int .u8 63, .int .u8 55, .int .u8 48, .int .u8 27, .int .u8 60, .int .u8 41, .int .u8 37, .int .u8 16, .int .u8 46, .int .u8 35, .int .u8 44, .int .u8 21, .int .u8 52, .int .u8 32, .int .u8 23, .int .u8 11, .int .u8 54, .int .u8 26, .int .u8 40, .int .u8 15, .int .u8 34, .int .u8 20, .int .u8 31, .int .u8 10, .int .u8 25, .int .u8 14, .int .u8 19, .int .u8 9, .int .u8 13, .int .u8 8, .int .u8 7, .int .u8 6] t frozen
   | o => o)
  |>.modify 14 (fun
   | .cells _ t frozen => .cells #[.int .u64 1, .int .u64 10, .int .u64 100, .int .u64 1000, .int .u64 10000, .int .u64 100000, .int .u64 1000000, .int .u64 10000000, .int .u64 100000000, .int .u64 1000000000, .int .u64 10000000000, .int .u64 100000000000, .int .u64 1000000000000, .int .u64 10000000000000, .int .u64 100000000000000, .int .u64 1000000000000000, .int .u64 10000000000000000, .int .u64 100000000000000000, .int .u64 1000000000000000000, .int .u64 10000000000000000000] t frozen
   | o => o)
  |>.modify 2 (fun
   | .cells _ t frozen => .cells #[.iface 154 (.pointer (some ⟨Rk.low, 0, none⟩))] t frozen
   | o => o)
  |>.modify 1 (fun
   | .cells _ t frozen => .cells #[.iface 154 (.pointer (some ⟨Rk.low + 1, 0, none⟩))] t frozen
   | o => o)
  |>.modify 0 (fun
   | .cells _ t frozen => .cells #[.iface 154 (.pointer (some ⟨Rk.low + 2, 0, none⟩))] t frozen
   | o => o)
  |>.modify 3 (fun
   | .cells _ t frozen => .cells #[.iface 154 (.pointer (some ⟨Rk.low + 3, 0, none⟩))] t frozen
   | o => o)
  |>.modify 4 (fun
   | .cells _ t frozen => .cells #[.iface 154 (.pointer (some ⟨Rk.low + 4, 0, none⟩))] t frozen
   | o => o)
  |>.modify 5 (fun
   | .cells _ t frozen => .cells #[.iface 154 (.pointer (some ⟨Rk.low + 5, 0, none⟩))] t frozen
   | o => o) }
theorem qO (os : Os) (args : Array Value) : laidMetH Tryd.prog ([("math/bits.deBruijn32tab", Rows.laid_math_bits_deBruijn32tab), ("math/bits.deBruijn64tab", Rows.laid_math_bits_deBruijn64tab), ("internal/strconv.uint64pow10", Rows.laid_internal_strconv_uint64pow10), ("alembic/api.ErrRange", Rows.laid_alembic_api_ErrRange), ("alembic/api.ErrLength", Rows.laid_alembic_api_ErrLength), ("alembic/api.ErrMany", Rows.laid_alembic_api_ErrMany), ("alembic/api.ErrShape", Rows.laid_alembic_api_ErrShape), ("alembic/api.ErrOp", Rows.laid_alembic_api_ErrOp), ("alembic/api.ErrLabel", Rows.laid_alembic_api_ErrLabel)] : List (String × DataW Unit)) ((rE os).forCall (fun _ _ => 0) ⟨#[], args, []⟩).memory :=
 laidMet_of_run (ps := [.cell 15 0, .cell 15 1, .cell 15 2, .cell 15 3, .cell 15 4, .cell 15 5, .cell 15 6, .cell 15 7, .cell 15 8, .cell 15 9, .cell 15 10, .cell 15 11, .cell 15 12, .cell 15 13, .cell 15 14, .cell 15 15, .cell 15 16, .cell 15 17, .cell 15 18, .cell 15 19, .cell 15 20, .cell 15 21, .cell 15 22, .cell 15 23, .cell 15 24, .cell 15 25, .cell 15 26, .cell 15 27, .cell 15 28, .cell 15 29, .cell 15 30, .cell 15 31, .cell 16 0, .cell 16 1, .cell 16 2, .cell 16 3, .cell 16 4, .cell 16 5, .cell 16 6, .cell 16 7, .cell 16 8, .cell 16 9, .cell 16 10, .cell 16 11, .cell 16 12, .cell 16 13, .cell 16 14, .cell 16 15, .cell 16 16, .cell 16 17, .cell 16 18, .cell 16 19, .cell 16 20, .cell 16 21, .cell 16 22, .cell 16 23, .cell 16 24, .cell 16 25, .cell 16 26, .cell 16 27, .cell 16 28, .cell 16 29, .cell 16 30, .cell 16 31, .cell 16 32, .cell 16 33, .cell 16 34, .cell 16 35, .cell 16 36, .cell 16 37, .cell 16 38, .cell 16 39, .cell 16 40, .cell 16 41, .cell 16 42, .cell 16 43, .cell 16 44, .cell 16 45, .cell 16 46, .cell 16 47, .cell 16 48, .cell 16 49, .cell 16 50, .cell 16 51, .cell 16 52, .cell 16 53, .cell 16 54, .cell 16 55, .cell 16 56, .cell 16 57, .cell 16 58, .cell 16 59, .cell 16 60, .cell 16 61, .cell 16 62, .cell 16 63, .cell 14 0, .cell 14 1, .cell 14 2, .cell 14 3, .cell 14 4, .cell 14 5, .cell 14 6, .cell 14 7, .cell 14 8, .cell 14 9, .cell 14 10, .cell 14 11, .cell 14 12, .cell 14 13, .cell 14 14, .cell 14 15, .cell 14 16, .cell 14 17, .cell 14 18, .cell 14 19, .cell 2 0, .cell (Rk.low) 0, .cell 1 0, .cell (Rk.low + 1) 0, .cell 0 0, .cell (Rk.low + 2) 0, .cell 3 0, .cell (Rk.low + 3) 0, .cell 4 0, .cell (Rk.low + 4) 0, .cell 5 0, .cell (Rk.low + 5) 0]) 8 (by kernel_rfl) (by kernel_rfl) (by kernel_rfl)
theorem aCp : wE Tryd.prog 35 [("alembic/api.ErrRange", Rows.laid_alembic_api_ErrRange), ("alembic/api.ErrLength", Rows.laid_alembic_api_ErrLength), ("alembic/api.ErrMany", Rows.laid_alembic_api_ErrMany), ("alembic/api.ErrShape", Rows.laid_alembic_api_ErrShape), ("alembic/api.ErrOp", Rows.laid_alembic_api_ErrOp), ("alembic/api.ErrLabel", Rows.laid_alembic_api_ErrLabel)] [2, 1, 0, 3, 4, 5] := ⟨by kernel_rfl, by kernel_rfl, ⟨_, rfl⟩, by kernel_rfl, by kernel_rfl, ⟨_, rfl⟩, by kernel_rfl, by kernel_rfl, ⟨_, rfl⟩, by kernel_rfl, by kernel_rfl, ⟨_, rfl⟩, by kernel_rfl, by kernel_rfl, ⟨_, rfl⟩, by kernel_rfl, by kernel_rfl, ⟨_, rfl⟩, trivial⟩
theorem sent {W : World} (h : laidMetH Tryd.prog ([("math/bits.deBruijn32tab", Rows.laid_math_bits_deBruijn32tab), ("math/bits.deBruijn64tab", Rows.laid_math_bits_deBruijn64tab), ("internal/strconv.uint64pow10", Rows.laid_internal_strconv_uint64pow10), ("alembic/api.ErrRange", Rows.laid_alembic_api_ErrRange), ("alembic/api.ErrLength", Rows.laid_alembic_api_ErrLength), ("alembic/api.ErrMany", Rows.laid_alembic_api_ErrMany), ("alembic/api.ErrShape", Rows.laid_alembic_api_ErrShape), ("alembic/api.ErrOp", Rows.laid_alembic_api_ErrOp), ("alembic/api.ErrLabel", Rows.laid_alembic_api_ErrLabel)] : List (String × DataW Unit)) W) : ∃ S, SentS W 154 [2, 1, 0, 3, 4, 5] S ∧ ∃ elem fr, W.heap[14]? = some (.cells mN elem fr) := by
 have h0 : laidMet Tryd.prog [("math/bits.deBruijn32tab", Rows.laid_math_bits_deBruijn32tab), ("math/bits.deBruijn64tab", Rows.laid_math_bits_deBruijn64tab), ("internal/strconv.uint64pow10", Rows.laid_internal_strconv_uint64pow10), ("alembic/api.ErrRange", Rows.laid_alembic_api_ErrRange), ("alembic/api.ErrLength", Rows.laid_alembic_api_ErrLength), ("alembic/api.ErrMany", Rows.laid_alembic_api_ErrMany), ("alembic/api.ErrShape", Rows.laid_alembic_api_ErrShape), ("alembic/api.ErrOp", Rows.laid_alembic_api_ErrOp), ("alembic/api.ErrLabel", Rows.laid_alembic_api_ErrLabel)] W := h
 have h1 := iI (iI (h0))
 have h2 := iI (iI (iI (h0)))
 obtain ⟨S, hS⟩ := sV Tryd.underlying35 Rk.row Tryd.underlying154 Tryd.underlying171 rfl rfl Tryd.underlying9 (by kernel_rfl) (by kernel_rfl) aCp (by decide) h2
 have e : (Rows.laid_internal_strconv_uint64pow10 : DataW Unit) = Lib.tabData .u64 Lib.pow10Tab := by kernel_rfl
 rw [e] at h1
 have ht := Lib.tabIs_of_head (g := 14) (by kernel_rfl) (by kernel_rfl) Tryd.underlying147 Tryd.underlying48 (by kernel_rfl) (by kernel_rfl) h1
 exact ⟨S, hS, aBU (by kernel_rfl) ht⟩
theorem aAV : ∀ t ∈ ([52, 3, 2, 48] : List Nat), pQ Tryd.prog [52, 3, 2, 48] t = true := List.all_eq_true.1 (by kernel_rfl)
set_option maxRecDepth 100000 in
theorem aBC (os : Os) (started : os.Started) (H : Type) (enc : TypeId × Value → H) :
  ReturnsInHanded {} Tryd.checked os 11 .any (fun w args => (Rows.wordsValuesSpec.pre enc Tryd.prog Tryd.f11 [] false w args ∧ laidMetH Tryd.prog ([("math/bits.deBruijn32tab", Rows.laid_math_bits_deBruijn32tab), ("math/bits.deBruijn64tab", Rows.laid_math_bits_deBruijn64tab), ("internal/strconv.uint64pow10", Rows.laid_internal_strconv_uint64pow10), ("alembic/api.ErrRange", Rows.laid_alembic_api_ErrRange), ("alembic/api.ErrLength", Rows.laid_alembic_api_ErrLength), ("alembic/api.ErrMany", Rows.laid_alembic_api_ErrMany), ("alembic/api.ErrShape", Rows.laid_alembic_api_ErrShape), ("alembic/api.ErrOp", Rows.laid_alembic_api_ErrOp), ("alembic/api.ErrLabel", Rows.laid_alembic_api_ErrLabel)] : List (String × DataW Unit)) w) ∧ sizedMet enc Tryd.prog Tryd.f11 (OpenSpec.ofChange Rows.wordsValuesSpec) false w args)
   (Rows.wordsValuesSpec.post enc Tryd.prog Tryd.f11 false true false false) := by
 refine returnsInHanded_of_change_and (C := Tryd.checked) (X := fun w _ => laidMetH Tryd.prog ([("math/bits.deBruijn32tab", Rows.laid_math_bits_deBruijn32tab), ("math/bits.deBruijn64tab", Rows.laid_math_bits_deBruijn64tab), ("internal/strconv.uint64pow10", Rows.laid_internal_strconv_uint64pow10), ("alembic/api.ErrRange", Rows.laid_alembic_api_ErrRange), ("alembic/api.ErrLength", Rows.laid_alembic_api_ErrLength), ("alembic/api.ErrMany", Rows.laid_alembic_api_ErrMany), ("alembic/api.ErrShape", Rows.laid_alembic_api_ErrShape), ("alembic/api.ErrOp", Rows.laid_alembic_api_ErrOp), ("alembic/api.ErrLabel", Rows.laid_alembic_api_ErrLabel)] : List (String × DataW Unit)) w) (fun _ _ _ hh h => h.of_heap hh) Rk.own started (by kernel_rfl) Tryd.func11
  (ChangeSpec.witness_at (enc := enc) (C := Tryd.checked) (os := os) (X := fun w _ => laidMetH Tryd.prog ([("math/bits.deBruijn32tab", Rows.laid_math_bits_deBruijn32tab), ("math/bits.deBruijn64tab", Rows.laid_math_bits_deBruijn64tab), ("internal/strconv.uint64pow10", Rows.laid_internal_strconv_uint64pow10), ("alembic/api.ErrRange", Rows.laid_alembic_api_ErrRange), ("alembic/api.ErrLength", Rows.laid_alembic_api_ErrLength), ("alembic/api.ErrMany", Rows.laid_alembic_api_ErrMany), ("alembic/api.ErrShape", Rows.laid_alembic_api_ErrShape), ("alembic/api.ErrOp", Rows.laid_alembic_api_ErrOp), ("alembic/api.ErrLabel", Rows.laid_alembic_api_ErrLabel)] : List (String × DataW Unit)) w) false (rE os) #[.agg #[.int .i64 0, .int .i64 0, .int .i64 0, .int .i64 0, .int .i64 0, .int .i64 0], .int .u64 0, .int .u64 0, .int .u64 0] 8 rfl (by kernel_rfl) (by kernel_rfl) (by kernel_rfl) (by kernel_rfl) (by kernel_rfl) (qO os _)) ?_
 intro W base args ds gs before hval0 hW _ _ hL _
 obtain ⟨S, hS⟩ := sent hL
 have hval : ∀ (j : Nat) t v, Tryd.f11.params.toList[j]? = some t → args.toList[j]? = some v → Value.okWide Tryd.prog W .any base t v := fun j t v h1 h2 => hval0 j t v (by simpa using h1) (by simpa using h2)
 have hW' := hW
 obtain ⟨p, q, hA, _, _, _, _⟩ := hW
 have hpar : Tryd.f11.params.toList = [52, 48, 48, 48] := by rw [Tryd.params11]
 rw [hpar] at hval
 replace hA : DataW.TrodAll enc Tryd.prog W 0 (fun _ => true) true Tryd.f11.params.toList args.toList ds p := hA
 rw [hpar] at hA
 obtain ⟨xs, h1, h2⟩ := rK aAV (by decide) hval hA
 obtain ⟨k, hk⟩ := LWordsValues.law xs h1
 have hc := xU (Mir.alembiclaw17_WordsValues.sound (uW _ _ _) k) hk (yC hS.1 hS.2) h2
 rw [Array.toArray_toList] at hc
 refine hc.mono fun e W' ⟨he, hb⟩ => ⟨_, he, ?_⟩
 exact zO rfl hpar (by kernel_rfl) Tryd.underlying4 (fun ds hd => by
  obtain ⟨d0, d1, d2, d3, rfl⟩ : ∃ d0 d1 d2 d3, ds = [d0, d1, d2, d3] := by
   match ds, hd with
   | [d0, d1, d2, d3], _ => exact ⟨d0, d1, d2, d3, rfl⟩
  rfl) Rk.laidOut (by kernel_rfl) hW' hb
theorem holds : Rows.WordsValuesSaid :=
 OpenClaim.holds_of_wide 11 Tryd.f11 rfl rfl rfl rfl rfl rfl rfl ⟨rfl, rfl, rfl, rfl, rfl⟩ rfl rfl rfl rfl rfl (by kernel_rfl) Tryd.func11 (by kernel_rfl)
  (of_decide_eq_true (by kernel_rfl)) (by unfold Func.isWrapper; first | (rw [if_pos (by decide +kernel)]; kernel_rfl) | (rw [if_neg (by decide +kernel)]; exact ⟨rfl, rfl⟩))
  (fun os started H enc _ => aBC os started H enc)
theorem cardHolds : Rows.WordsValuesCardSaid :=
 Claim7.holds_tied_plain_at .later [] [.data, .data, .data, .sentinel, .sentinel, .sentinel, .sentinel, .sentinel, .sentinel] true (true, "eea5546ee5c6d90b41f0e6dcb9da92a4a93ff31768642628f5f5acb5a9c2d3db") true
  holds (fun _ h => by cases h) (by kernel_rfl) (fun _ h => by cases h) wordsValues_row_tie rfl ⟨rfl, rfl⟩ (by kernel_rfl) rfl
  (fun f fn hf hfn => by
   obtain rfl : f = 11 := Option.some.inj ((show Tryd.prog.funcNamed "alembic/alembiclaw17.WordsValues" = some 11 by kernel_rfl).symm.trans hf) |>.symm
   obtain rfl : fn = Tryd.f11 := (Option.some.inj (Tryd.func11.symm.trans hfn)).symm
   exact ⟨by kernel_rfl, fun j t ht => by
    have hm : t ∈ ([52, 48, 48, 48] : List Nat) := by
     have := List.mem_of_getElem? (l := Tryd.f11.params.toList) (i := j) (by simpa using ht)
     rw [Tryd.params11] at this
     exact this
    have := List.all_eq_true.1 (show ([52, 48, 48, 48] : List Nat).all (fun t => !Tryd.prog.wantsStandIn t) = true by kernel_rfl) t hm
    exact (by simpa using this : Tryd.prog.wantsStandIn t = false)⟩)
  (by kernel_rfl)
end RWordsValues
end Go.Proofs.YtcmblhedhgiofaaDoor
