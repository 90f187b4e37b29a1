/- Part 7 of the proof: what these functions do. -/
import Derived.Test.YtcmblhedhgiofaaDoorZz6
import Derived.Test.YtcmblhedhgiofaaDoorRows
import Derived.KernelRfl
import Derived.SizedLaws
namespace Go.Proofs.YtcmblhedhgiofaaDoor
open Go Go.ChangeShapes Go.WideShapes Go.RowKit Mir
set_option linter.unusedVariables false
set_option linter.unusedSimpArgs false
namespace Rk
theorem own : ownKnob Tryd.prog.godebug = none := by kernel_rfl
theorem laidOut : laidOutB Tryd.prog = true := by kernel_rfl
theorem aGy : "*" ++ "errors.errorString" = "*errors.errorString" := by decide
theorem row (u : TypeId) (h : Tryd.prog.typeName? 3 u = some "*errors.errorString") : u = 154 :=
 typeName_ptr_named (nm := "errors.errorString") (by rw [aGy]; kernel_rfl) (by kernel_rfl) (by decide) u (by rw [aGy]; exact h)
noncomputable def low : Nat := (World.holding Tryd.prog default ⟨#[], #[], []⟩).heap.size
end Rk
end Go.Proofs.YtcmblhedhgiofaaDoor
namespace Go.Proofs.YtcmblhedhgiofaaDoor.Mir
open Go
set_option linter.unusedSimpArgs false
set_option linter.unusedVariables false
set_option maxHeartbeats 4000000
set_option maxRecDepth 4000
abbrev Un (n : Nat) : AV := .int .u64 (n : Int)
abbrev Nn (n : Nat) : AV := .int .i64 (n : Int)
abbrev I6 (n : Int) : AV := .int .i64 n
theorem kF (a : Nat) (h : a < 18446744073709551616) : (BitVec.ofInt 64 (a : Int)).toNat = a := by
 rw [BitVec.toNat_ofInt]
 omega
theorem aCx (a b : Nat) (ha : a < 18446744073709551616) (hb : b < 18446744073709551616) : bits .and .u64 (a : Int) (b : Int) = ((a &&& b : Nat) : Int) := by
 have hx : a &&& b ≤ a := Nat.and_le_left
 show IntKind.u64.wrap ((BitVec.ofInt 64 (a : Int) &&& BitVec.ofInt 64 (b : Int)).toNat : Int) = _
 rw [BitVec.toNat_and, kF a ha, kF b hb, jV (by omega) (by omega)]
theorem aFS (a b : Nat) (ha : a < 18446744073709551616) (hb : b < 18446744073709551616) : bits .or .u64 (a : Int) (b : Int) = ((a ||| b : Nat) : Int) := by
 have hx : a ||| b < 2 ^ 64 := Nat.or_lt_two_pow (by omega) (by omega)
 show IntKind.u64.wrap ((BitVec.ofInt 64 (a : Int) ||| BitVec.ofInt 64 (b : Int)).toNat : Int) = _
 rw [BitVec.toNat_or, kF a ha, kF b hb, jV (by omega) (by omega)]
theorem aEU (a b : Nat) (ha : a < 18446744073709551616) (hb : b < 18446744073709551616) : bits .xor .u64 (a : Int) (b : Int) = ((a ^^^ b : Nat) : Int) := by
 have hx : a ^^^ b < 2 ^ 64 := Nat.xor_lt_two_pow (by omega) (by omega)
 show IntKind.u64.wrap ((BitVec.ofInt 64 (a : Int) ^^^ BitVec.ofInt 64 (b : Int)).toNat : Int) = _
 rw [BitVec.toNat_xor, kF a ha, kF b hb, jV (by omega) (by omega)]
theorem mP (n : Nat) : IntKind.u64.wrap (n : Int) = ((n % 18446744073709551616 : Nat) : Int) := by rw [lL]; rfl
theorem tT (P : Program) (t : Nat) (c : Bool) (a b : Nat) : bE P .add t c (Un a) (Un b) = some (Un ((a + b) % 18446744073709551616)) := by
 rw [gN, ← Int.natCast_add, mP]
theorem zF (P : Program) (t : Nat) (c : Bool) (a b : Nat) : bE P .mul t c (Un a) (Un b) = some (Un (a * b % 18446744073709551616)) := by
 rw [aBL, ← Int.natCast_mul, mP]
theorem aET (P : Program) (t : Nat) (c : Bool) (a b : Nat) (hb : b < 18446744073709551616) : bE P .sub t c (Un a) (Un b) = some (Un ((a + 18446744073709551616 - b) % 18446744073709551616)) := by
 rw [tJ, lL]; congr 2; omega
theorem aCy (P : Program) (t : Nat) (c : Bool) (k : IntKind) (a n : Nat) (h : n ≤ 64) : bE P .shr t c (Un a) (.int k (n : Int)) = some (Un (a / 2 ^ n)) := by
 rw [pZ _ _ _ _ _ _ _ (Int.natCast_nonneg n)]
 have e : min ((n : Int)).toNat IntKind.u64.bits = n := by rw [Int.toNat_natCast]; exact Nat.min_eq_left h
 rw [e, yJ]
theorem aES (P : Program) (t : Nat) (c : Bool) (k : IntKind) (a n : Nat) (h : n ≤ 64) : bE P .shl t c (Un a) (.int k (n : Int)) = some (Un (a * 2 ^ n % 18446744073709551616)) := by
 rw [xZ _ _ _ _ _ _ _ (Int.natCast_nonneg n)]
 have e : min ((n : Int)).toNat IntKind.u64.bits = n := by rw [Int.toNat_natCast]; exact Nat.min_eq_left h
 have e2 : ((a : Int) * 2 ^ n : Int) = ((a * 2 ^ n : Nat) : Int) := by push_cast; rfl
 rw [e, e2, mP]
def fF (a : Nat) : Int := if a ≥ 9223372036854775808 then (a : Int) - 18446744073709551616 else (a : Int)
def u64 (n : Int) : Nat := (n % 18446744073709551616).toNat
theorem aBz (n : Int) : u64 n < 18446744073709551616 := by unfold u64; omega
theorem iD (a : Nat) (h : a < 18446744073709551616) : eZ .i64 (Un a) = some (I6 (fF a)) := by
 rw [iC, iE]; unfold fF; congr 2; split <;> split <;> omega
theorem lR (k : IntKind) (n : Int) : eZ .u64 (.int k n) = some (Un (u64 n)) := by
 rw [iC, lL]; unfold u64; congr 2; omega
theorem oA (a : Nat) (h : a < 18446744073709551616) : -9223372036854775808 ≤ fF a ∧ fF a < 9223372036854775808 := by unfold fF; split <;> omega
theorem zG (n : Nat) (h : n < 18446744073709551616) : u64 (n : Int) = n := by unfold u64; omega
def aEP (a n : Nat) : Nat := u64 ((fF a).fdiv (2 ^ n))
def iK (op k : Int) (a : Nat) : Nat × Bool :=
 if k < 0 ∨ 63 < k then (0, false)
 else if op = 10 then (a * 2 ^ k.toNat % 18446744073709551616, true)
 else if op = 11 then (a / 2 ^ k.toNat, true)
 else (aEP a k.toNat, true)
def gJ (op k : Int) (a b c : Nat) : Nat × Bool :=
 if op = 1 then (u64 k, true)
 else if op = 2 then (a, true)
 else if op = 3 then ((a + b) % 18446744073709551616, true)
 else if op = 4 then ((a + 18446744073709551616 - b) % 18446744073709551616, true)
 else if op = 5 then (a * b % 18446744073709551616, true)
 else if op = 6 then (a * b / 18446744073709551616, true)
 else if op = 7 then (a &&& b, true)
 else if op = 8 then (a ||| b, true)
 else if op = 9 then (a ^^^ b, true)
 else if op = 10 ∨ op = 11 ∨ op = 12 then iK op k a
 else if op = 13 then (if a < b then 1 else 0, true)
 else if op = 14 then (if a ≠ 0 then b else c, true)
 else (0, false)
def gO (op d a b c k : Int) : AV := .agg [I6 op, I6 d, I6 a, I6 b, I6 c, I6 k]
theorem uD (G : aE) (k : Nat) (b : Bool) : dQ.f G (k + 1) [.bool b] [] = some (Un (if b = true then 1 else 0), []) := by
 cases b <;> kernel_rfl
theorem zA (G : aE) (k : Nat) (op d a b c n : Int) (x : Nat) (hx : x < 18446744073709551616) :
  cE.f G (k + 1) [gO op d a b c n, Un x] [] = some (.tup [Un (iK op n x).1, .bool (iK op n x).2], []) := by
 rw [cE.step]
 unfold cE.c gO
 by_cases h0 : n < 0
 ·have e : iK op n x = (0, false) := by unfold iK; rw [if_pos (.inl h0)]
  rw [e]
  have c1 : bE Tryd.prog .lss 2 true (I6 n) (.int .i64 0) = some (.bool true) := by rw [iF, decide_eq_true h0]
  repeat first
   | refine oB (by first | (with_reducible exact rfl) | (simp [aQ, bC, dC, aA, aC, cU, aT, AV.cells, aG, aZ, aW, cH, aU, cQ, dY, aN, bZ, dH, bO, cS, aF, aV, bH, c1]; first | done | (with_reducible exact rfl) | (with_reducible exact ⟨rfl, rfl⟩))) ?_
   | refine lB (by first | (with_reducible exact rfl) | (simp [aQ, bC, dC, aA, aC, cU, aT, AV.cells, aG, aZ, aW, cH, aU, cQ, dY, aN, bZ, dH, bO, cS, aF, aV, bH, c1]; first | done | (with_reducible exact rfl) | (with_reducible exact ⟨rfl, rfl⟩))) ?_
   | refine oT ?_
   | refine oN ?_
   | refine oX ?_
   | refine hZ ?_
   | refine iA ?_
   | exact oF (aY ..)
   | apply oK
   | refine lT ?_
   | refine lN ?_
   | refine lX ?_
   | refine hU ?_
   | refine hY ?_
   | apply lK
   | refine oI ?_
   | refine oJ rfl ?_
   | refine lI ?_
   | refine lJ rfl ?_
   | (with_reducible exact rfl)
  exact oF (gU rfl rfl _)
 have c1 : bE Tryd.prog .lss 2 true (I6 n) (.int .i64 0) = some (.bool false) := by rw [iF, decide_eq_false h0]
 by_cases h1 : 63 < n
 ·have e : iK op n x = (0, false) := by unfold iK; rw [if_pos (.inr h1)]
  rw [e]
  have c2 : bE Tryd.prog .gtr 2 true (I6 n) (.int .i64 63) = some (.bool true) := by rw [kB, decide_eq_true h1]
  repeat first
   | refine oB (by first | (with_reducible exact rfl) | (simp [aQ, bC, dC, aA, aC, cU, aT, AV.cells, aG, aZ, aW, cH, aU, cQ, dY, aN, bZ, dH, bO, cS, aF, aV, bH, c1, c2]; first | done | (with_reducible exact rfl) | (with_reducible exact ⟨rfl, rfl⟩))) ?_
   | refine lB (by first | (with_reducible exact rfl) | (simp [aQ, bC, dC, aA, aC, cU, aT, AV.cells, aG, aZ, aW, cH, aU, cQ, dY, aN, bZ, dH, bO, cS, aF, aV, bH, c1, c2]; first | done | (with_reducible exact rfl) | (with_reducible exact ⟨rfl, rfl⟩))) ?_
   | refine oT ?_
   | refine oN ?_
   | refine oX ?_
   | refine hZ ?_
   | refine iA ?_
   | exact oF (aY ..)
   | apply oK
   | refine lT ?_
   | refine lN ?_
   | refine lX ?_
   | refine hU ?_
   | refine hY ?_
   | apply lK
   | refine oI ?_
   | refine oJ rfl ?_
   | refine lI ?_
   | refine lJ rfl ?_
   | (with_reducible exact rfl)
  exact oF (gU rfl rfl _)
 have c2 : bE Tryd.prog .gtr 2 true (I6 n) (.int .i64 63) = some (.bool false) := by rw [kB, decide_eq_false h1]
 obtain ⟨m, rfl⟩ : ∃ m : Nat, n = (m : Int) := ⟨n.toNat, by omega⟩
 have hm : m ≤ 63 := by omega
 have c3 := aES Tryd.prog 48 false .i64 x m (by omega)
 have c4 := aCy Tryd.prog 48 false .i64 x m (by omega)
 have c5 := iD x hx
 have c6 : bE Tryd.prog .shr 2 false (I6 (fF x)) (.int .i64 (m : Int)) = some (I6 ((fF x).fdiv (2 ^ m))) := by
  rw [pZ _ _ _ _ _ _ _ (Int.natCast_nonneg m)]
  have e : min ((m : Int)).toNat IntKind.i64.bits = m := by rw [Int.toNat_natCast]; exact Nat.min_eq_left (by have : IntKind.i64.bits = 64 := rfl; omega)
  rw [e]
 have c7 := lR .i64 ((fF x).fdiv (2 ^ m))
 have hs : iK op (m : Int) x = if op = 10 then (x * 2 ^ m % 18446744073709551616, true) else if op = 11 then (x / 2 ^ m, true) else (aEP x m, true) := by
  unfold iK; rw [if_neg (by omega), Int.toNat_natCast]
 rw [hs]
 have hq : u64 ((fF x).fdiv (2 ^ m)) = aEP x m := rfl
 rw [hq] at c7
 generalize aEP x m = q at *
 generalize (fF x).fdiv (2 ^ m) = q1 at *
 generalize fF x = q2 at *
 generalize x * 2 ^ m % 18446744073709551616 = q3 at *
 generalize x / 2 ^ m = q4 at *
 generalize hmm : (m : Int) = mm at *
 by_cases e1 : op = 10
 ·subst e1
  have d1 : bE Tryd.prog .eql 3 true (.int .i64 10) (.int .i64 10) = some (.bool true) := rfl
  repeat first
   | refine oB (by first | (with_reducible exact rfl) | (simp [aQ, bC, dC, aA, aC, cU, aT, AV.cells, aG, aZ, aW, cH, aU, cQ, dY, aN, bZ, dH, bO, cS, aF, aV, bH, d1, c1, c2, c3]; first | done | (with_reducible exact rfl) | (with_reducible exact ⟨rfl, rfl⟩))) ?_
   | refine lB (by first | (with_reducible exact rfl) | (simp [aQ, bC, dC, aA, aC, cU, aT, AV.cells, aG, aZ, aW, cH, aU, cQ, dY, aN, bZ, dH, bO, cS, aF, aV, bH, d1, c1, c2, c3]; first | done | (with_reducible exact rfl) | (with_reducible exact ⟨rfl, rfl⟩))) ?_
   | refine oT ?_
   | refine oN ?_
   | refine oX ?_
   | refine hZ ?_
   | refine iA ?_
   | exact oF (aY ..)
   | apply oK
   | refine lT ?_
   | refine lN ?_
   | refine lX ?_
   | refine hU ?_
   | refine hY ?_
   | apply lK
   | refine oI ?_
   | refine oJ rfl ?_
   | refine lI ?_
   | refine lJ rfl ?_
   | (with_reducible exact rfl)
  exact oF (gU rfl rfl _)
 have d1 : bE Tryd.prog .eql 3 true (I6 op) (.int .i64 10) = some (.bool false) := by rw [fE, decide_eq_false e1]
 by_cases e2 : op = 11
 ·subst e2
  repeat first
   | refine oB (by first | (with_reducible exact rfl) | (simp [aQ, bC, dC, aA, aC, cU, aT, AV.cells, aG, aZ, aW, cH, aU, cQ, dY, aN, bZ, dH, bO, cS, aF, aV, bH, d1, c1, c2, c4]; first | done | (with_reducible exact rfl) | (with_reducible exact ⟨rfl, rfl⟩))) ?_
   | refine lB (by first | (with_reducible exact rfl) | (simp [aQ, bC, dC, aA, aC, cU, aT, AV.cells, aG, aZ, aW, cH, aU, cQ, dY, aN, bZ, dH, bO, cS, aF, aV, bH, d1, c1, c2, c4]; first | done | (with_reducible exact rfl) | (with_reducible exact ⟨rfl, rfl⟩))) ?_
   | refine oT ?_
   | refine oN ?_
   | refine oX ?_
   | refine hZ ?_
   | refine iA ?_
   | exact oF (aY ..)
   | apply oK
   | refine lT ?_
   | refine lN ?_
   | refine lX ?_
   | refine hU ?_
   | refine hY ?_
   | apply lK
   | refine oI ?_
   | refine oJ rfl ?_
   | refine lI ?_
   | refine lJ rfl ?_
   | (with_reducible exact rfl)
  exact oF (gU rfl rfl _)
 have d2 : bE Tryd.prog .eql 3 true (I6 op) (.int .i64 11) = some (.bool false) := by rw [fE, decide_eq_false e2]
 rw [if_neg e1, if_neg e2]
 repeat first
  | refine oB (by first | (with_reducible exact rfl) | (simp [aQ, bC, dC, aA, aC, cU, aT, AV.cells, aG, aZ, aW, cH, aU, cQ, dY, aN, bZ, dH, bO, cS, aF, aV, bH, d1, d2, c1, c2, c5, c6, c7]; first | done | (with_reducible exact rfl) | (with_reducible exact ⟨rfl, rfl⟩))) ?_
  | refine lB (by first | (with_reducible exact rfl) | (simp [aQ, bC, dC, aA, aC, cU, aT, AV.cells, aG, aZ, aW, cH, aU, cQ, dY, aN, bZ, dH, bO, cS, aF, aV, bH, d1, d2, c1, c2, c5, c6, c7]; first | done | (with_reducible exact rfl) | (with_reducible exact ⟨rfl, rfl⟩))) ?_
  | refine oT ?_
  | refine oN ?_
  | refine oX ?_
  | refine hZ ?_
  | refine iA ?_
  | exact oF (aY ..)
  | apply oK
  | refine lT ?_
  | refine lN ?_
  | refine lX ?_
  | refine hU ?_
  | refine hY ?_
  | apply lK
  | refine oI ?_
  | refine oJ rfl ?_
  | refine lI ?_
  | refine lJ rfl ?_
  | (with_reducible exact rfl)
 exact oF (gU rfl rfl _)
theorem aEF (x0 x1 y0 y1 : Nat) (hx0 : x0 < 4294967296) (hx1 : x1 < 4294967296) (hy0 : y0 < 4294967296) (hy1 : y1 < 4294967296) :
  x0 * y0 ≤ 18446744065119617025 ∧ x1 * y0 ≤ 18446744065119617025 ∧ x0 * y1 ≤ 18446744065119617025 ∧ x1 * y1 ≤ 18446744065119617025 ∧
  (x1 * 4294967296 + x0) * (y1 * 4294967296 + y0) = x1 * y1 * 18446744073709551616 + (x1 * y0 + x0 * y1) * 4294967296 + x0 * y0 := by
 have b : ∀ p q : Nat, p < 4294967296 → q < 4294967296 → p * q ≤ 18446744065119617025 := fun p q hp hq => by
  have := Nat.mul_le_mul (show p ≤ 4294967295 by omega) (show q ≤ 4294967295 by omega)
  omega
 refine ⟨b _ _ hx0 hy0, b _ _ hx1 hy0, b _ _ hx0 hy1, b _ _ hx1 hy1, ?_⟩
 simp only [Nat.add_mul, Nat.mul_add]
 have e1 : x1 * 4294967296 * (y1 * 4294967296) = x1 * y1 * 18446744073709551616 := by
  rw [Nat.mul_mul_mul_comm]
 have e2 : x1 * 4294967296 * y0 = x1 * y0 * 4294967296 := by rw [Nat.mul_right_comm]
 have e3 : x0 * (y1 * 4294967296) = x0 * y1 * 4294967296 := by rw [Nat.mul_assoc]
 rw [e1, e2, e3]; omega
theorem aFH (n : Nat) : n &&& 4294967295 = n % 4294967296 := Nat.and_two_pow_sub_one_eq_mod n 32
theorem aBo (G : aE) (k : Nat) (a b : Nat) (ha : a < 18446744073709551616) (hb : b < 18446744073709551616) :
  bM.f G (k + 1) [Un a, Un b] [] = some (.tup [Un (a * b / 18446744073709551616), Un (a * b % 18446744073709551616)], []) := by
 rw [bM.step]
 unfold bM.c
 have and32 : ∀ n : Nat, n < 18446744073709551616 → bE Tryd.prog .and 48 true (Un n) (.int .u64 4294967295) = some (Un (n % 4294967296)) := fun n hn => by
  rw [aBK]; have := aCx n 4294967295 hn (by omega); rw [aFH] at this; exact congrArg (fun z => some (AV.int .u64 z)) this
 have shr32 : ∀ n : Nat, bE Tryd.prog .shr 48 true (Un n) (.int .u64 32) = some (Un (n / 4294967296)) := fun n => aCy Tryd.prog 48 true .u64 n 32 (by omega)
 obtain ⟨x0, hx0⟩ : ∃ z, z = a % 4294967296 := ⟨_, rfl⟩
 obtain ⟨x1, hx1⟩ : ∃ z, z = a / 4294967296 := ⟨_, rfl⟩
 obtain ⟨y0, hy0⟩ : ∃ z, z = b % 4294967296 := ⟨_, rfl⟩
 obtain ⟨y1, hy1⟩ : ∃ z, z = b / 4294967296 := ⟨_, rfl⟩
 have c0 := and32 a ha
 have c1 := shr32 a
 have c2 := and32 b hb
 have c3 := shr32 b
 rw [← hx0] at c0
 rw [← hx1] at c1
 rw [← hy0] at c2
 rw [← hy1] at c3
 obtain ⟨b1, b2, b3, b4, hm⟩ := aEF x0 x1 y0 y1 (by omega) (by omega) (by omega) (by omega)
 have hab : a * b = x1 * y1 * 18446744073709551616 + (x1 * y0 + x0 * y1) * 4294967296 + x0 * y0 := by
  rw [← hm]; congr 1 <;> omega
 have m : ∀ p q : Nat, p * q ≤ 18446744065119617025 → bE Tryd.prog .mul 48 false (Un p) (Un q) = some (Un (p * q)) := fun p q h => by rw [zF, Nat.mod_eq_of_lt (by omega)]
 have ad : ∀ p q : Nat, p + q < 18446744073709551616 → bE Tryd.prog .add 48 false (Un p) (Un q) = some (Un (p + q)) := fun p q h => by rw [tT, Nat.mod_eq_of_lt h]
 have c4 := m x0 y0 b1
 have c5 := m x1 y0 b2
 have c10 := m x0 y1 b3
 have c12 := m x1 y1 b4
 have c16 := zF Tryd.prog 48 false a b
 rw [hab] at c16 ⊢
 generalize x0 * y0 = A at *
 generalize x1 * y0 = B at *
 generalize x0 * y1 = C at *
 generalize x1 * y1 = D at *
 have c6 := shr32 A
 have c7 := ad B (A / 4294967296) (by omega)
 obtain ⟨E, hE⟩ : ∃ z, z = B + A / 4294967296 := ⟨_, rfl⟩
 rw [← hE] at c7
 have c8 := and32 E (by omega)
 have c9 := shr32 E
 have c11 := ad (E % 4294967296) C (by omega)
 obtain ⟨F, hF⟩ : ∃ z, z = E % 4294967296 + C := ⟨_, rfl⟩
 rw [← hF] at c11
 have c13 := ad D (E / 4294967296) (by omega)
 have c14 := shr32 F
 have c15 := ad (D + E / 4294967296) (F / 4294967296) (by omega)
 have r1 : (D * 18446744073709551616 + (B + C) * 4294967296 + A) / 18446744073709551616 = D + E / 4294967296 + F / 4294967296 := by omega
 rw [r1]
 generalize (D * 18446744073709551616 + (B + C) * 4294967296 + A) % 18446744073709551616 = Z at *
 generalize D + E / 4294967296 + F / 4294967296 = Y at *
 generalize D + E / 4294967296 = X at *
 generalize F / 4294967296 = X2 at *
 generalize E / 4294967296 = X3 at *
 generalize E % 4294967296 = X4 at *
 generalize A / 4294967296 = X5 at *
 clear hE hF hab hm
 repeat first
  | refine oB (by first | (simp only [aQ, aI, aH, cO, cK, cN, cL, cM, aO, aK, bN, c0, c1, c2, c3, c4, c5, c6, c7, c8, c9, c10, c11, c12, c13, c14, c15, c16]; first | done | (with_reducible exact rfl) | (with_reducible exact ⟨rfl, rfl⟩)) | (with_reducible exact rfl)) ?_
  | refine lB (by first | (simp only [aQ, aI, aH, cO, cK, cN, cL, cM, aO, aK, bN, c0, c1, c2, c3, c4, c5, c6, c7, c8, c9, c10, c11, c12, c13, c14, c15, c16]; first | done | (with_reducible exact rfl) | (with_reducible exact ⟨rfl, rfl⟩)) | (with_reducible exact rfl)) ?_
  | refine oT ?_
  | refine oN ?_
  | refine oX ?_
  | refine hZ ?_
  | refine iA ?_
  | exact oF (aY ..)
  | apply oK
  | refine lT ?_
  | refine lN ?_
  | refine lX ?_
  | refine hU ?_
  | refine hY ?_
  | apply lK
  | refine oI ?_
  | refine oJ rfl ?_
  | refine lI ?_
  | refine lJ rfl ?_
  | (with_reducible exact rfl)
 exact oF (gU rfl rfl _)
theorem vX (G : aE) (k : Nat) (op d a b c n : Int) (x y z : Nat) (hx : x < 18446744073709551616) (hy : y < 18446744073709551616) (hz : z < 18446744073709551616) :
  cV.f G (k + 2) [gO op d a b c n, Un x, Un y, Un z] [] = some (.tup [Un (gJ op n x y z).1, .bool (gJ op n x y z).2], []) := by
 rw [cV.step]
 unfold cV.c
 have e0 : gO op d a b c n = .agg [I6 op, I6 d, I6 a, I6 b, I6 c, I6 n] := rfl
 have fin : ∀ (r : Nat) (t : Bool) (H : aB), cT [Un r, .bool t] ([] : aB).length H = some (.ret, [.tup [Un r, .bool t]], []) := fun r t H => gU rfl rfl H
 have k1 := lR .i64 n
 have k3 := tT Tryd.prog 48 false x y
 have k4 := aET Tryd.prog 48 false x y hy
 have k5 := zF Tryd.prog 48 false x y
 have k6 : ∀ H, aL (bM.f G (k + 1)) [Un x, Un y] H = _ := fun H => aX (H := H) (aBo G k x y hx hy) rfl rfl
 have k7 : bE Tryd.prog .and 48 false (Un x) (Un y) = some (Un (x &&& y)) := by rw [aBK, aCx x y hx hy]
 have k8 : bE Tryd.prog .or 48 false (Un x) (Un y) = some (Un (x ||| y)) := by rw [aFw, aFS x y hx hy]
 have k9 : bE Tryd.prog .xor 48 false (Un x) (Un y) = some (Un (x ^^^ y)) := by rw [aEt, aEU x y hx hy]
 have k10 : ∀ H, aL (cE.f G (k + 1)) [.agg [I6 op, I6 d, I6 a, I6 b, I6 c, I6 n], Un x] H = _ := fun H => aX (H := H) (zA G k op d a b c n x hx) rfl rfl
 have k13 : bE Tryd.prog .lss 48 false (Un x) (Un y) = some (.bool (decide (x < y))) := by rw [iF]; congr 2; simp only [decide_eq_decide]; omega
 have k13b : ∀ H, aL (dQ.f G (k + 1)) [.bool (decide (x < y))] H = some (Un (if decide (x < y) = true then 1 else 0), H) := fun H => aX (H := H) (uD G k _) rfl rfl
 have k13c : (if decide (x < y) = true then 1 else 0) = if x < y then 1 else 0 := by simp
 rw [k13c] at k13b
 have k14 : bE Tryd.prog .neq 48 true (Un x) (.int .u64 0) = some (.bool (decide (x ≠ 0))) := by rw [jH]; congr 2; simp only [decide_eq_decide]; omega
 have ev : gJ op n x y z = gJ op n x y z := rfl
 conv at ev => rhs; unfold gJ
 rw [ev, e0]
 clear ev e0
 generalize iK op n x = sh at *
 obtain ⟨sh1, sh2⟩ := sh
 generalize u64 n = z1 at *
 generalize (x + y) % 18446744073709551616 = z3 at *
 generalize (x + 18446744073709551616 - y) % 18446744073709551616 = z4 at *
 generalize x * y % 18446744073709551616 = z5 at *
 generalize x * y / 18446744073709551616 = z6 at *
 generalize x &&& y = z7 at *
 generalize x ||| y = z8 at *
 generalize x ^^^ y = z9 at *
 generalize (if x < y then 1 else 0 : Nat) = z13 at *
 generalize decide (x < y) = b13 at *
 by_cases e1 : op = 1
 ·subst e1
  repeat first
   | refine oB (by first | (with_reducible exact rfl) | (simp [aQ, bC, dC, aA, aC, cU, aT, AV.cells, aG, aZ, aW, cH, aU, cQ, dY, aN, bZ, dH, bO, cS, aF, aV, bH, k1, k3, k4, k5, k6, k7, k8, k9, k10, k13, k13b, k14]; first | done | (with_reducible exact rfl) | (with_reducible exact ⟨rfl, rfl⟩))) ?_
   | refine lB (by first | (with_reducible exact rfl) | (simp [aQ, bC, dC, aA, aC, cU, aT, AV.cells, aG, aZ, aW, cH, aU, cQ, dY, aN, bZ, dH, bO, cS, aF, aV, bH, k1, k3, k4, k5, k6, k7, k8, k9, k10, k13, k13b, k14]; first | done | (with_reducible exact rfl) | (with_reducible exact ⟨rfl, rfl⟩))) ?_
   | refine oT ?_
   | refine oN ?_
   | refine oX ?_
   | refine hZ ?_
   | refine iA ?_
   | exact oF (aY ..)
   | apply oK
   | refine lT ?_
   | refine lN ?_
   | refine lX ?_
   | refine hU ?_
   | refine hY ?_
   | apply lK
   | refine oI ?_
   | refine oJ rfl ?_
   | refine lI ?_
   | refine lJ rfl ?_
   | (with_reducible exact rfl)
  exact oF (fin ..)
 by_cases e2 : op = 2
 ·subst e2
  repeat first
   | refine oB (by first | (with_reducible exact rfl) | (simp [aQ, bC, dC, aA, aC, cU, aT, AV.cells, aG, aZ, aW, cH, aU, cQ, dY, aN, bZ, dH, bO, cS, aF, aV, bH, k1, k3, k4, k5, k6, k7, k8, k9, k10, k13, k13b, k14]; first | done | (with_reducible exact rfl) | (with_reducible exact ⟨rfl, rfl⟩))) ?_
   | refine lB (by first | (with_reducible exact rfl) | (simp [aQ, bC, dC, aA, aC, cU, aT, AV.cells, aG, aZ, aW, cH, aU, cQ, dY, aN, bZ, dH, bO, cS, aF, aV, bH, k1, k3, k4, k5, k6, k7, k8, k9, k10, k13, k13b, k14]; first | done | (with_reducible exact rfl) | (with_reducible exact ⟨rfl, rfl⟩))) ?_
   | refine oT ?_
   | refine oN ?_
   | refine oX ?_
   | refine hZ ?_
   | refine iA ?_
   | exact oF (aY ..)
   | apply oK
   | refine lT ?_
   | refine lN ?_
   | refine lX ?_
   | refine hU ?_
   | refine hY ?_
   | apply lK
   | refine oI ?_
   | refine oJ rfl ?_
   | refine lI ?_
   | refine lJ rfl ?_
   | (with_reducible exact rfl)
  exact oF (fin ..)
 by_cases e3 : op = 3
 ·subst e3
  repeat first
   | refine oB (by first | (with_reducible exact rfl) | (simp [aQ, bC, dC, aA, aC, cU, aT, AV.cells, aG, aZ, aW, cH, aU, cQ, dY, aN, bZ, dH, bO, cS, aF, aV, bH, k1, k3, k4, k5, k6, k7, k8, k9, k10, k13, k13b, k14]; first | done | (with_reducible exact rfl) | (with_reducible exact ⟨rfl, rfl⟩))) ?_
   | refine lB (by first | (with_reducible exact rfl) | (simp [aQ, bC, dC, aA, aC, cU, aT, AV.cells, aG, aZ, aW, cH, aU, cQ, dY, aN, bZ, dH, bO, cS, aF, aV, bH, k1, k3, k4, k5, k6, k7, k8, k9, k10, k13, k13b, k14]; first | done | (with_reducible exact rfl) | (with_reducible exact ⟨rfl, rfl⟩))) ?_
   | refine oT ?_
   | refine oN ?_
   | refine oX ?_
   | refine hZ ?_
   | refine iA ?_
   | exact oF (aY ..)
   | apply oK
   | refine lT ?_
   | refine lN ?_
   | refine lX ?_
   | refine hU ?_
   | refine hY ?_
   | apply lK
   | refine oI ?_
   | refine oJ rfl ?_
   | refine lI ?_
   | refine lJ rfl ?_
   | (with_reducible exact rfl)
  exact oF (fin ..)
 by_cases e4 : op = 4
 ·subst e4
  repeat first
   | refine oB (by first | (with_reducible exact rfl) | (simp [aQ, bC, dC, aA, aC, cU, aT, AV.cells, aG, aZ, aW, cH, aU, cQ, dY, aN, bZ, dH, bO, cS, aF, aV, bH, k1, k3, k4, k5, k6, k7, k8, k9, k10, k13, k13b, k14]; first | done | (with_reducible exact rfl) | (with_reducible exact ⟨rfl, rfl⟩))) ?_
   | refine lB (by first | (with_reducible exact rfl) | (simp [aQ, bC, dC, aA, aC, cU, aT, AV.cells, aG, aZ, aW, cH, aU, cQ, dY, aN, bZ, dH, bO, cS, aF, aV, bH, k1, k3, k4, k5, k6, k7, k8, k9, k10, k13, k13b, k14]; first | done | (with_reducible exact rfl) | (with_reducible exact ⟨rfl, rfl⟩))) ?_
   | refine oT ?_
   | refine oN ?_
   | refine oX ?_
   | refine hZ ?_
   | refine iA ?_
   | exact oF (aY ..)
   | apply oK
   | refine lT ?_
   | refine lN ?_
   | refine lX ?_
   | refine hU ?_
   | refine hY ?_
   | apply lK
   | refine oI ?_
   | refine oJ rfl ?_
   | refine lI ?_
   | refine lJ rfl ?_
   | (with_reducible exact rfl)
  exact oF (fin ..)
 by_cases e5 : op = 5
 ·subst e5
  repeat first
   | refine oB (by first | (with_reducible exact rfl) | (simp [aQ, bC, dC, aA, aC, cU, aT, AV.cells, aG, aZ, aW, cH, aU, cQ, dY, aN, bZ, dH, bO, cS, aF, aV, bH, k1, k3, k4, k5, k6, k7, k8, k9, k10, k13, k13b, k14]; first | done | (with_reducible exact rfl) | (with_reducible exact ⟨rfl, rfl⟩))) ?_
   | refine lB (by first | (with_reducible exact rfl) | (simp [aQ, bC, dC, aA, aC, cU, aT, AV.cells, aG, aZ, aW, cH, aU, cQ, dY, aN, bZ, dH, bO, cS, aF, aV, bH, k1, k3, k4, k5, k6, k7, k8, k9, k10, k13, k13b, k14]; first | done | (with_reducible exact rfl) | (with_reducible exact ⟨rfl, rfl⟩))) ?_
   | refine oT ?_
   | refine oN ?_
   | refine oX ?_
   | refine hZ ?_
   | refine iA ?_
   | exact oF (aY ..)
   | apply oK
   | refine lT ?_
   | refine lN ?_
   | refine lX ?_
   | refine hU ?_
   | refine hY ?_
   | apply lK
   | refine oI ?_
   | refine oJ rfl ?_
   | refine lI ?_
   | refine lJ rfl ?_
   | (with_reducible exact rfl)
  exact oF (fin ..)
 by_cases e6 : op = 6
 ·subst e6
  repeat first
   | refine oB (by first | (with_reducible exact rfl) | (simp [aQ, bC, dC, aA, aC, cU, aT, AV.cells, aG, aZ, aW, cH, aU, cQ, dY, aN, bZ, dH, bO, cS, aF, aV, bH, k1, k3, k4, k5, k6, k7, k8, k9, k10, k13, k13b, k14]; first | done | (with_reducible exact rfl) | (with_reducible exact ⟨rfl, rfl⟩))) ?_
   | refine lB (by first | (with_reducible exact rfl) | (simp [aQ, bC, dC, aA, aC, cU, aT, AV.cells, aG, aZ, aW, cH, aU, cQ, dY, aN, bZ, dH, bO, cS, aF, aV, bH, k1, k3, k4, k5, k6, k7, k8, k9, k10, k13, k13b, k14]; first | done | (with_reducible exact rfl) | (with_reducible exact ⟨rfl, rfl⟩))) ?_
   | refine oT ?_
   | refine oN ?_
   | refine oX ?_
   | refine hZ ?_
   | refine iA ?_
   | exact oF (aY ..)
   | apply oK
   | refine lT ?_
   | refine lN ?_
   | refine lX ?_
   | refine hU ?_
   | refine hY ?_
   | apply lK
   | refine oI ?_
   | refine oJ rfl ?_
   | refine lI ?_
   | refine lJ rfl ?_
   | (with_reducible exact rfl)
  exact oF (fin ..)
 by_cases e7 : op = 7
 ·subst e7
  repeat first
   | refine oB (by first | (with_reducible exact rfl) | (simp [aQ, bC, dC, aA, aC, cU, aT, AV.cells, aG, aZ, aW, cH, aU, cQ, dY, aN, bZ, dH, bO, cS, aF, aV, bH, k1, k3, k4, k5, k6, k7, k8, k9, k10, k13, k13b, k14]; first | done | (with_reducible exact rfl) | (with_reducible exact ⟨rfl, rfl⟩))) ?_
   | refine lB (by first | (with_reducible exact rfl) | (simp [aQ, bC, dC, aA, aC, cU, aT, AV.cells, aG, aZ, aW, cH, aU, cQ, dY, aN, bZ, dH, bO, cS, aF, aV, bH, k1, k3, k4, k5, k6, k7, k8, k9, k10, k13, k13b, k14]; first | done | (with_reducible exact rfl) | (with_reducible exact ⟨rfl, rfl⟩))) ?_
   | refine oT ?_
   | refine oN ?_
   | refine oX ?_
   | refine hZ ?_
   | refine iA ?_
   | exact oF (aY ..)
   | apply oK
   | refine lT ?_
   | refine lN ?_
   | refine lX ?_
   | refine hU ?_
   | refine hY ?_
   | apply lK
   | refine oI ?_
   | refine oJ rfl ?_
   | refine lI ?_
   | refine lJ rfl ?_
   | (with_reducible exact rfl)
  exact oF (fin ..)
 by_cases e8 : op = 8
 ·subst e8
  repeat first
   | refine oB (by first | (with_reducible exact rfl) | (simp [aQ, bC, dC, aA, aC, cU, aT, AV.cells, aG, aZ, aW, cH, aU, cQ, dY, aN, bZ, dH, bO, cS, aF, aV, bH, k1, k3, k4, k5, k6, k7, k8, k9, k10, k13, k13b, k14]; first | done | (with_reducible exact rfl) | (with_reducible exact ⟨rfl, rfl⟩))) ?_
   | refine lB (by first | (with_reducible exact rfl) | (simp [aQ, bC, dC, aA, aC, cU, aT, AV.cells, aG, aZ, aW, cH, aU, cQ, dY, aN, bZ, dH, bO, cS, aF, aV, bH, k1, k3, k4, k5, k6, k7, k8, k9, k10, k13, k13b, k14]; first | done | (with_reducible exact rfl) | (with_reducible exact ⟨rfl, rfl⟩))) ?_
   | refine oT ?_
   | refine oN ?_
   | refine oX ?_
   | refine hZ ?_
   | refine iA ?_
   | exact oF (aY ..)
   | apply oK
   | refine lT ?_
   | refine lN ?_
   | refine lX ?_
   | refine hU ?_
   | refine hY ?_
   | apply lK
   | refine oI ?_
   | refine oJ rfl ?_
   | refine lI ?_
   | refine lJ rfl ?_
   | (with_reducible exact rfl)
  exact oF (fin ..)
 by_cases e9 : op = 9
 ·subst e9
  repeat first
   | refine oB (by first | (with_reducible exact rfl) | (simp [aQ, bC, dC, aA, aC, cU, aT, AV.cells, aG, aZ, aW, cH, aU, cQ, dY, aN, bZ, dH, bO, cS, aF, aV, bH, k1, k3, k4, k5, k6, k7, k8, k9, k10, k13, k13b, k14]; first | done | (with_reducible exact rfl) | (with_reducible exact ⟨rfl, rfl⟩))) ?_
   | refine lB (by first | (with_reducible exact rfl) | (simp [aQ, bC, dC, aA, aC, cU, aT, AV.cells, aG, aZ, aW, cH, aU, cQ, dY, aN, bZ, dH, bO, cS, aF, aV, bH, k1, k3, k4, k5, k6, k7, k8, k9, k10, k13, k13b, k14]; first | done | (with_reducible exact rfl) | (with_reducible exact ⟨rfl, rfl⟩))) ?_
   | refine oT ?_
   | refine oN ?_
   | refine oX ?_
   | refine hZ ?_
   | refine iA ?_
   | exact oF (aY ..)
   | apply oK
   | refine lT ?_
   | refine lN ?_
   | refine lX ?_
   | refine hU ?_
   | refine hY ?_
   | apply lK
   | refine oI ?_
   | refine oJ rfl ?_
   | refine lI ?_
   | refine lJ rfl ?_
   | (with_reducible exact rfl)
  exact oF (fin ..)
 by_cases e10 : op = 10
 ·subst e10
  repeat first
   | refine oB (by first | (with_reducible exact rfl) | (simp [aQ, bC, dC, aA, aC, cU, aT, AV.cells, aG, aZ, aW, cH, aU, cQ, dY, aN, bZ, dH, bO, cS, aF, aV, bH, k1, k3, k4, k5, k6, k7, k8, k9, k10, k13, k13b, k14]; first | done | (with_reducible exact rfl) | (with_reducible exact ⟨rfl, rfl⟩))) ?_
   | refine lB (by first | (with_reducible exact rfl) | (simp [aQ, bC, dC, aA, aC, cU, aT, AV.cells, aG, aZ, aW, cH, aU, cQ, dY, aN, bZ, dH, bO, cS, aF, aV, bH, k1, k3, k4, k5, k6, k7, k8, k9, k10, k13, k13b, k14]; first | done | (with_reducible exact rfl) | (with_reducible exact ⟨rfl, rfl⟩))) ?_
   | refine oT ?_
   | refine oN ?_
   | refine oX ?_
   | refine hZ ?_
   | refine iA ?_
   | exact oF (aY ..)
   | apply oK
   | refine lT ?_
   | refine lN ?_
   | refine lX ?_
   | refine hU ?_
   | refine hY ?_
   | apply lK
   | refine oI ?_
   | refine oJ rfl ?_
   | refine lI ?_
   | refine lJ rfl ?_
   | (with_reducible exact rfl)
  exact oF (fin ..)
 by_cases e11 : op = 11
 ·subst e11
  repeat first
   | refine oB (by first | (with_reducible exact rfl) | (simp [aQ, bC, dC, aA, aC, cU, aT, AV.cells, aG, aZ, aW, cH, aU, cQ, dY, aN, bZ, dH, bO, cS, aF, aV, bH, k1, k3, k4, k5, k6, k7, k8, k9, k10, k13, k13b, k14]; first | done | (with_reducible exact rfl) | (with_reducible exact ⟨rfl, rfl⟩))) ?_
   | refine lB (by first | (with_reducible exact rfl) | (simp [aQ, bC, dC, aA, aC, cU, aT, AV.cells, aG, aZ, aW, cH, aU, cQ, dY, aN, bZ, dH, bO, cS, aF, aV, bH, k1, k3, k4, k5, k6, k7, k8, k9, k10, k13, k13b, k14]; first | done | (with_reducible exact rfl) | (with_reducible exact ⟨rfl, rfl⟩))) ?_
   | refine oT ?_
   | refine oN ?_
   | refine oX ?_
   | refine hZ ?_
   | refine iA ?_
   | exact oF (aY ..)
   | apply oK
   | refine lT ?_
   | refine lN ?_
   | refine lX ?_
   | refine hU ?_
   | refine hY ?_
   | apply lK
   | refine oI ?_
   | refine oJ rfl ?_
   | refine lI ?_
   | refine lJ rfl ?_
   | (with_reducible exact rfl)
  exact oF (fin ..)
 by_cases e12 : op = 12
 ·subst e12
  repeat first
   | refine oB (by first | (with_reducible exact rfl) | (simp [aQ, bC, dC, aA, aC, cU, aT, AV.cells, aG, aZ, aW, cH, aU, cQ, dY, aN, bZ, dH, bO, cS, aF, aV, bH, k1, k3, k4, k5, k6, k7, k8, k9, k10, k13, k13b, k14]; first | done | (with_reducible exact rfl) | (with_reducible exact ⟨rfl, rfl⟩))) ?_
   | refine lB (by first | (with_reducible exact rfl) | (simp [aQ, bC, dC, aA, aC, cU, aT, AV.cells, aG, aZ, aW, cH, aU, cQ, dY, aN, bZ, dH, bO, cS, aF, aV, bH, k1, k3, k4, k5, k6, k7, k8, k9, k10, k13, k13b, k14]; first | done | (with_reducible exact rfl) | (with_reducible exact ⟨rfl, rfl⟩))) ?_
   | refine oT ?_
   | refine oN ?_
   | refine oX ?_
   | refine hZ ?_
   | refine iA ?_
   | exact oF (aY ..)
   | apply oK
   | refine lT ?_
   | refine lN ?_
   | refine lX ?_
   | refine hU ?_
   | refine hY ?_
   | apply lK
   | refine oI ?_
   | refine oJ rfl ?_
   | refine lI ?_
   | refine lJ rfl ?_
   | (with_reducible exact rfl)
  exact oF (fin ..)
 by_cases e13 : op = 13
 ·subst e13
  repeat first
   | refine oB (by first | (with_reducible exact rfl) | (simp [aQ, bC, dC, aA, aC, cU, aT, AV.cells, aG, aZ, aW, cH, aU, cQ, dY, aN, bZ, dH, bO, cS, aF, aV, bH, k1, k3, k4, k5, k6, k7, k8, k9, k10, k13, k13b, k14]; first | done | (with_reducible exact rfl) | (with_reducible exact ⟨rfl, rfl⟩))) ?_
   | refine lB (by first | (with_reducible exact rfl) | (simp [aQ, bC, dC, aA, aC, cU, aT, AV.cells, aG, aZ, aW, cH, aU, cQ, dY, aN, bZ, dH, bO, cS, aF, aV, bH, k1, k3, k4, k5, k6, k7, k8, k9, k10, k13, k13b, k14]; first | done | (with_reducible exact rfl) | (with_reducible exact ⟨rfl, rfl⟩))) ?_
   | refine oT ?_
   | refine oN ?_
   | refine oX ?_
   | refine hZ ?_
   | refine iA ?_
   | exact oF (aY ..)
   | apply oK
   | refine lT ?_
   | refine lN ?_
   | refine lX ?_
   | refine hU ?_
   | refine hY ?_
   | apply lK
   | refine oI ?_
   | refine oJ rfl ?_
   | refine lI ?_
   | refine lJ rfl ?_
   | (with_reducible exact rfl)
  exact oF (fin ..)
 by_cases e14 : op = 14
 ·subst e14
  by_cases hx0 : x = 0
  ·have k14' : bE Tryd.prog .neq 48 true (Un x) (.int .u64 0) = some (.bool false) := by rw [k14]; simp [hx0]
   rw [show (if x ≠ 0 then y else z) = z by rw [if_neg (by simp [hx0])]]
   repeat first
    | refine oB (by first | (with_reducible exact rfl) | (simp [aQ, bC, dC, aA, aC, cU, aT, AV.cells, aG, aZ, aW, cH, aU, cQ, dY, aN, bZ, dH, bO, cS, aF, aV, bH, k1, k3, k4, k5, k6, k7, k8, k9, k10, k13, k13b, k14']; first | done | (with_reducible exact rfl) | (with_reducible exact ⟨rfl, rfl⟩))) ?_
    | refine lB (by first | (with_reducible exact rfl) | (simp [aQ, bC, dC, aA, aC, cU, aT, AV.cells, aG, aZ, aW, cH, aU, cQ, dY, aN, bZ, dH, bO, cS, aF, aV, bH, k1, k3, k4, k5, k6, k7, k8, k9, k10, k13, k13b, k14']; first | done | (with_reducible exact rfl) | (with_reducible exact ⟨rfl, rfl⟩))) ?_
    | refine oT ?_
    | refine oN ?_
    | refine oX ?_
    | refine hZ ?_
    | refine iA ?_
    | exact oF (aY ..)
    | apply oK
    | refine lT ?_
    | refine lN ?_
    | refine lX ?_
    | refine hU ?_
    | refine hY ?_
    | apply lK
    | refine oI ?_
    | refine oJ rfl ?_
    | refine lI ?_
    | refine lJ rfl ?_
    | (with_reducible exact rfl)
   exact oF (fin ..)
  ·have k14' : bE Tryd.prog .neq 48 true (Un x) (.int .u64 0) = some (.bool true) := by rw [k14]; simp [hx0]
   rw [show (if x ≠ 0 then y else z) = y by rw [if_pos hx0]]
   repeat first
    | refine oB (by first | (with_reducible exact rfl) | (simp [aQ, bC, dC, aA, aC, cU, aT, AV.cells, aG, aZ, aW, cH, aU, cQ, dY, aN, bZ, dH, bO, cS, aF, aV, bH, k1, k3, k4, k5, k6, k7, k8, k9, k10, k13, k13b, k14']; first | done | (with_reducible exact rfl) | (with_reducible exact ⟨rfl, rfl⟩))) ?_
    | refine lB (by first | (with_reducible exact rfl) | (simp [aQ, bC, dC, aA, aC, cU, aT, AV.cells, aG, aZ, aW, cH, aU, cQ, dY, aN, bZ, dH, bO, cS, aF, aV, bH, k1, k3, k4, k5, k6, k7, k8, k9, k10, k13, k13b, k14']; first | done | (with_reducible exact rfl) | (with_reducible exact ⟨rfl, rfl⟩))) ?_
    | refine oT ?_
    | refine oN ?_
    | refine oX ?_
    | refine hZ ?_
    | refine iA ?_
    | exact oF (aY ..)
    | apply oK
    | refine lT ?_
    | refine lN ?_
    | refine lX ?_
    | refine hU ?_
    | refine hY ?_
    | apply lK
    | refine oI ?_
    | refine oJ rfl ?_
    | refine lI ?_
    | refine lJ rfl ?_
    | (with_reducible exact rfl)
   exact oF (fin ..)
 repeat first
  | refine oB (by first | (with_reducible exact rfl) | (simp [aQ, bC, dC, aA, aC, cU, aT, AV.cells, aG, aZ, aW, cH, aU, cQ, dY, aN, bZ, dH, bO, cS, aF, aV, bH, e1, e2, e3, e4, e5, e6, e7, e8, e9, e10, e11, e12, e13, e14]; first | done | (with_reducible exact rfl) | (with_reducible exact ⟨rfl, rfl⟩))) ?_
  | refine lB (by first | (with_reducible exact rfl) | (simp [aQ, bC, dC, aA, aC, cU, aT, AV.cells, aG, aZ, aW, cH, aU, cQ, dY, aN, bZ, dH, bO, cS, aF, aV, bH, e1, e2, e3, e4, e5, e6, e7, e8, e9, e10, e11, e12, e13, e14]; first | done | (with_reducible exact rfl) | (with_reducible exact ⟨rfl, rfl⟩))) ?_
  | refine oT ?_
  | refine oN ?_
  | refine oX ?_
  | refine hZ ?_
  | refine iA ?_
  | exact oF (aY ..)
  | apply oK
  | refine lT ?_
  | refine lN ?_
  | refine lX ?_
  | refine hU ?_
  | refine hY ?_
  | apply lK
  | refine oI ?_
  | refine oJ rfl ?_
  | refine lI ?_
  | refine lJ rfl ?_
  | (with_reducible exact rfl)
 simp only [e1, e2, e3, e4, e5, e6, e7, e8, e9, e10, e11, e12, e13, e14, if_false, or_self]
 exact oF (fin ..)
abbrev I (n : Int) : AV := .int .i64 n
abbrev Rg (n : Int) : Prop := -9223372036854775808 ≤ n ∧ n < 9223372036854775808
def jU (n : Int) : AV := if -9223372036854775808 ≤ n ∧ n < 9223372036854775808 then .tup [I n, .bool true] else .tup [I 0, .bool false]
theorem fX (n : Int) (b : Bool) (H : aB) : cT [I n, .bool b] 0 H = some (.ret, [.tup [I n, .bool b]], []) := gU rfl rfl H
theorem rI (G : aE) (k : Nat) (a b : Int) (ha : Rg a) (hb : Rg b) : dI.f G (k + 1) [I a, I b] [] = some (jU (a + b), []) := by
 rw [dI.step]
 unfold dI.c jU
 simp only [gN, aQ, kH, kB, pY Tryd.underlying4, List.length_nil]
 by_cases h : -9223372036854775808 ≤ a + b ∧ a + b < 9223372036854775808
 ·rw [if_pos h, dJ h.1 h.2]
  by_cases h1 : 0 < b
  ·have h2 : a < a + b := by omega
   simp [h1, h2, fX]
  ·have h2 : ¬ a < a + b := by omega
   simp [h1, h2, fX]
 ·rw [if_neg h, iE]
  by_cases h1 : 0 < b
  ·have h2 : ¬ a < (if (a + b) % 18446744073709551616 ≥ 9223372036854775808 then (a + b) % 18446744073709551616 - 18446744073709551616 else (a + b) % 18446744073709551616) := by split <;> omega
   have h3 : b ≠ 0 := by omega
   simp [h1, h2, h3, fX]
  ·have h2 : a < (if (a + b) % 18446744073709551616 ≥ 9223372036854775808 then (a + b) % 18446744073709551616 - 18446744073709551616 else (a + b) % 18446744073709551616) := by split <;> omega
   have h3 : b ≠ 0 := by omega
   simp [h1, h2, h3, fX]
theorem nW (G : aE) (k : Nat) (a b : Int) (ha : Rg a) (hb : Rg b) : dA.f G (k + 1) [I a, I b] [] = some (jU (a - b), []) := by
 rw [dA.step]
 unfold dA.c jU
 simp only [tJ, aQ, kH, kB, iF, pY Tryd.underlying4, List.length_nil]
 by_cases h : -9223372036854775808 ≤ a - b ∧ a - b < 9223372036854775808
 ·rw [if_pos h, dJ h.1 h.2]
  by_cases h1 : 0 < b
  ·have h2 : a - b < a := by omega
   simp [h1, h2, fX]
  ·have h2 : ¬ a - b < a := by omega
   simp [h1, h2, fX]
 ·rw [if_neg h, iE]
  by_cases h1 : 0 < b
  ·have h2 : ¬ (if (a - b) % 18446744073709551616 ≥ 9223372036854775808 then (a - b) % 18446744073709551616 - 18446744073709551616 else (a - b) % 18446744073709551616) < a := by split <;> omega
   have h3 : b ≠ 0 := by omega
   simp [h1, h2, h3, fX]
  ·have h2 : (if (a - b) % 18446744073709551616 ≥ 9223372036854775808 then (a - b) % 18446744073709551616 - 18446744073709551616 else (a - b) % 18446744073709551616) < a := by split <;> omega
   have h3 : b ≠ 0 := by omega
   simp [h1, h2, h3, fX]
theorem tB (n : Int) : -9223372036854775808 ≤ IntKind.i64.wrap n ∧ IntKind.i64.wrap n < 9223372036854775808 := by
 rw [iE]; split <;> omega
theorem rJ (n : Int) : ∃ m, IntKind.i64.wrap n = n + 18446744073709551616 * m := by
 rw [iE]
 have := Int.mul_ediv_add_emod n 18446744073709551616
 split
 ·exact ⟨-(n / 18446744073709551616) - 1, by omega⟩
 ·exact ⟨-(n / 18446744073709551616), by omega⟩
theorem vV (n b : Int) (hb : b ≠ 0) : (n.tmod b).natAbs < b.natAbs := by
 rw [Int.natAbs_tmod]
 exact Nat.mod_lt _ (by omega)
theorem aEg (a b : Int) (hb : b ≠ 0) (hr : Rg b) (h : (IntKind.i64.wrap (a * b)).tdiv b = a) : IntKind.i64.wrap (a * b) = a * b := by
 obtain ⟨m, hm⟩ := rJ (a * b)
 have h1 := Int.mul_tdiv_add_tmod (IntKind.i64.wrap (a * b)) b
 rw [h] at h1
 have h2 := vV (IntKind.i64.wrap (a * b)) b hb
 have h3 : b * a = a * b := Int.mul_comm _ _
 generalize (IntKind.i64.wrap (a * b)).tmod b = r at h1 h2
 omega
theorem kG (G : aE) (k : Nat) (a b : Int) (ha : Rg a) (hb : Rg b) : bJ.f G (k + 1) [I a, I b] [] = some (jU (a * b), []) := by
 rw [bJ.step]
 unfold bJ.c
 simp only [List.length_nil]
 have z : jU 0 = .tup [I 0, .bool true] := rfl
 by_cases a0 : a = 0
 ·subst a0; simp [fX, z]
 by_cases b0 : b = 0
 ·subst b0; simp [a0, fX, z]
 by_cases h1 : a = -1 ∧ b = -9223372036854775808
 ·obtain ⟨rfl, rfl⟩ := h1
  simp [fX]; rfl
 by_cases h2 : b = -1 ∧ a = -9223372036854775808
 ·obtain ⟨rfl, rfl⟩ := h2
  simp [fX]; rfl
 have q : ∀ n : Int, Rg n → ¬ (b = -1 ∧ n = -9223372036854775808) → Rg (n.tdiv b) := by
  intro n hn hx
  have e := Int.mul_tdiv_add_tmod n b
  have := Int.natAbs_tdiv_le_natAbs n b
  by_cases hb1 : b = -1
  ·subst hb1
   rw [show (-1 : Int) = -(1) from rfl, Int.tdiv_neg, Int.tdiv_one]
   omega
  ·by_cases hn' : n = -9223372036854775808
   ·subst hn'
    have hle : (Int.tdiv (-9223372036854775808) b) ≠ 9223372036854775808 := by
     intro hh
     rw [hh] at e
     have h3 := vV (-9223372036854775808) b b0
     omega
    omega
   ·omega
 have hw := tB (a * b)
 have step : bE Tryd.prog .quo 2 false (.int .i64 (IntKind.i64.wrap (a * b))) (.int .i64 b) = some (.int .i64 (IntKind.i64.wrap ((IntKind.i64.wrap (a * b)).tdiv b))) := aEs _ _ _ _ _ _ b0
 have dec : (IntKind.i64.wrap ((IntKind.i64.wrap (a * b)).tdiv b) = a) ↔ Rg (a * b) := by
  constructor
  ·intro h
   by_cases hx : b = -1 ∧ IntKind.i64.wrap (a * b) = -9223372036854775808
   ·exfalso
    obtain ⟨rfl, hx⟩ := hx
    rw [hx] at h
    have : a = -9223372036854775808 := by rw [← h]; rfl
    exact h2 ⟨rfl, this⟩
   ·rw [dJ (q _ hw hx).1 (q _ hw hx).2] at h
    rw [← aEg a b b0 hb h]; exact hw
  ·intro h
   rw [dJ h.1 h.2, Int.mul_tdiv_cancel _ b0]
   exact dJ ha.1 ha.2
 have fin : (aD (pu [] (bE Tryd.prog .mul 2 false (I a) (I b))) fun v15 h15 =>
   aD (pu h15 (bE Tryd.prog .quo 2 false v15 (I b))) fun v16 h16 =>
   aD (pu h16 (bE Tryd.prog .eql 2 false v16 (I a))) fun v17 h17 =>
   bA v17 (cT [v15, (.bool true)] 0 h17) (cT [(.int .i64 0), (.bool false)] 0 h17)) = some (.ret, [jU (a * b)], []) := by
  simp only [aBL, aQ, kH, step, fE]
  unfold jU
  by_cases h : Rg (a * b)
  ·rw [decide_eq_true (dec.2 h), uI, fX, dJ h.1 h.2]
   rw [if_pos h]
  ·rw [decide_eq_false (fun x => h (dec.1 x)), kX, fX, if_neg h]
 have key : ∀ (p q r t : Bool), p = decide (a = -1) → q = decide (b = -9223372036854775808) → r = decide (b = -1) → t = decide (a = -9223372036854775808) → (p && q) = false ∧ (r && t) = false := by
  rintro p q r t rfl rfl rfl rfl
  simp only [Bool.and_eq_false_iff, decide_eq_false_iff_not]
  constructor
  ·by_cases h : a = -1
   ·exact .inr fun hb => h1 ⟨h, hb⟩
   ·exact .inl h
  ·by_cases h : b = -1
   ·exact .inr fun hb => h2 ⟨h, hb⟩
   ·exact .inl h
 have d0 : decide (a = 0) = false := decide_eq_false a0
 have d1 : decide (b = 0) = false := decide_eq_false b0
 simp only [fE, aQ, kH, d0, d1, cK, aK, kX]
 have key' := key _ _ _ _ rfl rfl rfl rfl
 generalize hp : decide (a = -1) = p at key'
 generalize hq : decide (b = -9223372036854775808) = q at key'
 generalize hr : decide (b = -1) = r at key'
 generalize ht : decide (a = -9223372036854775808) = t at key'
 cases p <;> cases q <;> cases r <;> cases t <;> first
  | (simp at key'; done)
  | (simp only [fE, hp, hq, hr, ht, cO, cK, cN, cL, cM, kH, aQ, aO, aK, kX]; rw [fin, vE])
theorem aAt (x : Int) (n : Nat) : (x * 2 ^ n).fdiv (2 ^ n) = x := by
 have h : (2 : Int) ^ n ≠ 0 := by have := Int.pow_pos (n := 2) (m := n) (by decide); omega
 rw [Int.fdiv_eq_ediv_of_nonneg _ (Int.le_of_lt (Int.pow_pos (by decide)))]
 exact Int.mul_ediv_cancel _ h
theorem shl_spec (G : aE) (k : Nat) (a : Int) (n : Nat) (ha : Rg a) (hn : n ≤ 63) : dD.f G (k + 1) [I a, I (n : Int)] [] = some (jU (a * 2 ^ n), []) := by
 rw [dD.step]
 unfold dD.c
 have c0 : bE Tryd.prog .lss 2 true (I (n : Int)) (.int .i64 0) = some (.bool false) := by rw [iF, decide_eq_false (by omega)]
 have c1 : bE Tryd.prog .gtr 2 true (I (n : Int)) (.int .i64 63) = some (.bool false) := by rw [kB, decide_eq_false (by omega)]
 have e : min ((n : Int)).toNat IntKind.i64.bits = n := by rw [Int.toNat_natCast]; exact Nat.min_eq_left (by have : IntKind.i64.bits = 64 := rfl; omega)
 obtain ⟨w, hw⟩ : ∃ w, w = IntKind.i64.wrap (a * 2 ^ n) := ⟨_, rfl⟩
 have c4 : bE Tryd.prog .shl 2 false (I a) (I (n : Int)) = some (I w) := by rw [xZ _ _ _ _ _ _ _ (Int.natCast_nonneg n), e, hw]
 have c5 : bE Tryd.prog .shr 2 false (I w) (I (n : Int)) = some (I (w.fdiv (2 ^ n))) := by rw [pZ _ _ _ _ _ _ _ (Int.natCast_nonneg n), e]
 have pp : (0 : Int) < 2 ^ n := Int.pow_pos (by decide)
 have fin : ∀ (z : Int) (t : Bool) (H : aB), cT [I z, .bool t] ([] : aB).length H = some (.ret, [.tup [I z, .bool t]], []) := fun z t H => gU rfl rfl H
 by_cases h : Rg (a * 2 ^ n)
 ·have hw' : w = a * 2 ^ n := by rw [hw]; exact dJ h.1 h.2
  have hq : w.fdiv (2 ^ n) = a := by rw [hw', aAt]
  rw [hq] at c5
  have c6 : bE Tryd.prog .neq 2 false (I a) (I a) = some (.bool false) := by rw [jH]; simp
  have r : jU (a * 2 ^ n) = .tup [I w, .bool true] := by unfold jU; rw [if_pos h, hw']
  rw [r]
  clear hw hw' hq
  repeat first
   | refine oB (by first | (simp only [aQ, aI, aH, cO, cK, cN, cL, cM, aO, aK, bN, c0, c1, c4, c5, c6]; first | done | (with_reducible exact rfl) | (with_reducible exact ⟨rfl, rfl⟩)) | (with_reducible exact rfl)) ?_
   | refine lB (by first | (simp only [aQ, aI, aH, cO, cK, cN, cL, cM, aO, aK, bN, c0, c1, c4, c5, c6]; first | done | (with_reducible exact rfl) | (with_reducible exact ⟨rfl, rfl⟩)) | (with_reducible exact rfl)) ?_
   | refine oT ?_
   | refine oN ?_
   | refine oX ?_
   | refine hZ ?_
   | refine iA ?_
   | exact oF (aY ..)
   | apply oK
   | refine lT ?_
   | refine lN ?_
   | refine lX ?_
   | refine hU ?_
   | refine hY ?_
   | apply lK
   | refine oI ?_
   | refine oJ rfl ?_
   | refine lI ?_
   | refine lJ rfl ?_
   | (with_reducible exact rfl)
  exact oF (fin ..)
 ·have hq : w.fdiv (2 ^ n) ≠ a := by
   intro hq
   apply h
   have hr := tB (a * 2 ^ n)
   rw [← hw] at hr
   obtain ⟨m, hm⟩ := rJ (a * 2 ^ n)
   rw [← hw] at hm
   have e64 : (18446744073709551616 : Int) = 2 ^ (64 - n) * 2 ^ n := by rw [← Int.pow_add, show 64 - n + n = 64 by omega]; rfl
   have hw2 : w = (a + 2 ^ (64 - n) * m) * 2 ^ n := by
    rw [hm, e64, Int.add_mul, Int.mul_assoc, Int.mul_assoc, Int.mul_comm m]
   rw [hw2, aAt] at hq
   have hz : 2 ^ (64 - n) * m = 0 := by omega
   rw [hw2, hz, Int.add_zero] at hr
   exact hr
  have c6 : bE Tryd.prog .neq 2 false (I (w.fdiv (2 ^ n))) (I a) = some (.bool true) := by rw [jH]; simp [hq]
  have r : jU (a * 2 ^ n) = .tup [I 0, .bool false] := by unfold jU; rw [if_neg h]
  rw [r]
  generalize w.fdiv (2 ^ n) = q at *
  clear hw hq
  repeat first
   | refine oB (by first | (simp only [aQ, aI, aH, cO, cK, cN, cL, cM, aO, aK, bN, c0, c1, c4, c5, c6]; first | done | (with_reducible exact rfl) | (with_reducible exact ⟨rfl, rfl⟩)) | (with_reducible exact rfl)) ?_
   | refine lB (by first | (simp only [aQ, aI, aH, cO, cK, cN, cL, cM, aO, aK, bN, c0, c1, c4, c5, c6]; first | done | (with_reducible exact rfl) | (with_reducible exact ⟨rfl, rfl⟩)) | (with_reducible exact rfl)) ?_
   | refine oT ?_
   | refine oN ?_
   | refine oX ?_
   | refine hZ ?_
   | refine iA ?_
   | exact oF (aY ..)
   | apply oK
   | refine lT ?_
   | refine lN ?_
   | refine lX ?_
   | refine hU ?_
   | refine hY ?_
   | apply lK
   | refine oI ?_
   | refine oJ rfl ?_
   | refine lI ?_
   | refine lJ rfl ?_
   | (with_reducible exact rfl)
  exact oF (fin ..)
def yH (op : Int) (n : Nat) (a b : Int) : Int := if op = 3 then a + b else if op = 4 then a - b else if op = 5 then a * b else a * 2 ^ n
theorem iP (n : Int) : fL (jU n) = true := by unfold jU; split <;> rfl
set_option maxRecDepth 20000 in
theorem aBb (G : aE) (k : Nat) (op d a b c : Int) (n : Nat) (hn : n ≤ 63) (x y : Nat) (hx : x < 18446744073709551616) (hy : y < 18446744073709551616) (ho : op = 3 ∨ op = 4 ∨ op = 5 ∨ op = 10) :
  bU.f G (k + 2) [gO op d a b c (n : Int), Un x, Un y] [] = some (jU (yH op n (fF x) (fF y)), []) := by
 rw [bU.step]
 unfold bU.c
 have hx' := oA x hx
 have hy' := oA y hy
 have c1 := iD x hx
 have c2 := iD y hy
 have r1 : ∀ H, aL (dI.f G (k + 1)) [I6 (fF x), I6 (fF y)] H = _ := fun H => aX (H := H) (rI G k (fF x) (fF y) hx' hy') rfl (iP _)
 have r2 : ∀ H, aL (dA.f G (k + 1)) [I6 (fF x), I6 (fF y)] H = _ := fun H => aX (H := H) (nW G k (fF x) (fF y) hx' hy') rfl (iP _)
 have r3 : ∀ H, aL (bJ.f G (k + 1)) [I6 (fF x), I6 (fF y)] H = _ := fun H => aX (H := H) (kG G k (fF x) (fF y) hx' hy') rfl (iP _)
 have r4 : ∀ H, aL (dD.f G (k + 1)) [I6 (fF x), I6 (n : Int)] H = _ := fun H => aX (H := H) (shl_spec G k (fF x) n hx' hn) rfl (iP _)
 have nt : ∀ z, ∃ (u : Int) (t : Bool), jU z = .tup [I u, .bool t] := fun z => by unfold jU; split <;> exact ⟨_, _, rfl⟩
 have fin : ∀ (z : Int) (t : Bool) (H : aB), cT [I z, .bool t] ([] : aB).length H = some (.ret, [.tup [I z, .bool t]], []) := fun z t H => gU rfl rfl H
 have b0 : ∀ H, bC (gO op d a b c (n : Int)) H = some (.rp false (gO op d a b c (n : Int)) 0, H) := fun H => rfl
 have g0 : aA 0 (.rp false (gO op d a b c (n : Int)) 0) = some (.rp false (gO op d a b c (n : Int)) 0) := rfl
 have g5 : aA 5 (.rp false (gO op d a b c (n : Int)) 0) = some (.rp false (gO op d a b c (n : Int)) 5) := rfl
 have l0 : ∀ H, aC G false 1 (.rp false (gO op d a b c (n : Int)) 0) H = some (I6 op) := fun H => rfl
 have l5 : ∀ H, aC G false 1 (.rp false (gO op d a b c (n : Int)) 5) H = some (I6 (n : Int)) := fun H => rfl
 have x0 : ∀ u v : AV, aG (.tup [u, v]) 0 = some u := fun _ _ => rfl
 have x1 : ∀ u v : AV, aG (.tup [u, v]) 1 = some v := fun _ _ => rfl
 have ef : yH op n (fF x) (fF y) = yH op n (fF x) (fF y) := rfl
 generalize fF x = p at *
 generalize fF y = q at *
 obtain ⟨X, hX⟩ : ∃ X, X = gO op d a b c (n : Int) := ⟨_, rfl⟩
 rw [← hX] at b0 g0 g5 l0 l5 ⊢
 clear hX
 rcases ho with rfl | rfl | rfl | rfl
 ·show _ = some (jU (p + q), [])
  obtain ⟨u, t, e⟩ := nt (p + q)
  rw [e] at r1 ⊢
  clear e
  have q3 : bE Tryd.prog .eql 3 true (I6 3) (.int .i64 3) = some (.bool true) := rfl
  repeat first
   | refine oB (by first | (simp only [aQ, aI, aH, cO, cK, cN, cL, cM, aO, aK, bN, b0, g0, g5, l0, l5, x0, x1, c1, c2, r1, q3]; first | done | (with_reducible exact rfl) | (with_reducible exact ⟨rfl, rfl⟩)) | (with_reducible exact rfl)) ?_
   | refine lB (by first | (simp only [aQ, aI, aH, cO, cK, cN, cL, cM, aO, aK, bN, b0, g0, g5, l0, l5, x0, x1, c1, c2, r1, q3]; first | done | (with_reducible exact rfl) | (with_reducible exact ⟨rfl, rfl⟩)) | (with_reducible exact rfl)) ?_
   | refine oT ?_
   | refine oN ?_
   | refine oX ?_
   | refine hZ ?_
   | refine iA ?_
   | exact oF (aY ..)
   | apply oK
   | refine lT ?_
   | refine lN ?_
   | refine lX ?_
   | refine hU ?_
   | refine hY ?_
   | apply lK
   | refine oI ?_
   | refine oJ rfl ?_
   | refine lI ?_
   | refine lJ rfl ?_
   | (with_reducible exact rfl)
  exact oF (fin ..)
 ·show _ = some (jU (p - q), [])
  obtain ⟨u, t, e⟩ := nt (p - q)
  rw [e] at r2 ⊢
  clear e
  have q3 : bE Tryd.prog .eql 3 true (I6 4) (.int .i64 3) = some (.bool false) := rfl
  have q4 : bE Tryd.prog .eql 3 true (I6 4) (.int .i64 4) = some (.bool true) := rfl
  repeat first
   | refine oB (by first | (simp only [aQ, aI, aH, cO, cK, cN, cL, cM, aO, aK, bN, b0, g0, g5, l0, l5, x0, x1, c1, c2, r2, q3, q4]; first | done | (with_reducible exact rfl) | (with_reducible exact ⟨rfl, rfl⟩)) | (with_reducible exact rfl)) ?_
   | refine lB (by first | (simp only [aQ, aI, aH, cO, cK, cN, cL, cM, aO, aK, bN, b0, g0, g5, l0, l5, x0, x1, c1, c2, r2, q3, q4]; first | done | (with_reducible exact rfl) | (with_reducible exact ⟨rfl, rfl⟩)) | (with_reducible exact rfl)) ?_
   | refine oT ?_
   | refine oN ?_
   | refine oX ?_
   | refine hZ ?_
   | refine iA ?_
   | exact oF (aY ..)
   | apply oK
   | refine lT ?_
   | refine lN ?_
   | refine lX ?_
   | refine hU ?_
   | refine hY ?_
   | apply lK
   | refine oI ?_
   | refine oJ rfl ?_
   | refine lI ?_
   | refine lJ rfl ?_
   | (with_reducible exact rfl)
  exact oF (fin ..)
 ·show _ = some (jU (p * q), [])
  obtain ⟨u, t, e⟩ := nt (p * q)
  rw [e] at r3 ⊢
  clear e
  have q3 : bE Tryd.prog .eql 3 true (I6 5) (.int .i64 3) = some (.bool false) := rfl
  have q4 : bE Tryd.prog .eql 3 true (I6 5) (.int .i64 4) = some (.bool false) := rfl
  have q5 : bE Tryd.prog .eql 3 true (I6 5) (.int .i64 5) = some (.bool true) := rfl
  repeat first
   | refine oB (by first | (simp only [aQ, aI, aH, cO, cK, cN, cL, cM, aO, aK, bN, b0, g0, g5, l0, l5, x0, x1, c1, c2, r3, q3, q4, q5]; first | done | (with_reducible exact rfl) | (with_reducible exact ⟨rfl, rfl⟩)) | (with_reducible exact rfl)) ?_
   | refine lB (by first | (simp only [aQ, aI, aH, cO, cK, cN, cL, cM, aO, aK, bN, b0, g0, g5, l0, l5, x0, x1, c1, c2, r3, q3, q4, q5]; first | done | (with_reducible exact rfl) | (with_reducible exact ⟨rfl, rfl⟩)) | (with_reducible exact rfl)) ?_
   | refine oT ?_
   | refine oN ?_
   | refine oX ?_
   | refine hZ ?_
   | refine iA ?_
   | exact oF (aY ..)
   | apply oK
   | refine lT ?_
   | refine lN ?_
   | refine lX ?_
   | refine hU ?_
   | refine hY ?_
   | apply lK
   | refine oI ?_
   | refine oJ rfl ?_
   | refine lI ?_
   | refine lJ rfl ?_
   | (with_reducible exact rfl)
  exact oF (fin ..)
 ·show _ = some (jU (p * 2 ^ n), [])
  obtain ⟨u, t, e⟩ := nt (p * 2 ^ n)
  rw [e] at r4 ⊢
  clear e
  have q3 : bE Tryd.prog .eql 3 true (I6 10) (.int .i64 3) = some (.bool false) := rfl
  have q4 : bE Tryd.prog .eql 3 true (I6 10) (.int .i64 4) = some (.bool false) := rfl
  have q5 : bE Tryd.prog .eql 3 true (I6 10) (.int .i64 5) = some (.bool false) := rfl
  have q10 : bE Tryd.prog .eql 3 true (I6 10) (.int .i64 10) = some (.bool true) := rfl
  repeat first
   | refine oB (by first | (simp only [aQ, aI, aH, cO, cK, cN, cL, cM, aO, aK, bN, b0, g0, g5, l0, l5, x0, x1, c1, c2, r4, q3, q4, q5, q10]; first | done | (with_reducible exact rfl) | (with_reducible exact ⟨rfl, rfl⟩)) | (with_reducible exact rfl)) ?_
   | refine lB (by first | (simp only [aQ, aI, aH, cO, cK, cN, cL, cM, aO, aK, bN, b0, g0, g5, l0, l5, x0, x1, c1, c2, r4, q3, q4, q5, q10]; first | done | (with_reducible exact rfl) | (with_reducible exact ⟨rfl, rfl⟩)) | (with_reducible exact rfl)) ?_
   | refine oT ?_
   | refine oN ?_
   | refine oX ?_
   | refine hZ ?_
   | refine iA ?_
   | exact oF (aY ..)
   | apply oK
   | refine lT ?_
   | refine lN ?_
   | refine lX ?_
   | refine hU ?_
   | refine hY ?_
   | apply lK
   | refine oI ?_
   | refine oJ rfl ?_
   | refine lI ?_
   | refine lJ rfl ?_
   | (with_reducible exact rfl)
  exact oF (fin ..)
def fG (n : Int) : Bool := decide (-9223372036854775808 ≤ n ∧ n < 9223372036854775808)
theorem eb (x y : Bool) : bE Tryd.prog .eql 4 false (.bool x) (.bool y) = some (.bool (x == y)) := mI Tryd.underlying4 false x y
def wG (op k : Int) (a b : Nat) : Int × Bool :=
 if op = 3 then (if Rg (fF a + fF b) then (fF a + fF b, true) else (0, false))
 else if op = 4 then (if Rg (fF a - fF b) then (fF a - fF b, true) else (0, false))
 else if op = 5 then (if Rg (fF a * fF b) then (fF a * fF b, true) else (0, false))
 else if op = 10 then (if k < 0 ∨ 63 < k then (0, false) else if Rg (fF a * 2 ^ k.toNat) then (fF a * 2 ^ k.toNat, true) else (0, false))
 else (0, false)
theorem aBZ (n : Int) : jU n = .tup [I6 (if Rg n then (n, true) else (0, false) : Int × Bool).1, .bool (if Rg n then (n, true) else (0, false) : Int × Bool).2] := by
 unfold jU
 by_cases h : Rg n
 ·rw [if_pos h, if_pos ⟨h.1, h.2⟩]
 ·rw [if_neg h, if_neg (fun h' => h ⟨h'.1, h'.2⟩)]
abbrev exV (p : Int × Bool) : AV := .tup [I6 p.1, .bool p.2]
theorem aCI (G : aE) (k : Nat) (op d a b c n : Int) (x y : Nat) (hx : x < 18446744073709551616) (hy : y < 18446744073709551616) :
  bU.f G (k + 2) [gO op d a b c n, Un x, Un y] [] = some (exV (wG op n x y), []) := by
 by_cases ho : op = 3 ∨ op = 4 ∨ op = 5
 ·rw [bU.step]
  unfold bU.c gO
  have hx' := oA x hx
  have hy' := oA y hy
  have c1 := iD x hx
  have c2 := iD y hy
  have r1 : ∀ H, aL (dI.f G (k + 1)) [I6 (fF x), I6 (fF y)] H = _ := fun H => aX (H := H) (rI G k (fF x) (fF y) hx' hy') rfl (iP _)
  have r2 : ∀ H, aL (dA.f G (k + 1)) [I6 (fF x), I6 (fF y)] H = _ := fun H => aX (H := H) (nW G k (fF x) (fF y) hx' hy') rfl (iP _)
  have r3 : ∀ H, aL (bJ.f G (k + 1)) [I6 (fF x), I6 (fF y)] H = _ := fun H => aX (H := H) (kG G k (fF x) (fF y) hx' hy') rfl (iP _)
  simp only [aBZ] at r1 r2 r3
  refine gZ ?_
  rcases ho with rfl | rfl | rfl
  ·have fx := aHv c1 <| aHv c2 <| aHv r1 <| aHv r2 <| r3
   refine tU ?_
   exact w2 rfl rfl rfl
  ·have fx := aHv c1 <| aHv c2 <| aHv r1 <| aHv r2 <| r3
   refine tU ?_
   exact w2 rfl rfl rfl
  ·have fx := aHv c1 <| aHv c2 <| aHv r1 <| aHv r2 <| r3
   refine tU ?_
   exact w2 rfl rfl rfl
 by_cases h10 : op = 10
 ·by_cases hn : 0 ≤ n ∧ n ≤ 63
  ·have := aBb G k op d a b c n.toNat (by omega) x y hx hy (by omega)
   rw [Int.toNat_of_nonneg hn.1, aBZ] at this
   rw [this]
   subst h10
   have e1 : yH 10 n.toNat (fF x) (fF y) = fF x * 2 ^ n.toNat := rfl
   have e2 : wG 10 n x y = if n < 0 ∨ 63 < n then (0, false) else if Rg (fF x * 2 ^ n.toNat) then (fF x * 2 ^ n.toNat, true) else (0, false) := rfl
   have hnn : ¬ (n < 0 ∨ 63 < n) := by omega
   rw [e1, e2, if_neg hnn]
  ·have e : wG op n x y = (0, false) := by
    subst h10
    unfold wG
    rw [if_neg (by omega), if_neg (by omega), if_neg (by omega), if_pos rfl, if_pos (by omega)]
   rw [e, bU.step]
   unfold bU.c gO
   have c1 := iD x hx
   have c2 := iD y hy
   have s1 : dD.f G (k + 1) [I6 (fF x), I6 n] [] = some (.tup [.int .i64 0, .bool false], []) := by
    rw [dD.step]
    unfold dD.c
    refine gZ ?_
    by_cases h0 : n < 0
    ·have fx := True.intro
     refine tU ?_
     exact w2 rfl rfl rfl
    ·have h63 : 63 < n := by omega
     have fx := True.intro
     refine tU ?_
     exact w2 rfl rfl rfl
   have r4 : ∀ H, aL (dD.f G (k + 1)) [I6 (fF x), I6 n] H = _ := fun H => aX (H := H) s1 rfl rfl
   refine gZ ?_
   have fx := aHv c1 <| aHv c2 <| r4
   refine tU ?_
   exact w2 rfl rfl rfl
 ·have e : wG op n x y = (0, false) := by
   unfold wG
   rw [if_neg (by omega), if_neg (by omega), if_neg (by omega), if_neg h10]
  rw [e, bU.step]
  unfold bU.c gO
  have c1 := iD x hx
  have c2 := iD y hy
  refine gZ ?_
  have fx := aHv c1 <| c2
  refine tU ?_
  exact w2 rfl rfl rfl
end Go.Proofs.YtcmblhedhgiofaaDoor.Mir
namespace Go.Proofs.YtcmblhedhgiofaaDoor.Mir.SP
open Go
set_option linter.unusedVariables false
set_option linter.unusedSimpArgs false
set_option maxHeartbeats 8000000
set_option maxRecDepth 20000
abbrev Sp (a b : Int) : AV := .agg [.int .i64 a, .int .i64 b]
theorem is_spec (G : aE) (k : Nat) (a b : Int) : cP.f G (k + 1) [Sp a b] [] = some (.bool (decide (a ≤ b)), []) := by kernel_rfl
theorem of4 (G : aE) (k : Nat) (bor : Bool) (lo hi : Int) (a b c d : Bool) : dW.f G (k + 10) [I lo, I hi, .ro bor [.bool a, .bool b, .bool c, .bool d]] [] =
  some (if a && b && c && d then .tup [Sp lo hi, .bool true] else .tup [Sp 0 0, .bool false], []) := by
 cases a <;> cases b <;> cases c <;> cases d <;> kernel_rfl
theorem of6 (G : aE) (k : Nat) (bor : Bool) (lo hi : Int) (a b c d e f : Bool) : dW.f G (k + 10) [I lo, I hi, .ro bor [.bool a, .bool b, .bool c, .bool d, .bool e, .bool f]] [] =
  some (if a && b && c && d && e && f then .tup [Sp lo hi, .bool true] else .tup [Sp 0 0, .bool false], []) := by
 cases a <;> cases b <;> cases c <;> cases d <;> cases e <;> cases f <;> kernel_rfl
def jD (n : Int) : Int := if -9223372036854775808 ≤ n ∧ n < 9223372036854775808 then n else 0
theorem yS (n : Int) : jU n = .tup [I (jD n), .bool (fG n)] := by
 unfold jU jD fG; split <;> rename_i h <;> simp [h]
def spanS (p : Bool) (lo hi : Int) : AV := if p then .tup [Sp lo hi, .bool true] else .tup [Sp 0 0, .bool false]
theorem aAp (G : aE) (k : Nat) (lo hi : Int) (a b c d : Bool) (H : aB) : aL (dW.f G (k + 10)) [I lo, I hi, .ro false [.bool a, .bool b, .bool c, .bool d]] H =
  some (spanS (a && b && c && d) lo hi, H) := by
 refine aX (of4 G k false lo hi a b c d) rfl ?_
 unfold spanS; split <;> rfl
theorem aDF (G : aE) (k : Nat) (lo hi : Int) (a b c d e f : Bool) (H : aB) : aL (dW.f G (k + 10)) [I lo, I hi, .ro false [.bool a, .bool b, .bool c, .bool d, .bool e, .bool f]] H =
  some (spanS (a && b && c && d && e && f) lo hi, H) := by
 refine aX (of6 G k false lo hi a b c d e f) rfl ?_
 unfold spanS; split <;> rfl
theorem lA {n : Int} (h : fG n = true) : jD n = n := by
 unfold fG at h; unfold jD; simp at h; rw [if_pos h]
theorem iH (a b : Int) (p : Bool) (H : aB) : cT [Sp a b, .bool p] 0 H = some (.ret, [.tup [Sp a b, .bool p]], []) := gU rfl rfl H
theorem mJ (a b : Int) (H : aB) : cT [Sp a b] 0 H = some (.ret, [Sp a b], []) := lV rfl H
theorem add_spec (G : aE) (k : Nat) (a b c d : Int) (ha : Rg a) (hb : Rg b) (hc : Rg c) (hd : Rg d) : eA.f G (k + 20) [Sp a b, Sp c d] [] =
  some (spanS (decide (a ≤ b) && decide (c ≤ d) && fG (a + c) && fG (b + d)) (a + c) (b + d), []) := by
 have s1 := rI G (k + 18) a c ha hc
 have s2 := rI G (k + 18) b d hb hd
 have i1 := is_spec G (k + 18) a b
 have i2 := is_spec G (k + 18) c d
 have o := aAp G (k + 9) (jD (a + c)) (jD (b + d)) (decide (a ≤ b)) (decide (c ≤ d)) (fG (a + c)) (fG (b + d))
 rw [yS] at s1 s2
 rw [eA.step]
 unfold eA.c
 have r1 : ∀ H, aL (dI.f G (k + 19)) [I a, I c] H = _ := fun H => aX (H := H) s1 rfl rfl
 have r2 : ∀ H, aL (dI.f G (k + 19)) [I b, I d] H = _ := fun H => aX (H := H) s2 rfl rfl
 have r3 : ∀ H, aL (cP.f G (k + 19)) [Sp a b] H = _ := fun H => aX (H := H) i1 rfl rfl
 have r4 : ∀ H, aL (cP.f G (k + 19)) [Sp c d] H = _ := fun H => aX (H := H) i2 rfl rfl
 have r5 : ∀ H, aL (dW.f G (k + 19)) [I (jD (a + c)), I (jD (b + d)), .ro false [.bool (decide (a ≤ b)), .bool (decide (c ≤ d)), .bool (fG (a + c)), .bool (fG (b + d))]] H = _ := o
 simp [bC, dC, aA, aC, cU, aT, AV.cells, aG, r1, r2, r3, r4, r5, aZ, cH]
 cases hp : (decide (a ≤ b) && decide (c ≤ d) && fG (a + c) && fG (b + d))
 ·simp [spanS, dY, aN, aT, AV.cells, bZ, dH, fT, bH, iH]
 ·have h1 : fG (a + c) = true := by simp only [Bool.and_eq_true] at hp; exact hp.1.2
  have h2 : fG (b + d) = true := by simp only [Bool.and_eq_true] at hp; exact hp.2
  simp [spanS, dY, aN, aT, AV.cells, bZ, dH, fT, bH, iH, lA h1, lA h2]
theorem sub_spec (G : aE) (k : Nat) (a b c d : Int) (ha : Rg a) (hb : Rg b) (hc : Rg c) (hd : Rg d) : eH.f G (k + 20) [Sp a b, Sp c d] [] =
  some (spanS (decide (a ≤ b) && decide (c ≤ d) && fG (a - d) && fG (b - c)) (a - d) (b - c), []) := by
 have s1 := nW G (k + 18) a d ha hd
 have s2 := nW G (k + 18) b c hb hc
 have i1 := is_spec G (k + 18) a b
 have i2 := is_spec G (k + 18) c d
 have o := aAp G (k + 9) (jD (a - d)) (jD (b - c)) (decide (a ≤ b)) (decide (c ≤ d)) (fG (a - d)) (fG (b - c))
 rw [yS] at s1 s2
 rw [eH.step]
 unfold eH.c
 have r1 : ∀ H, aL (dA.f G (k + 19)) [I a, I d] H = _ := fun H => aX (H := H) s1 rfl rfl
 have r2 : ∀ H, aL (dA.f G (k + 19)) [I b, I c] H = _ := fun H => aX (H := H) s2 rfl rfl
 have r3 : ∀ H, aL (cP.f G (k + 19)) [Sp a b] H = _ := fun H => aX (H := H) i1 rfl rfl
 have r4 : ∀ H, aL (cP.f G (k + 19)) [Sp c d] H = _ := fun H => aX (H := H) i2 rfl rfl
 have r5 : ∀ H, aL (dW.f G (k + 19)) [I (jD (a - d)), I (jD (b - c)), .ro false [.bool (decide (a ≤ b)), .bool (decide (c ≤ d)), .bool (fG (a - d)), .bool (fG (b - c))]] H = _ := o
 simp [bC, dC, aA, aC, cU, aT, AV.cells, aG, r1, r2, r3, r4, r5, aZ, cH]
 cases hp : (decide (a ≤ b) && decide (c ≤ d) && fG (a - d) && fG (b - c))
 ·simp [spanS, dY, aN, aT, AV.cells, bZ, dH, fT, bH, iH]
 ·have h1 : fG (a - d) = true := by simp only [Bool.and_eq_true] at hp; exact hp.1.2
  have h2 : fG (b - c) = true := by simp only [Bool.and_eq_true] at hp; exact hp.2
  simp [spanS, dY, aN, aT, AV.cells, bZ, dH, fT, bH, iH, lA h1, lA h2]
theorem aGV (a b c d : Int) : iY pC (I a) [I b, I c, I d] = some (I (min a (min b (min c d)))) := by
 have h : ∀ x y : Int, (if y < x then y else x) = min x y := fun x y => by split <;> omega
 simp only [iY, pC, Option.bind_some, h, Int.min_assoc]
theorem aGU (a b c d : Int) : iY qT (I a) [I b, I c, I d] = some (I (max a (max b (max c d)))) := by
 have h : ∀ x y : Int, (if y > x then y else x) = max x y := fun x y => by split <;> omega
 simp only [iY, qT, Option.bind_some, h, Int.max_assoc]
theorem mul_spec (G : aE) (k : Nat) (a b c d : Int) (ha : Rg a) (hb : Rg b) (hc : Rg c) (hd : Rg d) : dP.f G (k + 20) [Sp a b, Sp c d] [] =
  some (spanS (decide (a ≤ b) && decide (c ≤ d) && fG (a * c) && fG (a * d) && fG (b * c) && fG (b * d)) (min (a * c) (min (a * d) (min (b * c) (b * d)))) (max (a * c) (max (a * d) (max (b * c) (b * d)))), []) := by
 have s1 := kG G (k + 18) a c ha hc
 have s2 := kG G (k + 18) a d ha hd
 have s3 := kG G (k + 18) b c hb hc
 have s4 := kG G (k + 18) b d hb hd
 have i1 := is_spec G (k + 18) a b
 have i2 := is_spec G (k + 18) c d
 have o := aDF G (k + 9) (min (jD (a * c)) (min (jD (a * d)) (min (jD (b * c)) (jD (b * d))))) (max (jD (a * c)) (max (jD (a * d)) (max (jD (b * c)) (jD (b * d))))) (decide (a ≤ b)) (decide (c ≤ d)) (fG (a * c)) (fG (a * d)) (fG (b * c)) (fG (b * d))
 rw [yS] at s1 s2 s3 s4
 rw [dP.step]
 unfold dP.c
 have r1 : ∀ H, aL (bJ.f G (k + 19)) [I a, I c] H = _ := fun H => aX (H := H) s1 rfl rfl
 have r2 : ∀ H, aL (bJ.f G (k + 19)) [I a, I d] H = _ := fun H => aX (H := H) s2 rfl rfl
 have r3 : ∀ H, aL (bJ.f G (k + 19)) [I b, I c] H = _ := fun H => aX (H := H) s3 rfl rfl
 have r4 : ∀ H, aL (bJ.f G (k + 19)) [I b, I d] H = _ := fun H => aX (H := H) s4 rfl rfl
 have r5 : ∀ H, aL (cP.f G (k + 19)) [Sp a b] H = _ := fun H => aX (H := H) i1 rfl rfl
 have r6 : ∀ H, aL (cP.f G (k + 19)) [Sp c d] H = _ := fun H => aX (H := H) i2 rfl rfl
 have r7 : ∀ H, aL (dW.f G (k + 19)) [I (min (jD (a * c)) (min (jD (a * d)) (min (jD (b * c)) (jD (b * d))))), I (max (jD (a * c)) (max (jD (a * d)) (max (jD (b * c)) (jD (b * d))))), .ro false [.bool (decide (a ≤ b)), .bool (decide (c ≤ d)), .bool (fG (a * c)), .bool (fG (a * d)), .bool (fG (b * c)), .bool (fG (b * d))]] H = _ := o
 clear o s1 s2 s3 s4 i1 i2
 simp [bC, dC, aA, aC, cU, aT, AV.cells, aG, r1, r2, r3, r4, r5, r6, aGV, aGU]
 simp [aZ, cH, aT, AV.cells, r7]
 cases hp : (decide (a ≤ b) && decide (c ≤ d) && fG (a * c) && fG (a * d) && fG (b * c) && fG (b * d))
 ·simp [spanS, dY, aN, aT, AV.cells, bZ, dH, fT, bH, iH, aG, aC, cU]
 ·simp only [Bool.and_eq_true] at hp
  simp [spanS, dY, aN, aT, AV.cells, bZ, dH, fT, bH, iH, aG, aC, cU, lA hp.1.1.1.2, lA hp.1.1.2, lA hp.1.2, lA hp.2]
def joinV (a b c d : Int) : AV := if decide (a ≤ b) && decide (c ≤ d) then Sp (min a c) (max b d) else Sp 0 0
theorem aDD (a b : Int) : iY pC (I a) [I b] = some (I (min a b)) := by
 have h : ∀ x y : Int, (if y < x then y else x) = min x y := fun x y => by split <;> omega
 simp only [iY, pC, Option.bind_some, h]
theorem join_spec (G : aE) (k : Nat) (a b c d : Int) : dM.f G (k + 20) [Sp a b, Sp c d] [] = some (joinV a b c d, []) := by
 have r1 : ∀ H, aL (cP.f G (k + 19)) [Sp a b] H = _ := fun H => aX (H := H) (is_spec G (k + 18) a b) rfl rfl
 have r2 : ∀ H, aL (cP.f G (k + 19)) [Sp c d] H = _ := fun H => aX (H := H) (is_spec G (k + 18) c d) rfl rfl
 rw [dM.step]
 unfold dM.c joinV
 cases h1 : decide (a ≤ b) <;> cases h2 : decide (c ≤ d) <;>
  simp [bC, dC, aA, aC, cU, aT, AV.cells, r1, r2, h1, h2, aU, cQ, dY, aN, bZ, dH, fT, bH, mJ, aDD]
theorem aGv (k : Nat) (h : k ≤ 62) : (2 : Int) ^ k = ((2 ^ k : Nat) : Int) ∧ 1 ≤ (2 : Int) ^ k ∧ (2 : Int) ^ k ≤ 4611686018427387904 := by
 have h1 : 2 ^ k ≤ 2 ^ 62 := Nat.pow_le_pow_right (by decide) h
 have h2 := Nat.two_pow_pos k
 have e : (2 : Int) ^ k = ((2 ^ k : Nat) : Int) := by push_cast; rfl
 rw [e]
 refine ⟨rfl, by omega, by omega⟩
def shlV (a b k : Int) : AV := if k < 0 ∨ 62 < k then .tup [Sp 0 0, .bool false] else
 spanS (decide (a ≤ b) && fG (a * 2 ^ k.toNat) && fG (b * 2 ^ k.toNat)) (a * 2 ^ k.toNat) (b * 2 ^ k.toNat)
theorem shl_spec (G : aE) (j : Nat) (a b k : Int) (ha : Rg a) (hb : Rg b) : eG.f G (j + 30) [Sp a b, I k] [] = some (shlV a b k, []) := by
 rw [eG.step]
 unfold eG.c shlV
 by_cases h1 : k < 0
 ·rw [if_pos (.inl h1)]
  repeat first
   | refine oB (by first | (with_reducible exact rfl) | (simp [aQ, bC, dC, aA, aC, cU, aT, AV.cells, aG, aZ, aW, cH, aU, cQ, dY, aN, bZ, dH, bO, cS, aF, aV, bH, h1]; first | done | (with_reducible exact rfl) | (with_reducible exact ⟨rfl, rfl⟩))) ?_
   | refine lB (by first | (with_reducible exact rfl) | (simp [aQ, bC, dC, aA, aC, cU, aT, AV.cells, aG, aZ, aW, cH, aU, cQ, dY, aN, bZ, dH, bO, cS, aF, aV, bH, h1]; first | done | (with_reducible exact rfl) | (with_reducible exact ⟨rfl, rfl⟩))) ?_
   | refine oT ?_
   | refine oN ?_
   | refine oX ?_
   | refine hZ ?_
   | refine iA ?_
   | exact oF (aY ..)
   | apply oK
   | refine lT ?_
   | refine lN ?_
   | refine lX ?_
   | refine hU ?_
   | refine hY ?_
   | apply lK
   | refine oI ?_
   | refine oJ rfl ?_
   | refine lI ?_
   | refine lJ rfl ?_
   | (with_reducible exact rfl)
  refine oF ?_
  simp [aQ, bC, dC, aA, aC, cU, aT, AV.cells, aG, aZ, aW, cH, aU, cQ, dY, aN, bZ, dH, bO, cS, aF, aV, bH, fT, iH]
 by_cases h2 : 62 < k
 ·rw [if_pos (.inr h2)]
  repeat first
   | refine oB (by first | (with_reducible exact rfl) | (simp [aQ, bC, dC, aA, aC, cU, aT, AV.cells, aG, aZ, aW, cH, aU, cQ, dY, aN, bZ, dH, bO, cS, aF, aV, bH, h1, h2]; first | done | (with_reducible exact rfl) | (with_reducible exact ⟨rfl, rfl⟩))) ?_
   | refine lB (by first | (with_reducible exact rfl) | (simp [aQ, bC, dC, aA, aC, cU, aT, AV.cells, aG, aZ, aW, cH, aU, cQ, dY, aN, bZ, dH, bO, cS, aF, aV, bH, h1, h2]; first | done | (with_reducible exact rfl) | (with_reducible exact ⟨rfl, rfl⟩))) ?_
   | refine oT ?_
   | refine oN ?_
   | refine oX ?_
   | refine hZ ?_
   | refine iA ?_
   | exact oF (aY ..)
   | apply oK
   | refine lT ?_
   | refine lN ?_
   | refine lX ?_
   | refine hU ?_
   | refine hY ?_
   | apply lK
   | refine oI ?_
   | refine oJ rfl ?_
   | refine lI ?_
   | refine lJ rfl ?_
   | (with_reducible exact rfl)
  refine oF ?_
  simp [aQ, bC, dC, aA, aC, cU, aT, AV.cells, aG, aZ, aW, cH, aU, cQ, dY, aN, bZ, dH, bO, cS, aF, aV, bH, fT, iH]
 rw [if_neg (by omega)]
 obtain ⟨n, rfl⟩ : ∃ n : Nat, k = n := ⟨k.toNat, by omega⟩
 obtain ⟨e1, e2, e3⟩ := aGv n (by omega)
 have c1 : bE Tryd.prog .shl 2 false (.int .i64 1) (.int .i64 (n : Int)) = some (I (2 ^ n)) := by
  rw [xZ _ _ _ _ _ _ _ (Int.natCast_nonneg n)]
  have e : min ((n : Int)).toNat IntKind.i64.bits = n := by rw [Int.toNat_natCast]; exact Nat.min_eq_left (by have : IntKind.i64.bits = 64 := rfl; omega)
  rw [e, Int.one_mul, dJ (by omega) (by omega)]
 have c1' : bE Tryd.prog .shl 2 true (.int .i64 1) (.int .i64 (n : Int)) = some (I (2 ^ n)) := c1
 have s : ((n : Int)).toNat = n := Int.toNat_natCast n
 rw [s]
 have m := mul_spec G (j + 9) a b (2 ^ n) (2 ^ n) ha hb ⟨by omega, by omega⟩ ⟨by omega, by omega⟩
 have e4 : (decide (a ≤ b) && decide ((2 : Int) ^ n ≤ 2 ^ n) && fG (a * 2 ^ n) && fG (a * 2 ^ n) && fG (b * 2 ^ n) && fG (b * 2 ^ n)) = (decide (a ≤ b) && fG (a * 2 ^ n) && fG (b * 2 ^ n)) := by
  rw [decide_eq_true (Int.le_refl _), Bool.and_true, Bool.and_assoc (decide (a ≤ b)), Bool.and_self, Bool.and_assoc _ (fG (b * 2 ^ n)), Bool.and_self]
 rw [e4] at m
 have hm : ∀ H, aL (dP.f G (j + 29)) [Sp a b, Sp (2 ^ n) (2 ^ n)] H = some (spanS (decide (a ≤ b) && fG (a * 2 ^ n) && fG (b * 2 ^ n)) (a * 2 ^ n) (b * 2 ^ n), H) := fun H => by
  by_cases hab : a ≤ b
  ·have h3 : a * 2 ^ n ≤ b * 2 ^ n := Int.mul_le_mul_of_nonneg_right hab (by omega)
   have e5 : min (a * 2 ^ n) (min (a * 2 ^ n) (min (b * 2 ^ n) (b * 2 ^ n))) = a * 2 ^ n := by omega
   have e6 : max (a * 2 ^ n) (max (a * 2 ^ n) (max (b * 2 ^ n) (b * 2 ^ n))) = b * 2 ^ n := by omega
   rw [e5, e6] at m
   exact aX m rfl (by unfold spanS; split <;> rfl)
  ·rw [decide_eq_false hab, Bool.false_and, Bool.false_and] at m ⊢
   exact aX m rfl rfl
 generalize (decide (a ≤ b) && fG (a * 2 ^ n) && fG (b * 2 ^ n)) = p at hm
 generalize (2 : Int) ^ n = w at c1 c1' hm
 have h1' : ¬ ((n : Int) < 0) := h1
 cases p <;>
  simp [aQ, bC, dC, aA, aC, cU, aT, AV.cells, aG, aZ, aW, cH, aU, cQ, dY, aN, bZ, dH, bO, cS, aF, aV, bH, h1, h2, c1, c1', hm, spanS, fT, iH]
def sarV (a b k : Int) : AV := if b < a ∨ k < 0 ∨ 63 < k then Sp 0 0 else Sp (a.fdiv (2 ^ k.toNat)) (b.fdiv (2 ^ k.toNat))
theorem sar_spec (G : aE) (j : Nat) (a b k : Int) : eF.f G (j + 30) [Sp a b, I k] [] = some (sarV a b k, []) := by
 have r1 : ∀ H, aL (cP.f G (j + 29)) [Sp a b] H = _ := fun H => aX (H := H) (is_spec G (j + 28) a b) rfl rfl
 rw [eF.step]
 unfold eF.c sarV
 by_cases h0 : b < a
 ·have h0' : decide (a ≤ b) = false := decide_eq_false (by omega)
  rw [if_pos (.inl h0)]
  simp only [h0'] at r1
  repeat first
   | refine oB (by first | (with_reducible exact rfl) | (simp [aQ, bC, dC, aA, aC, cU, aT, AV.cells, aG, aZ, aW, cH, aU, cQ, dY, aN, bZ, dH, bO, cS, aF, aV, bH, r1]; first | done | (with_reducible exact rfl) | (with_reducible exact ⟨rfl, rfl⟩))) ?_
   | refine lB (by first | (with_reducible exact rfl) | (simp [aQ, bC, dC, aA, aC, cU, aT, AV.cells, aG, aZ, aW, cH, aU, cQ, dY, aN, bZ, dH, bO, cS, aF, aV, bH, r1]; first | done | (with_reducible exact rfl) | (with_reducible exact ⟨rfl, rfl⟩))) ?_
   | refine oT ?_
   | refine oN ?_
   | refine oX ?_
   | refine hZ ?_
   | refine iA ?_
   | exact oF (aY ..)
   | apply oK
   | refine lT ?_
   | refine lN ?_
   | refine lX ?_
   | refine hU ?_
   | refine hY ?_
   | apply lK
   | refine oI ?_
   | refine oJ rfl ?_
   | refine lI ?_
   | refine lJ rfl ?_
   | (with_reducible exact rfl)
  refine oF ?_
  simp [aQ, bC, dC, aA, aC, cU, aT, AV.cells, aG, aZ, aW, cH, aU, cQ, dY, aN, bZ, dH, bO, cS, aF, aV, bH, fT, mJ]
 have h0' : decide (a ≤ b) = true := decide_eq_true (by omega)
 simp only [h0'] at r1
 by_cases h1 : k < 0
 ·rw [if_pos (.inr (.inl h1))]
  repeat first
   | refine oB (by first | (with_reducible exact rfl) | (simp [aQ, bC, dC, aA, aC, cU, aT, AV.cells, aG, aZ, aW, cH, aU, cQ, dY, aN, bZ, dH, bO, cS, aF, aV, bH, r1, h1]; first | done | (with_reducible exact rfl) | (with_reducible exact ⟨rfl, rfl⟩))) ?_
   | refine lB (by first | (with_reducible exact rfl) | (simp [aQ, bC, dC, aA, aC, cU, aT, AV.cells, aG, aZ, aW, cH, aU, cQ, dY, aN, bZ, dH, bO, cS, aF, aV, bH, r1, h1]; first | done | (with_reducible exact rfl) | (with_reducible exact ⟨rfl, rfl⟩))) ?_
   | refine oT ?_
   | refine oN ?_
   | refine oX ?_
   | refine hZ ?_
   | refine iA ?_
   | exact oF (aY ..)
   | apply oK
   | refine lT ?_
   | refine lN ?_
   | refine lX ?_
   | refine hU ?_
   | refine hY ?_
   | apply lK
   | refine oI ?_
   | refine oJ rfl ?_
   | refine lI ?_
   | refine lJ rfl ?_
   | (with_reducible exact rfl)
  refine oF ?_
  simp [aQ, bC, dC, aA, aC, cU, aT, AV.cells, aG, aZ, aW, cH, aU, cQ, dY, aN, bZ, dH, bO, cS, aF, aV, bH, fT, mJ]
 by_cases h2 : 63 < k
 ·rw [if_pos (.inr (.inr h2))]
  repeat first
   | refine oB (by first | (with_reducible exact rfl) | (simp [aQ, bC, dC, aA, aC, cU, aT, AV.cells, aG, aZ, aW, cH, aU, cQ, dY, aN, bZ, dH, bO, cS, aF, aV, bH, r1, h1, h2]; first | done | (with_reducible exact rfl) | (with_reducible exact ⟨rfl, rfl⟩))) ?_
   | refine lB (by first | (with_reducible exact rfl) | (simp [aQ, bC, dC, aA, aC, cU, aT, AV.cells, aG, aZ, aW, cH, aU, cQ, dY, aN, bZ, dH, bO, cS, aF, aV, bH, r1, h1, h2]; first | done | (with_reducible exact rfl) | (with_reducible exact ⟨rfl, rfl⟩))) ?_
   | refine oT ?_
   | refine oN ?_
   | refine oX ?_
   | refine hZ ?_
   | refine iA ?_
   | exact oF (aY ..)
   | apply oK
   | refine lT ?_
   | refine lN ?_
   | refine lX ?_
   | refine hU ?_
   | refine hY ?_
   | apply lK
   | refine oI ?_
   | refine oJ rfl ?_
   | refine lI ?_
   | refine lJ rfl ?_
   | (with_reducible exact rfl)
  refine oF ?_
  simp [aQ, bC, dC, aA, aC, cU, aT, AV.cells, aG, aZ, aW, cH, aU, cQ, dY, aN, bZ, dH, bO, cS, aF, aV, bH, fT, mJ]
 rw [if_neg (by omega)]
 have e : min k.toNat IntKind.i64.bits = k.toNat := Nat.min_eq_left (by have : IntKind.i64.bits = 64 := rfl; omega)
 have c1 : bE Tryd.prog .shr 2 false (.int .i64 a) (.int .i64 k) = some (I (a.fdiv (2 ^ k.toNat))) := by
  rw [pZ _ _ _ _ _ _ _ (by omega), e]
 have c2 : bE Tryd.prog .shr 2 false (.int .i64 b) (.int .i64 k) = some (I (b.fdiv (2 ^ k.toNat))) := by
  rw [pZ _ _ _ _ _ _ _ (by omega), e]
 repeat first
  | refine oB (by first | (with_reducible exact rfl) | (simp [aQ, bC, dC, aA, aC, cU, aT, AV.cells, aG, aZ, aW, cH, aU, cQ, dY, aN, bZ, dH, bO, cS, aF, aV, bH, r1, h1, h2, c1, c2]; first | done | (with_reducible exact rfl) | (with_reducible exact ⟨rfl, rfl⟩))) ?_
  | refine lB (by first | (with_reducible exact rfl) | (simp [aQ, bC, dC, aA, aC, cU, aT, AV.cells, aG, aZ, aW, cH, aU, cQ, dY, aN, bZ, dH, bO, cS, aF, aV, bH, r1, h1, h2, c1, c2]; first | done | (with_reducible exact rfl) | (with_reducible exact ⟨rfl, rfl⟩))) ?_
  | refine oT ?_
  | refine oN ?_
  | refine oX ?_
  | refine hZ ?_
  | refine iA ?_
  | exact oF (aY ..)
  | apply oK
  | refine lT ?_
  | refine lN ?_
  | refine lX ?_
  | refine hU ?_
  | refine hY ?_
  | apply lK
  | refine oI ?_
  | refine oJ rfl ?_
  | refine lI ?_
  | refine lJ rfl ?_
  | (with_reducible exact rfl)
 refine oF ?_
 simp [aQ, bC, dC, aA, aC, cU, aT, AV.cells, aG, aZ, aW, cH, aU, cQ, dY, aN, bZ, dH, bO, cS, aF, aV, bH, fT, mJ]
def andV (a b c d : Int) : AV :=
 if decide (a ≤ b) && decide (c ≤ d) then (if 0 ≤ a ∧ 0 ≤ c then Sp 0 (min b d) else if 0 ≤ a then Sp 0 b else if 0 ≤ c then Sp 0 d else Sp (-9223372036854775808) 9223372036854775807) else Sp 0 0
theorem all_spec (G : aE) (j : Nat) : eP.f G (j + 1) [] [] = some (Sp (-9223372036854775808) 9223372036854775807, []) := by kernel_rfl
theorem and_spec (G : aE) (j : Nat) (a b c d : Int) : eD.f G (j + 30) [Sp a b, Sp c d] [] = some (andV a b c d, []) := by
 have r1 : ∀ H, aL (cP.f G (j + 29)) [Sp a b] H = _ := fun H => aX (H := H) (is_spec G (j + 28) a b) rfl rfl
 have r2 : ∀ H, aL (cP.f G (j + 29)) [Sp c d] H = _ := fun H => aX (H := H) (is_spec G (j + 28) c d) rfl rfl
 have r3 : ∀ H, aL (eP.f G (j + 29)) [] H = _ := fun H => aX (H := H) (all_spec G (j + 28)) rfl rfl
 rw [eD.step]
 unfold eD.c andV
 cases h1 : decide (a ≤ b) <;> cases h2 : decide (c ≤ d) <;> simp only [h1, h2] at r1 r2
 case true.true =>
  by_cases h3 : 0 ≤ a <;> by_cases h4 : 0 ≤ c
  all_goals repeat first
   | refine oB (by first | (with_reducible exact rfl) | (simp [aQ, bC, dC, aA, aC, cU, aT, AV.cells, aG, aZ, aW, cH, aU, cQ, dY, aN, bZ, dH, bO, cS, aF, aV, bH, r1, r2, r3, h3, h4, aDD]; first | done | (with_reducible exact rfl) | (with_reducible exact ⟨rfl, rfl⟩))) ?_
   | refine lB (by first | (with_reducible exact rfl) | (simp [aQ, bC, dC, aA, aC, cU, aT, AV.cells, aG, aZ, aW, cH, aU, cQ, dY, aN, bZ, dH, bO, cS, aF, aV, bH, r1, r2, r3, h3, h4, aDD]; first | done | (with_reducible exact rfl) | (with_reducible exact ⟨rfl, rfl⟩))) ?_
   | refine oT ?_
   | refine oN ?_
   | refine oX ?_
   | refine hZ ?_
   | refine iA ?_
   | exact oF (aY ..)
   | apply oK
   | refine lT ?_
   | refine lN ?_
   | refine lX ?_
   | refine hU ?_
   | refine hY ?_
   | apply lK
   | refine oI ?_
   | refine oJ rfl ?_
   | refine lI ?_
   | refine lJ rfl ?_
   | (with_reducible exact rfl)
  all_goals refine oF ?_
  all_goals simp [aQ, bC, dC, aA, aC, cU, aT, AV.cells, aG, aZ, aW, cH, aU, cQ, dY, aN, bZ, dH, bO, cS, aF, aV, bH, fT, mJ, h3, h4]
 all_goals repeat first
  | refine oB (by first | (with_reducible exact rfl) | (simp [aQ, bC, dC, aA, aC, cU, aT, AV.cells, aG, aZ, aW, cH, aU, cQ, dY, aN, bZ, dH, bO, cS, aF, aV, bH, r1, r2]; first | done | (with_reducible exact rfl) | (with_reducible exact ⟨rfl, rfl⟩))) ?_
  | refine lB (by first | (with_reducible exact rfl) | (simp [aQ, bC, dC, aA, aC, cU, aT, AV.cells, aG, aZ, aW, cH, aU, cQ, dY, aN, bZ, dH, bO, cS, aF, aV, bH, r1, r2]; first | done | (with_reducible exact rfl) | (with_reducible exact ⟨rfl, rfl⟩))) ?_
  | refine oT ?_
  | refine oN ?_
  | refine oX ?_
  | refine hZ ?_
  | refine iA ?_
  | exact oF (aY ..)
  | apply oK
  | refine lT ?_
  | refine lN ?_
  | refine lX ?_
  | refine hU ?_
  | refine hY ?_
  | apply lK
  | refine oI ?_
  | refine oJ rfl ?_
  | refine lI ?_
  | refine lJ rfl ?_
  | (with_reducible exact rfl)
 all_goals refine oF ?_
 all_goals simp [aQ, bC, dC, aA, aC, cU, aT, AV.cells, aG, aZ, aW, cH, aU, cQ, dY, aN, bZ, dH, bO, cS, aF, aV, bH, fT, mJ]
end Go.Proofs.YtcmblhedhgiofaaDoor.Mir.SP
namespace Go.Proofs.YtcmblhedhgiofaaDoor.Mir
open Go
set_option linter.unusedSimpArgs false
set_option linter.unusedVariables false
structure Ins where
 op : Int
 d : Int
 a : Int
 b : Int
 c : Int
 k : Int
def Ins.v (i : Ins) : AV := gO i.op i.d i.a i.b i.c i.k
instance : Inhabited Ins := ⟨⟨0, 0, 0, 0, 0, 0⟩⟩
structure MS where
 regs : List Nat
 at_ : Nat
 code : Int
 mem : List Nat
 leaks : List (Int × Int)
 steps : Nat
def dE (l : List Nat) : List AV := l.map fun n => Un n
def bW (p : Int × Int) : AV := .agg [I6 p.1, I6 p.2]
def bD (l : List (Int × Int)) : List AV := l.map bW
def dB (cs : List Ins) : List AV := cs.map Ins.v
theorem fU (l : List Nat) : (dE l).length = l.length := by simp [dE]
theorem dL (l : List (Int × Int)) : (bD l).length = l.length := by simp [bD]
theorem fS (l : List Ins) : (dB l).length = l.length := by simp [dB]
theorem jT (n : Nat) (l : List Nat) : bS n (dE l) = true := mH n _ (fun _ => rfl) l
theorem fN (n : Nat) (l : List (Int × Int)) : bS n (bD l) = true := mH n _ (fun _ => rfl) l
theorem fI (n : Nat) (l : List Ins) : bS n (dB l) = true := mH n _ (fun _ => rfl) l
def MS.leak (s : MS) (kind at_ : Int) : MS := { s with leaks := s.leaks ++ [(kind, at_)] }
def MS.rg (s : MS) (i : Int) : Nat := s.regs.getD i.toNat 0
def MS.set (s : MS) (i : Int) (n : Nat) : MS := { s with regs := s.regs.set i.toNat n }
def MS.touch (s : MS) (i : Ins) : MS × Bool :=
 let ad := (s.rg i.a + u64 i.k) % 18446744073709551616
 let s1 := s.leak 3 (fF ad)
 if s.mem.length ≤ ad then ({ s1 with code := 3 }, false)
 else if i.op = 15 then (s1.set i.d (s.mem.getD ad 0), true)
 else ({ s1 with mem := s.mem.set ad (s.rg i.b) }, true)
def MS.branch (s : MS) (i : Ins) : MS :=
 if i.op = 17 then { s with at_ := i.k.toNat }
 else if (decide (s.rg i.a = 0) == decide (i.op = 18)) = true then { s.leak 2 1 with at_ := i.k.toNat }
 else s.leak 2 0
def MS.step (s : MS) (i : Ins) : MS × Bool :=
 let s := { s with at_ := s.at_ + 1 }
 if i.op = 15 ∨ i.op = 16 then s.touch i
 else if i.op = 17 ∨ i.op = 18 ∨ i.op = 19 then (s.branch i, true)
 else if i.op = 20 then ({ s with code := i.k }, false)
 else if (gJ i.op i.k (s.rg i.a) (s.rg i.b) (s.rg i.c)).2 = true then (s.set i.d (gJ i.op i.k (s.rg i.a) (s.rg i.b) (s.rg i.c)).1, true)
 else (s, true)
def fM (p0 : ABlk) (bor : Bool) (cs : List Ins) (R M : Int) (s : MS) : aB :=
 [p0, ⟨40, 4, [.agg [.int .i64 0, .nils, .nils, .int .i64 0]]⟩, ⟨48, 1, dE s.regs⟩,
  ⟨126, 9, [.agg [.ro bor (dB cs), I6 R, I6 M, .sl 2 s.regs.length 0 s.regs.length 1, Nn s.at_, I6 s.code, .sl 5 s.mem.length 0 s.mem.length 1, .sl 6 s.leaks.length 0 s.leaks.length 2, Nn s.steps]]⟩,
  ⟨48, 1, []⟩, ⟨48, 1, dE s.mem⟩, ⟨96, 2, bD s.leaks⟩]
section
variable (G : aE) (p0 : ABlk) (bor : Bool) (cs : List Ins) (R M : Int) (s : MS)
abbrev PX : AV := .ptr 3 1 0 0
theorem mK : (fM p0 bor cs R M s).length = 7 := rfl
theorem cF : gH PX = some PX := rfl
theorem qG : aA 3 PX = some (.ptr 3 1 0 3) := rfl
theorem jO : aA 4 PX = some (.ptr 3 1 0 4) := rfl
theorem qH : aA 5 PX = some (.ptr 3 1 0 5) := rfl
theorem jX : aA 0 (.ptr 3 1 0 5) = some (.ptr 3 1 0 5) := rfl
theorem rN : aA 1 (.ptr 3 1 0 5) = some (.ptr 3 1 0 6) := rfl
theorem aDo : aA 2 (.ptr 3 1 0 5) = some (.ptr 3 1 0 7) := rfl
theorem aBd : aA 3 (.ptr 3 1 0 5) = some (.ptr 3 1 0 8) := rfl
theorem sH : aC G false 1 (.ptr 3 1 0 3) (fM p0 bor cs R M s) = some (.sl 2 s.regs.length 0 s.regs.length 1) := rfl
theorem ld4 : aC G false 1 (.ptr 3 1 0 4) (fM p0 bor cs R M s) = some (Nn s.at_) := rfl
theorem ld6 : aC G false 1 (.ptr 3 1 0 6) (fM p0 bor cs R M s) = some (.sl 5 s.mem.length 0 s.mem.length 1) := rfl
theorem ld7 : aC G false 1 (.ptr 3 1 0 7) (fM p0 bor cs R M s) = some (.sl 6 s.leaks.length 0 s.leaks.length 2) := rfl
theorem ld8 : aC G false 1 (.ptr 3 1 0 8) (fM p0 bor cs R M s) = some (Nn s.steps) := rfl
theorem st4 (n : Nat) : dY (aN 1 (.ptr 3 1 0 4) (Nn n) (fM p0 bor cs R M s)) = some (.tup [], fM p0 bor cs R M { s with at_ := n }) := rfl
theorem st5 (n : Int) : dY (aN 1 (.ptr 3 1 0 5) (I6 n) (fM p0 bor cs R M s)) = some (.tup [], fM p0 bor cs R M { s with code := n }) := rfl
theorem st8 (n : Nat) : dY (aN 1 (.ptr 3 1 0 8) (Nn n) (fM p0 bor cs R M s)) = some (.tup [], fM p0 bor cs R M { s with steps := n }) := rfl
theorem mM (j : Int) (h0 : 0 ≤ j) : aF 1 (.sl 2 s.regs.length 0 s.regs.length 1) (I6 j) = if j < s.regs.length then some (.ptr 2 s.regs.length j.toNat 0) else none := by
 by_cases h : j < s.regs.length
 ·rw [if_pos h]
  have h2 : j.toNat < s.regs.length := by omega
  simp [aF, h0, h]
 ·rw [if_neg h]
  simp [aF, h0, h]
theorem aDz (n : Nat) : aF 1 (.sl 5 s.mem.length 0 s.mem.length 1) (Un n) = if n < s.mem.length then some (.ptr 5 s.mem.length n 0) else none := by
 have h0 : (0 : Int) ≤ (n : Int) := by omega
 by_cases h : n < s.mem.length
 ·have h' : (n : Int) < (s.mem.length : Int) := by omega
  rw [if_pos h]
  simp [aF, h0, h']
 ·have h' : ¬ (n : Int) < (s.mem.length : Int) := by omega
  rw [if_neg h]
  simp [aF, h0, h']
theorem gW (l : List Nat) (j : Nat) (h : j < l.length) : (dE l)[j]? = some (Un (l.getD j 0)) := by
 simp [dE, List.getD, List.getElem?_eq_getElem h]
theorem ldR (j : Nat) (h : j < s.regs.length) : aC G false 1 (.ptr 2 s.regs.length j 0) (fM p0 bor cs R M s) = some (Un (s.regs.getD j 0)) := by
 have e : (fM p0 bor cs R M s)[2]? = some ⟨48, 1, dE s.regs⟩ := rfl
 unfold aC
 simp only [e, fU, gW _ _ h, if_true]
 rfl
theorem ldM (j : Nat) (h : j < s.mem.length) : aC G false 1 (.ptr 5 s.mem.length j 0) (fM p0 bor cs R M s) = some (Un (s.mem.getD j 0)) := by
 have e : (fM p0 bor cs R M s)[5]? = some ⟨48, 1, dE s.mem⟩ := rfl
 unfold aC
 simp only [e, fU, gW _ _ h, if_true]
 rfl
theorem mD (l : List Nat) (j x : Nat) : dE (l.set j x) = (dE l).set j (Un x) := by simp [dE, List.map_set]
theorem stR (j x : Nat) (h : j < s.regs.length) : dY (aN 1 (.ptr 2 s.regs.length j 0) (Un x) (fM p0 bor cs R M s)) = some (.tup [], fM p0 bor cs R M { s with regs := s.regs.set j x }) := by
 have e : (fM p0 bor cs R M s)[2]? = some ⟨48, 1, dE s.regs⟩ := rfl
 unfold aN
 simp only [e, fU, gW _ _ h]
 unfold fM
 simp only [List.length_set, mD]
 rfl
theorem stM (j x : Nat) (h : j < s.mem.length) : dY (aN 1 (.ptr 5 s.mem.length j 0) (Un x) (fM p0 bor cs R M s)) = some (.tup [], fM p0 bor cs R M { s with mem := s.mem.set j x }) := by
 have e : (fM p0 bor cs R M s)[5]? = some ⟨48, 1, dE s.mem⟩ := rfl
 unfold aN
 simp only [e, fU, gW _ _ h]
 unfold fM
 simp only [List.length_set, mD]
 rfl
theorem apL (p : Int × Int) (hl : s.leaks.length ≤ 1000000) : eY 96 2 (.sl 6 s.leaks.length 0 s.leaks.length 2) (.ro false [bW p]) (fM p0 bor cs R M s) =
  some (.sl 6 (s.leaks.length + 1) 0 (s.leaks.length + 1) 2, (fM p0 bor cs R M s).set 6 ⟨96, 2, bD (s.leaks ++ [p])⟩) := by
 have e : (fM p0 bor cs R M s)[6]? = some ⟨96, 2, bD s.leaks⟩ := rfl
 unfold eY
 simp only [e, gE, dL, List.length_singleton]
 rw [if_pos (by refine ⟨?_, ?_, ?_, ?_, ?_⟩ <;> first | trivial | rfl | omega)]
 have e2 : (bD s.leaks).take s.leaks.length = bD s.leaks := List.take_of_length_le (by rw [dL]; exact Nat.le_refl _)
 have e3 : (bD s.leaks).drop (s.leaks.length + 1) = [] := List.drop_of_length_le (by rw [dL]; omega)
 rw [e2, e3, List.append_nil]
 have e4 : bD s.leaks ++ [bW p] = bD (s.leaks ++ [p]) := by simp [bD]
 rw [e4, dL]; simp
theorem stL (p : Int × Int) : dY (aN 1 (.ptr 3 1 0 7) (.sl 6 (s.leaks.length + 1) 0 (s.leaks.length + 1) 2) ((fM p0 bor cs R M s).set 6 ⟨96, 2, bD (s.leaks ++ [p])⟩)) =
  some (.tup [], fM p0 bor cs R M (s.leak p.1 p.2)) := by
 have e : (s.leak p.1 p.2).leaks.length = s.leaks.length + 1 := by simp [MS.leak]
 unfold fM
 rw [e]
 rfl
theorem qL (hp : bS 7 p0.elems = true) : dX 7 (fM p0 bor cs R M s) = true := by
 simp [fM, dX, bS, bX, hp, jT, fN, fI]
theorem pI (hp : bS 7 p0.elems = true) (xs : List AV) (hx : bS 7 xs = true) : gT 7 xs (fM p0 bor cs R M s) = some (fM p0 bor cs R M s) := by
 have e : (fM p0 bor cs R M s).take 7 = fM p0 bor cs R M s := rfl
 unfold gT
 rw [e, hx, qL p0 bor cs R M s hp]; rfl
theorem iX (hp : bS 7 p0.elems = true) : cT [] 7 (fM p0 bor cs R M s) = some (.ret, [.tup []], fM p0 bor cs R M s) := by
 unfold cT
 rw [pI p0 bor cs R M s hp [] rfl]; rfl
theorem fB (hp : bS 7 p0.elems = true) (b : Bool) : cT [.bool b] 7 (fM p0 bor cs R M s) = some (.ret, [.bool b], fM p0 bor cs R M s) := by
 unfold cT
 rw [pI p0 bor cs R M s hp [] rfl]; rfl
theorem jA {g : cY} {args : List AV} {r : AV} {s' : MS} (h : g args (fM p0 bor cs R M s) = some (r, fM p0 bor cs R M s')) : fJ g args (fM p0 bor cs R M s) = some (r, fM p0 bor cs R M s') := by
 unfold fJ; rw [h]; rfl
theorem iI (k : Nat) (hp : bS 7 p0.elems = true) (kind at_ : Int) (hl : s.leaks.length ≤ 1000000) :
  bF.f G (k + 1) [PX, I6 kind, I6 at_] (fM p0 bor cs R M s) = some (.tup [], fM p0 bor cs R M (s.leak kind at_)) := by
 rw [bF.step]
 unfold bF.c
 have c4 : aU [(0, 1), (1, 1)] [(.int .i64 0), (.int .i64 0)] [(0, I6 kind), (1, I6 at_)] = some (bW (kind, at_)) := rfl
 have c5 : ∀ H, aZ 2 1 (.agg [(.int .i64 0), (.int .i64 0)]) [(0, bW (kind, at_))] H = some (.ro false [bW (kind, at_)], H) := fun H => rfl
 have c6 := apL p0 bor cs R M s (kind, at_) hl
 have c7 := stL p0 bor cs R M s (kind, at_)
 simp only [mK]
 repeat first
  | refine oB (by first | (simp only [aQ, aI, aH, cO, cK, cN, cL, cM, aO, aK, bN, cF, qH, aDo, ld7, c4, c5, c6, c7]; first | done | (with_reducible exact rfl) | (with_reducible exact ⟨rfl, rfl⟩)) | (with_reducible exact rfl)) ?_
  | refine lB (by first | (simp only [aQ, aI, aH, cO, cK, cN, cL, cM, aO, aK, bN, cF, qH, aDo, ld7, c4, c5, c6, c7]; first | done | (with_reducible exact rfl) | (with_reducible exact ⟨rfl, rfl⟩)) | (with_reducible exact rfl)) ?_
  | refine oT ?_
  | refine oN ?_
  | refine oX ?_
  | refine hZ ?_
  | refine iA ?_
  | exact oF (aY ..)
  | apply oK
  | refine lT ?_
  | refine lN ?_
  | refine lX ?_
  | refine hU ?_
  | refine hY ?_
  | apply lK
  | refine oI ?_
  | refine oJ rfl ?_
  | refine lI ?_
  | refine lJ rfl ?_
  | (with_reducible exact rfl)
 exact oF (iX p0 bor cs R M _ hp)
end
structure MS.Ok (s : MS) (R : Nat) : Prop where
 len : s.regs.length = R
 regs : ∀ x ∈ s.regs, x < 18446744073709551616
 mem : ∀ x ∈ s.mem, x < 18446744073709551616
 leaks : s.leaks.length ≤ 3 * s.steps
 big : s.mem.length ≤ 1000000
 few : s.steps ≤ 100000
theorem MS.Ok.rg {s : MS} {R : Nat} (h : s.Ok R) (i : Int) : s.rg i < 18446744073709551616 := by
 unfold MS.rg
 rw [List.getD_eq_getElem?_getD]
 cases hq : s.regs[i.toNat]? with
 | none => decide
 | some x => exact h.regs x (List.mem_of_getElem? hq)
theorem MS.Ok.mg {s : MS} {R : Nat} (h : s.Ok R) (i : Nat) : s.mem.getD i 0 < 18446744073709551616 := by
 rw [List.getD_eq_getElem?_getD]
 cases hq : s.mem[i]? with
 | none => decide
 | some x => exact h.mem x (List.mem_of_getElem? hq)
structure Ins.Ok (i : Ins) (R n : Nat) : Prop where
 op : 1 ≤ i.op ∧ i.op ≤ 20
 a : i.op ≠ 17 → i.op ≠ 20 → 0 ≤ i.a ∧ i.a < R
 d : i.op ≤ 16 → 0 ≤ i.d ∧ i.d < R
 b : i.op ≤ 16 → 0 ≤ i.b ∧ i.b < R
 c : i.op ≤ 16 → 0 ≤ i.c ∧ i.c < R
 k : 17 ≤ i.op → i.op ≤ 19 → 0 ≤ i.k ∧ i.k ≤ n
section
variable (G : aE) (p0 : ABlk) (hp : bS 7 p0.elems = true) (bor : Bool) (cs : List Ins) (R : Nat) (M : Int) (s : MS) (i : Ins) (hs : s.Ok R) (hl : s.leaks.length ≤ 999990)
theorem bx (H : aB) : bC i.v H = some (.rp false i.v 0, H) := rfl
theorem gi0 : aA 0 (.rp false i.v 0) = some (.rp false i.v 0) := rfl
theorem gi1 : aA 1 (.rp false i.v 0) = some (.rp false i.v 1) := rfl
theorem gi2 : aA 2 (.rp false i.v 0) = some (.rp false i.v 2) := rfl
theorem gi3 : aA 3 (.rp false i.v 0) = some (.rp false i.v 3) := rfl
theorem gi4 : aA 4 (.rp false i.v 0) = some (.rp false i.v 4) := rfl
theorem gi5 : aA 5 (.rp false i.v 0) = some (.rp false i.v 5) := rfl
theorem gl0 (H : aB) : aC G false 1 (.rp false i.v 0) H = some (I6 i.op) := rfl
theorem gl1 (H : aB) : aC G false 1 (.rp false i.v 1) H = some (I6 i.d) := rfl
theorem gl2 (H : aB) : aC G false 1 (.rp false i.v 2) H = some (I6 i.a) := rfl
theorem gl3 (H : aB) : aC G false 1 (.rp false i.v 3) H = some (I6 i.b) := rfl
theorem gl4 (H : aB) : aC G false 1 (.rp false i.v 4) H = some (I6 i.c) := rfl
theorem gl5 (H : aB) : aC G false 1 (.rp false i.v 5) H = some (I6 i.k) := rfl
theorem gl6 (H : aB) : aC G true 6 (.rp false i.v 0) H = some i.v := rfl
include hp hs hl in
theorem pU (k : Nat) (ha : 0 ≤ i.a ∧ i.a < R) (hd : 0 ≤ i.d ∧ i.d < R) (hb : 0 ≤ i.b ∧ i.b < R) (ho : i.op = 15 ∨ i.op = 16) :
  bI.f G (k + 2) [PX, i.v] (fM p0 bor cs R M s) = some (.bool (s.touch i).2, fM p0 bor cs R M (s.touch i).1) := by
 have hR := hs.len
 rw [bI.step]
 unfold bI.c
 simp only [mK]
 have d6 := mM s i.a ha.1
 rw [if_pos (by omega)] at d6
 have d7 := ldR G p0 bor cs R M s i.a.toNat (by omega)
 have d10 : eZ .u64 (I6 i.k) = some (Un (u64 i.k)) := lR ..
 have d11 := tT Tryd.prog 48 false (s.regs.getD i.a.toNat 0) (u64 i.k)
 obtain ⟨ad, had⟩ : ∃ z, z = (s.regs.getD i.a.toNat 0 + u64 i.k) % 18446744073709551616 := ⟨_, rfl⟩
 have hadl : ad < 18446744073709551616 := by rw [had]; exact Nat.mod_lt _ (by decide)
 rw [← had] at d11
 have d12 := iD ad hadl
 have d13 := jA p0 bor cs R M s (iI G p0 bor cs R M s k hp 3 (fF ad) (by omega))
 have ht : s.touch i = (let s1 := s.leak 3 (fF ad); if s.mem.length ≤ ad then ({ s1 with code := 3 }, false) else if i.op = 15 then (s1.set i.d (s.mem.getD ad 0), true) else ({ s1 with mem := s.mem.set ad (s.rg i.b) }, true)) := by
  rw [had]; rfl
 rw [ht]
 obtain ⟨s1, hs1⟩ : ∃ s1, s1 = s.leak 3 (fF ad) := ⟨_, rfl⟩
 have hm : s1.mem = s.mem := by rw [hs1]; rfl
 have hr : s1.regs = s.regs := by rw [hs1]; rfl
 simp only
 rw [← hs1] at d13 ⊢
 have d17 := ld6 G p0 bor cs R M s1
 have d18 : bO (.sl 5 s1.mem.length 0 s1.mem.length 1) = some (Nn s1.mem.length) := rfl
 have d19 : eZ .u64 (Nn s1.mem.length) = some (Un s1.mem.length) := by rw [lR, zG _ (by rw [hm]; have := hs.big; omega)]
 have g0 := gi0 i
 have g1 := gi1 i
 have g2 := gi2 i
 have g3 := gi3 i
 have g5 := gi5 i
 have l0 := gl0 G i
 have l1 := gl1 G i
 have l2 := gl2 G i
 have l3 := gl3 G i
 have l5 := gl5 G i
 have b0 := bx i
 by_cases hin : s.mem.length ≤ ad
 ·rw [if_pos hin]
  have d20 : bE Tryd.prog .geq 48 false (Un ad) (Un s1.mem.length) = some (.bool true) := by rw [iT, decide_eq_true (by rw [hm]; omega)]
  have d23 := st5 p0 bor cs R M s1 3
  clear hs1 had ht
  repeat first
   | refine oB (by first | (simp only [aQ, aI, aH, cO, cK, cN, cL, cM, aO, aK, bN, b0, g0, g1, g2, g3, g5, l0, l1, l2, l3, l5, cF, qG, qH, jX, rN, sH, d6, d7, d10, d11, d12, d13, d17, d18, d19, d20, d23]; first | done | (with_reducible exact rfl) | (with_reducible exact ⟨rfl, rfl⟩)) | (with_reducible exact rfl)) ?_
   | refine lB (by first | (simp only [aQ, aI, aH, cO, cK, cN, cL, cM, aO, aK, bN, b0, g0, g1, g2, g3, g5, l0, l1, l2, l3, l5, cF, qG, qH, jX, rN, sH, d6, d7, d10, d11, d12, d13, d17, d18, d19, d20, d23]; first | done | (with_reducible exact rfl) | (with_reducible exact ⟨rfl, rfl⟩)) | (with_reducible exact rfl)) ?_
   | refine oT ?_
   | refine oN ?_
   | refine oX ?_
   | refine hZ ?_
   | refine iA ?_
   | exact oF (aY ..)
   | apply oK
   | refine lT ?_
   | refine lN ?_
   | refine lX ?_
   | refine hU ?_
   | refine hY ?_
   | apply lK
   | refine oI ?_
   | refine oJ rfl ?_
   | refine lI ?_
   | refine lJ rfl ?_
   | (with_reducible exact rfl)
  exact oF (fB p0 bor cs R M _ hp false)
 ·rw [if_neg hin]
  have d20 : bE Tryd.prog .geq 48 false (Un ad) (Un s1.mem.length) = some (.bool false) := by rw [iT, decide_eq_false (by rw [hm]; omega)]
  have d37 := aDz s1 ad
  rw [if_pos (by rw [hm]; omega)] at d37
  have d30 := sH G p0 bor cs R M s1
  rcases ho with ho | ho
  ·rw [if_pos ho]
   have d27 : bE Tryd.prog .eql 3 true (I6 i.op) (.int .i64 15) = some (.bool true) := by rw [fE, decide_eq_true ho]
   have d38 := ldM G p0 bor cs R M s1 ad (by rw [hm]; omega)
   have d39 := mM s1 i.d hd.1
   rw [if_pos (by rw [hr]; omega)] at d39
   have d40 := stR p0 bor cs R M s1 i.d.toNat (s1.mem.getD ad 0) (by rw [hr]; omega)
   have hfin : ({ s1 with regs := s1.regs.set i.d.toNat (s1.mem.getD ad 0) } : MS) = s1.set i.d (s.mem.getD ad 0) := by rw [← hm]; rfl
   rw [hfin] at d40
   clear hs1 had ht hfin
   generalize s1.mem.getD ad 0 = z at *
   repeat first
    | refine oB (by first | (simp only [aQ, aI, aH, cO, cK, cN, cL, cM, aO, aK, bN, b0, g0, g1, g2, g3, g5, l0, l1, l2, l3, l5, cF, qG, qH, jX, rN, sH, d6, d7, d10, d11, d12, d13, d17, d18, d19, d20, d27, d30, d37, d38, d39, d40]; first | done | (with_reducible exact rfl) | (with_reducible exact ⟨rfl, rfl⟩)) | (with_reducible exact rfl)) ?_
    | refine lB (by first | (simp only [aQ, aI, aH, cO, cK, cN, cL, cM, aO, aK, bN, b0, g0, g1, g2, g3, g5, l0, l1, l2, l3, l5, cF, qG, qH, jX, rN, sH, d6, d7, d10, d11, d12, d13, d17, d18, d19, d20, d27, d30, d37, d38, d39, d40]; first | done | (with_reducible exact rfl) | (with_reducible exact ⟨rfl, rfl⟩)) | (with_reducible exact rfl)) ?_
    | refine oT ?_
    | refine oN ?_
    | refine oX ?_
    | refine hZ ?_
    | refine iA ?_
    | exact oF (aY ..)
    | apply oK
    | refine lT ?_
    | refine lN ?_
    | refine lX ?_
    | refine hU ?_
    | refine hY ?_
    | apply lK
    | refine oI ?_
    | refine oJ rfl ?_
    | refine lI ?_
    | refine lJ rfl ?_
    | (with_reducible exact rfl)
   exact oF (fB p0 bor cs R M _ hp true)
  ·rw [if_neg (by omega)]
   have d27 : bE Tryd.prog .eql 3 true (I6 i.op) (.int .i64 15) = some (.bool false) := by rw [fE, decide_eq_false (by omega)]
   have d50 := mM s1 i.b hb.1
   rw [if_pos (by rw [hr]; omega)] at d50
   have d51 := ldR G p0 bor cs R M s1 i.b.toNat (by rw [hr]; omega)
   have d53 := stM p0 bor cs R M s1 ad (s1.regs.getD i.b.toNat 0) (by rw [hm]; omega)
   have hfin : ({ s1 with mem := s1.mem.set ad (s1.regs.getD i.b.toNat 0) } : MS) = { s1 with mem := s.mem.set ad (s.rg i.b) } := by rw [hm, hr]; rfl
   rw [hfin] at d53
   clear hs1 had ht hfin
   generalize s1.regs.getD i.b.toNat 0 = z at *
   repeat first
    | refine oB (by first | (simp only [aQ, aI, aH, cO, cK, cN, cL, cM, aO, aK, bN, b0, g0, g1, g2, g3, g5, l0, l1, l2, l3, l5, cF, qG, qH, jX, rN, sH, d6, d7, d10, d11, d12, d13, d17, d18, d19, d20, d27, d30, d37, d50, d51, d53]; first | done | (with_reducible exact rfl) | (with_reducible exact ⟨rfl, rfl⟩)) | (with_reducible exact rfl)) ?_
    | refine lB (by first | (simp only [aQ, aI, aH, cO, cK, cN, cL, cM, aO, aK, bN, b0, g0, g1, g2, g3, g5, l0, l1, l2, l3, l5, cF, qG, qH, jX, rN, sH, d6, d7, d10, d11, d12, d13, d17, d18, d19, d20, d27, d30, d37, d50, d51, d53]; first | done | (with_reducible exact rfl) | (with_reducible exact ⟨rfl, rfl⟩)) | (with_reducible exact rfl)) ?_
    | refine oT ?_
    | refine oN ?_
    | refine oX ?_
    | refine hZ ?_
    | refine iA ?_
    | exact oF (aY ..)
    | apply oK
    | refine lT ?_
    | refine lN ?_
    | refine lX ?_
    | refine hU ?_
    | refine hY ?_
    | apply lK
    | refine oI ?_
    | refine oJ rfl ?_
    | refine lI ?_
    | refine lJ rfl ?_
    | (with_reducible exact rfl)
   exact oF (fB p0 bor cs R M _ hp true)
set_option maxRecDepth 20000 in
set_option maxHeartbeats 1000000 in
include hp hs hl in
theorem nA (k : Nat) (ha : i.op ≠ 17 → 0 ≤ i.a ∧ i.a < R) (ho : i.op = 17 ∨ i.op = 18 ∨ i.op = 19) (hk : 0 ≤ i.k) :
  bG.f G (k + 2) [PX, i.v] (fM p0 bor cs R M s) = some (.tup [], fM p0 bor cs R M (s.branch i)) := by
 have hR := hs.len
 rw [bG.step]
 unfold bG.c
 simp only [mK]
 have g0 := gi0 i
 have g2 := gi2 i
 have g5 := gi5 i
 have l0 := gl0 G i
 have l2 := gl2 G i
 have l5 := gl5 G i
 have b0 := bx i
 have nk : I6 i.k = Nn i.k.toNat := by show AV.int .i64 i.k = .int .i64 _; congr 1; omega
 rw [nk] at l5
 by_cases h17 : i.op = 17
 ·have e : s.branch i = { s with at_ := i.k.toNat } := by unfold MS.branch; rw [if_pos h17]
  rw [e]
  have d3 : bE Tryd.prog .neq 3 true (I6 i.op) (.int .i64 17) = some (.bool false) := by rw [jH]; simp [h17]
  have d25 := st4 p0 bor cs R M s i.k.toNat
  repeat first
   | refine oB (by first | (simp only [aQ, aI, aH, cO, cK, cN, cL, cM, aO, aK, bN, b0, g0, g2, g5, l0, l2, l5, cF, jO, d3, d25]; first | done | (with_reducible exact rfl) | (with_reducible exact ⟨rfl, rfl⟩)) | (with_reducible exact rfl)) ?_
   | refine lB (by first | (simp only [aQ, aI, aH, cO, cK, cN, cL, cM, aO, aK, bN, b0, g0, g2, g5, l0, l2, l5, cF, jO, d3, d25]; first | done | (with_reducible exact rfl) | (with_reducible exact ⟨rfl, rfl⟩)) | (with_reducible exact rfl)) ?_
   | refine oT ?_
   | refine oN ?_
   | refine oX ?_
   | refine hZ ?_
   | refine iA ?_
   | exact oF (aY ..)
   | apply oK
   | refine lT ?_
   | refine lN ?_
   | refine lX ?_
   | refine hU ?_
   | refine hY ?_
   | apply lK
   | refine oI ?_
   | refine oJ rfl ?_
   | refine lI ?_
   | refine lJ rfl ?_
   | (with_reducible exact rfl)
  exact oF (iX p0 bor cs R M _ hp)
 ·obtain ⟨ha0, haR⟩ := ha h17
  have d3 : bE Tryd.prog .neq 3 true (I6 i.op) (.int .i64 17) = some (.bool true) := by rw [jH]; simp [h17]
  have d9 := mM s i.a ha0
  rw [if_pos (by omega)] at d9
  have d10 := ldR G p0 bor cs R M s i.a.toNat (by omega)
  have d11 : bE Tryd.prog .eql 48 true (Un (s.regs.getD i.a.toNat 0)) (.int .u64 0) = some (.bool (decide (s.rg i.a = 0))) := by
   rw [fE]; unfold MS.rg; congr 2; simp only [decide_eq_decide]; omega
  have d14 : bE Tryd.prog .eql 3 true (I6 i.op) (.int .i64 18) = some (.bool (decide (i.op = 18))) := fE ..
  have d15 : bE Tryd.prog .eql 4 false (.bool (decide (s.rg i.a = 0))) (.bool (decide (i.op = 18))) = some (.bool (decide (s.rg i.a = 0) == decide (i.op = 18))) := mI Tryd.underlying4 ..
  have d16 : ∀ b H, aL (dQ.f G (k + 1)) [.bool b] H = _ := fun b H => aX (H := H) (uD G k b) rfl rfl
  by_cases hg : (decide (s.rg i.a = 0) == decide (i.op = 18)) = true
  ·have e : s.branch i = { s.leak 2 1 with at_ := i.k.toNat } := by unfold MS.branch; rw [if_neg h17, if_pos hg]
   rw [e]
   rw [hg] at d15
   have d16' := d16 true
   rw [if_pos rfl] at d16'
   have d17 : eZ .i64 (Un 1) = some (I6 1) := rfl
   have d18 := jA p0 bor cs R M s (iI G p0 bor cs R M s k hp 2 1 (by omega))
   have d25 := st4 p0 bor cs R M (s.leak 2 1) i.k.toNat
   generalize decide (s.rg i.a = 0) = q1 at *
   generalize decide (i.op = 18) = q2 at *
   repeat first
    | refine oB (by first | (simp only [aQ, aI, aH, cO, cK, cN, cL, cM, aO, aK, bN, b0, g0, g2, g5, l0, l2, l5, cF, qG, jO, sH, d3, d9, d10, d11, d14, d15, d16', d17, d18, d25, Bool.not_true, Bool.not_false]; first | done | (with_reducible exact rfl) | (with_reducible exact ⟨rfl, rfl⟩)) | (with_reducible exact rfl)) ?_
    | refine lB (by first | (simp only [aQ, aI, aH, cO, cK, cN, cL, cM, aO, aK, bN, b0, g0, g2, g5, l0, l2, l5, cF, qG, jO, sH, d3, d9, d10, d11, d14, d15, d16', d17, d18, d25, Bool.not_true, Bool.not_false]; first | done | (with_reducible exact rfl) | (with_reducible exact ⟨rfl, rfl⟩)) | (with_reducible exact rfl)) ?_
    | refine oT ?_
    | refine oN ?_
    | refine oX ?_
    | refine hZ ?_
    | refine iA ?_
    | exact oF (aY ..)
    | apply oK
    | refine lT ?_
    | refine lN ?_
    | refine lX ?_
    | refine hU ?_
    | refine hY ?_
    | apply lK
    | refine oI ?_
    | refine oJ rfl ?_
    | refine lI ?_
    | refine lJ rfl ?_
    | (with_reducible exact rfl)
   exact oF (iX p0 bor cs R M _ hp)
  ·have e : s.branch i = s.leak 2 0 := by unfold MS.branch; rw [if_neg h17, if_neg hg]
   rw [e]
   rw [Bool.not_eq_true] at hg
   rw [hg] at d15
   have d16' := d16 false
   rw [if_neg (by decide)] at d16'
   have d17 : eZ .i64 (Un 0) = some (I6 0) := rfl
   have d18 := jA p0 bor cs R M s (iI G p0 bor cs R M s k hp 2 0 (by omega))
   generalize decide (s.rg i.a = 0) = q1 at *
   generalize decide (i.op = 18) = q2 at *
   repeat first
    | refine oB (by first | (simp only [aQ, aI, aH, cO, cK, cN, cL, cM, aO, aK, bN, b0, g0, g2, g5, l0, l2, l5, cF, qG, jO, sH, d3, d9, d10, d11, d14, d15, d16', d17, d18, Bool.not_true, Bool.not_false]; first | done | (with_reducible exact rfl) | (with_reducible exact ⟨rfl, rfl⟩)) | (with_reducible exact rfl)) ?_
    | refine lB (by first | (simp only [aQ, aI, aH, cO, cK, cN, cL, cM, aO, aK, bN, b0, g0, g2, g5, l0, l2, l5, cF, qG, jO, sH, d3, d9, d10, d11, d14, d15, d16', d17, d18, Bool.not_true, Bool.not_false]; first | done | (with_reducible exact rfl) | (with_reducible exact ⟨rfl, rfl⟩)) | (with_reducible exact rfl)) ?_
    | refine oT ?_
    | refine oN ?_
    | refine oX ?_
    | refine hZ ?_
    | refine iA ?_
    | exact oF (aY ..)
    | apply oK
    | refine lT ?_
    | refine lN ?_
    | refine lX ?_
    | refine hU ?_
    | refine hY ?_
    | apply lK
    | refine oI ?_
    | refine oJ rfl ?_
    | refine lI ?_
    | refine lJ rfl ?_
    | (with_reducible exact rfl)
   exact oF (iX p0 bor cs R M _ hp)
set_option maxRecDepth 20000 in
set_option maxHeartbeats 2000000 in
include hp hs hl in
theorem rX (n : Nat) (k : Nat) (hi : i.Ok R n) (hpc : s.at_ ≤ 1000000) :
  bP.f G (k + 4) [PX, i.v] (fM p0 bor cs R M s) = some (.bool (s.step i).2, fM p0 bor cs R M (s.step i).1) := by
 have hR := hs.len
 rw [bP.step]
 unfold bP.c
 simp only [mK]
 obtain ⟨t, ht⟩ : ∃ t : MS, t = { s with at_ := s.at_ + 1 } := ⟨_, rfl⟩
 have htr : t.regs = s.regs := by rw [ht]
 have hts : t.Ok R := by rw [ht]; exact ⟨hs.len, hs.regs, hs.mem, hs.leaks, hs.big, hs.few⟩
 have htl : t.leaks.length ≤ 999990 := by rw [ht]; exact hl
 have g0 := gi0 i
 have g1 := gi1 i
 have g2 := gi2 i
 have g3 := gi3 i
 have g4 := gi4 i
 have g5 := gi5 i
 have l0 := gl0 G i
 have l1 := gl1 G i
 have l2 := gl2 G i
 have l3 := gl3 G i
 have l4 := gl4 G i
 have l5 := gl5 G i
 have l6 := gl6 G i
 have b0 := bx i
 have c3 := ld4 G p0 bor cs R M s
 have c4 : bE Tryd.prog .add 3 true (Nn s.at_) (.int .i64 1) = some (Nn (s.at_ + 1)) := by
  rw [gN, dJ (by omega) (by omega)]; congr 2
 have c7 := st4 p0 bor cs R M s (s.at_ + 1)
 rw [← ht] at c7
 have e0 : s.step i = (if i.op = 15 ∨ i.op = 16 then t.touch i
  else if i.op = 17 ∨ i.op = 18 ∨ i.op = 19 then (t.branch i, true)
  else if i.op = 20 then ({ t with code := i.k }, false)
  else if (gJ i.op i.k (t.rg i.a) (t.rg i.b) (t.rg i.c)).2 = true then (t.set i.d (gJ i.op i.k (t.rg i.a) (t.rg i.b) (t.rg i.c)).1, true)
  else (t, true)) := by rw [ht]; rfl
 rw [e0]
 clear ht e0
 have q : ∀ m : Int, bE Tryd.prog .eql 3 true (I6 i.op) (.int .i64 m) = some (.bool (decide (i.op = m))) := fun m => fE ..
 have q15 := q 15
 have q16 := q 16
 have q17 := q 17
 have q18 := q 18
 have q19 := q 19
 have q20 := q 20
 by_cases h1 : i.op = 15 ∨ i.op = 16
 ·rw [if_pos h1]
  have r := jA p0 bor cs R M t (pU G p0 hp bor cs R M t i hts htl (k + 1) (hi.a (by omega) (by omega)) (hi.d (by omega)) (hi.b (by omega)) h1)
  by_cases h15 : i.op = 15
  ·rw [decide_eq_true h15] at q15
   generalize t.touch i = z at *
   repeat first
    | refine oB (by first | (simp only [aQ, aI, aH, cO, cK, cN, cL, cM, aO, aK, bN, b0, g0, g1, g2, g3, g4, g5, l0, l6, cF, jO, c3, c4, c7, q15, q16, r]; first | done | (with_reducible exact rfl) | (with_reducible exact ⟨rfl, rfl⟩)) | (with_reducible exact rfl)) ?_
    | refine lB (by first | (simp only [aQ, aI, aH, cO, cK, cN, cL, cM, aO, aK, bN, b0, g0, g1, g2, g3, g4, g5, l0, l6, cF, jO, c3, c4, c7, q15, q16, r]; first | done | (with_reducible exact rfl) | (with_reducible exact ⟨rfl, rfl⟩)) | (with_reducible exact rfl)) ?_
    | refine oT ?_
    | refine oN ?_
    | refine oX ?_
    | refine hZ ?_
    | refine iA ?_
    | exact oF (aY ..)
    | apply oK
    | refine lT ?_
    | refine lN ?_
    | refine lX ?_
    | refine hU ?_
    | refine hY ?_
    | apply lK
    | refine oI ?_
    | refine oJ rfl ?_
    | refine lI ?_
    | refine lJ rfl ?_
    | (with_reducible exact rfl)
   exact oF (fB p0 bor cs R M _ hp _)
  ·rw [decide_eq_false h15] at q15
   rw [decide_eq_true (by omega)] at q16
   generalize t.touch i = z at *
   repeat first
    | refine oB (by first | (simp only [aQ, aI, aH, cO, cK, cN, cL, cM, aO, aK, bN, b0, g0, g1, g2, g3, g4, g5, l0, l6, cF, jO, c3, c4, c7, q15, q16, r]; first | done | (with_reducible exact rfl) | (with_reducible exact ⟨rfl, rfl⟩)) | (with_reducible exact rfl)) ?_
    | refine lB (by first | (simp only [aQ, aI, aH, cO, cK, cN, cL, cM, aO, aK, bN, b0, g0, g1, g2, g3, g4, g5, l0, l6, cF, jO, c3, c4, c7, q15, q16, r]; first | done | (with_reducible exact rfl) | (with_reducible exact ⟨rfl, rfl⟩)) | (with_reducible exact rfl)) ?_
    | refine oT ?_
    | refine oN ?_
    | refine oX ?_
    | refine hZ ?_
    | refine iA ?_
    | exact oF (aY ..)
    | apply oK
    | refine lT ?_
    | refine lN ?_
    | refine lX ?_
    | refine hU ?_
    | refine hY ?_
    | apply lK
    | refine oI ?_
    | refine oJ rfl ?_
    | refine lI ?_
    | refine lJ rfl ?_
    | (with_reducible exact rfl)
   exact oF (fB p0 bor cs R M _ hp _)
 rw [if_neg h1]
 rw [decide_eq_false (by omega)] at q15 q16
 by_cases h2 : i.op = 17 ∨ i.op = 18 ∨ i.op = 19
 ·rw [if_pos h2]
  have r := jA p0 bor cs R M t (nA G p0 hp bor cs R M t i hts htl (k + 1) (fun h => hi.a h (by omega)) h2 (hi.k (by omega) (by omega)).1)
  generalize t.branch i = z at *
  by_cases h17 : i.op = 17
  ·rw [decide_eq_true h17] at q17
   repeat first
    | refine oB (by first | (simp only [aQ, aI, aH, cO, cK, cN, cL, cM, aO, aK, bN, b0, g0, g1, g2, g3, g4, g5, l0, l6, cF, jO, c3, c4, c7, q15, q16, q17, q18, q19, r]; first | done | (with_reducible exact rfl) | (with_reducible exact ⟨rfl, rfl⟩)) | (with_reducible exact rfl)) ?_
    | refine lB (by first | (simp only [aQ, aI, aH, cO, cK, cN, cL, cM, aO, aK, bN, b0, g0, g1, g2, g3, g4, g5, l0, l6, cF, jO, c3, c4, c7, q15, q16, q17, q18, q19, r]; first | done | (with_reducible exact rfl) | (with_reducible exact ⟨rfl, rfl⟩)) | (with_reducible exact rfl)) ?_
    | refine oT ?_
    | refine oN ?_
    | refine oX ?_
    | refine hZ ?_
    | refine iA ?_
    | exact oF (aY ..)
    | apply oK
    | refine lT ?_
    | refine lN ?_
    | refine lX ?_
    | refine hU ?_
    | refine hY ?_
    | apply lK
    | refine oI ?_
    | refine oJ rfl ?_
    | refine lI ?_
    | refine lJ rfl ?_
    | (with_reducible exact rfl)
   exact oF (fB p0 bor cs R M _ hp _)
  rw [decide_eq_false h17] at q17
  by_cases h18 : i.op = 18
  ·rw [decide_eq_true h18] at q18
   repeat first
    | refine oB (by first | (simp only [aQ, aI, aH, cO, cK, cN, cL, cM, aO, aK, bN, b0, g0, g1, g2, g3, g4, g5, l0, l6, cF, jO, c3, c4, c7, q15, q16, q17, q18, q19, r]; first | done | (with_reducible exact rfl) | (with_reducible exact ⟨rfl, rfl⟩)) | (with_reducible exact rfl)) ?_
    | refine lB (by first | (simp only [aQ, aI, aH, cO, cK, cN, cL, cM, aO, aK, bN, b0, g0, g1, g2, g3, g4, g5, l0, l6, cF, jO, c3, c4, c7, q15, q16, q17, q18, q19, r]; first | done | (with_reducible exact rfl) | (with_reducible exact ⟨rfl, rfl⟩)) | (with_reducible exact rfl)) ?_
    | refine oT ?_
    | refine oN ?_
    | refine oX ?_
    | refine hZ ?_
    | refine iA ?_
    | exact oF (aY ..)
    | apply oK
    | refine lT ?_
    | refine lN ?_
    | refine lX ?_
    | refine hU ?_
    | refine hY ?_
    | apply lK
    | refine oI ?_
    | refine oJ rfl ?_
    | refine lI ?_
    | refine lJ rfl ?_
    | (with_reducible exact rfl)
   exact oF (fB p0 bor cs R M _ hp _)
  ·rw [decide_eq_false h18] at q18
   rw [decide_eq_true (by omega)] at q19
   repeat first
    | refine oB (by first | (simp only [aQ, aI, aH, cO, cK, cN, cL, cM, aO, aK, bN, b0, g0, g1, g2, g3, g4, g5, l0, l6, cF, jO, c3, c4, c7, q15, q16, q17, q18, q19, r]; first | done | (with_reducible exact rfl) | (with_reducible exact ⟨rfl, rfl⟩)) | (with_reducible exact rfl)) ?_
    | refine lB (by first | (simp only [aQ, aI, aH, cO, cK, cN, cL, cM, aO, aK, bN, b0, g0, g1, g2, g3, g4, g5, l0, l6, cF, jO, c3, c4, c7, q15, q16, q17, q18, q19, r]; first | done | (with_reducible exact rfl) | (with_reducible exact ⟨rfl, rfl⟩)) | (with_reducible exact rfl)) ?_
    | refine oT ?_
    | refine oN ?_
    | refine oX ?_
    | refine hZ ?_
    | refine iA ?_
    | exact oF (aY ..)
    | apply oK
    | refine lT ?_
    | refine lN ?_
    | refine lX ?_
    | refine hU ?_
    | refine hY ?_
    | apply lK
    | refine oI ?_
    | refine oJ rfl ?_
    | refine lI ?_
    | refine lJ rfl ?_
    | (with_reducible exact rfl)
   exact oF (fB p0 bor cs R M _ hp _)
 rw [if_neg h2]
 rw [decide_eq_false (by omega)] at q17 q18 q19
 by_cases h3 : i.op = 20
 ·rw [if_pos h3]
  rw [decide_eq_true h3] at q20
  have r := st5 p0 bor cs R M t i.k
  repeat first
   | refine oB (by first | (simp only [aQ, aI, aH, cO, cK, cN, cL, cM, aO, aK, bN, b0, g0, g1, g2, g3, g4, g5, l0, l5, l6, cF, jO, qH, jX, c3, c4, c7, q15, q16, q17, q18, q19, q20, r]; first | done | (with_reducible exact rfl) | (with_reducible exact ⟨rfl, rfl⟩)) | (with_reducible exact rfl)) ?_
   | refine lB (by first | (simp only [aQ, aI, aH, cO, cK, cN, cL, cM, aO, aK, bN, b0, g0, g1, g2, g3, g4, g5, l0, l5, l6, cF, jO, qH, jX, c3, c4, c7, q15, q16, q17, q18, q19, q20, r]; first | done | (with_reducible exact rfl) | (with_reducible exact ⟨rfl, rfl⟩)) | (with_reducible exact rfl)) ?_
   | refine oT ?_
   | refine oN ?_
   | refine oX ?_
   | refine hZ ?_
   | refine iA ?_
   | exact oF (aY ..)
   | apply oK
   | refine lT ?_
   | refine lN ?_
   | refine lX ?_
   | refine hU ?_
   | refine hY ?_
   | apply lK
   | refine oI ?_
   | refine oJ rfl ?_
   | refine lI ?_
   | refine lJ rfl ?_
   | (with_reducible exact rfl)
  exact oF (fB p0 bor cs R M _ hp _)
 rw [if_neg h3]
 rw [decide_eq_false h3] at q20
 have hop := hi.op
 obtain ⟨a0, aR⟩ := hi.a (by omega) h3
 obtain ⟨d0, dR⟩ := hi.d (by omega)
 obtain ⟨bb0, bR⟩ := hi.b (by omega)
 obtain ⟨cc0, cR⟩ := hi.c (by omega)
 have f0 := sH G p0 bor cs R M t
 have f1 := mM t i.a a0
 rw [if_pos (by rw [htr]; omega)] at f1
 have f2 := ldR G p0 bor cs R M t i.a.toNat (by rw [htr]; omega)
 have f3 := mM t i.b bb0
 rw [if_pos (by rw [htr]; omega)] at f3
 have f4 := ldR G p0 bor cs R M t i.b.toNat (by rw [htr]; omega)
 have f5 := mM t i.c cc0
 rw [if_pos (by rw [htr]; omega)] at f5
 have f6 := ldR G p0 bor cs R M t i.c.toNat (by rw [htr]; omega)
 have f7 := mM t i.d d0
 rw [if_pos (by rw [htr]; omega)] at f7
 have ev : Ins.v i = gO i.op i.d i.a i.b i.c i.k := rfl
 have r : ∀ H, aL (cV.f G (k + 3)) [i.v, Un (t.rg i.a), Un (t.rg i.b), Un (t.rg i.c)] H = _ := fun H => aX (H := H) (vX G (k + 1) i.op i.d i.a i.b i.c i.k _ _ _ (hts.rg _) (hts.rg _) (hts.rg _)) rfl rfl
 have f8 := stR p0 bor cs R M t i.d.toNat (gJ i.op i.k (t.rg i.a) (t.rg i.b) (t.rg i.c)).1 (by rw [htr]; omega)
 have e1 : t.regs.getD i.a.toNat 0 = t.rg i.a := rfl
 have e2 : t.regs.getD i.b.toNat 0 = t.rg i.b := rfl
 have e3 : t.regs.getD i.c.toNat 0 = t.rg i.c := rfl
 have e4 : ∀ x, ({ t with regs := t.regs.set i.d.toNat x } : MS) = t.set i.d x := fun x => rfl
 rw [e4] at f8
 rw [e1] at f2
 rw [e2] at f4
 rw [e3] at f6
 generalize t.rg i.a = ra at *
 generalize t.rg i.b = rb at *
 generalize t.rg i.c = rc at *
 generalize gJ i.op i.k ra rb rc = v at *
 obtain ⟨vn, vb⟩ := v
 have x0 : ∀ u v : AV, aG (.tup [u, v]) 0 = some u := fun _ _ => rfl
 have x1 : ∀ u v : AV, aG (.tup [u, v]) 1 = some v := fun _ _ => rfl
 cases vb
 ·rw [if_neg (by simp)]
  simp only at r f8
  repeat first
   | refine oB (by first | (simp only [aQ, aI, aH, cO, cK, cN, cL, cM, aO, aK, bN, b0, g0, l0, cF, jO, c3, c4, c7, q15, q16, q17, q18, q19, q20]; first | done | (with_reducible exact rfl) | (with_reducible exact ⟨rfl, rfl⟩)) | (with_reducible exact rfl)) ?_
   | refine lB (by first | (simp only [aQ, aI, aH, cO, cK, cN, cL, cM, aO, aK, bN, b0, g0, l0, cF, jO, c3, c4, c7, q15, q16, q17, q18, q19, q20]; first | done | (with_reducible exact rfl) | (with_reducible exact ⟨rfl, rfl⟩)) | (with_reducible exact rfl)) ?_
   | refine oT ?_
   | refine oN ?_
   | refine oX ?_
   | refine hZ ?_
   | refine iA ?_
   | exact oF (aY ..)
   | apply oK
   | refine lT ?_
   | refine lN ?_
   | refine lX ?_
   | refine hU ?_
   | refine hY ?_
   | apply lK
   | refine oI ?_
   | refine oJ rfl ?_
   | refine lI ?_
   | refine lJ rfl ?_
   | (with_reducible exact rfl)
  refine oB (by simp only [aQ, aI, aH, l6]; rfl) ?_
  repeat first
   | refine oB (by first | (simp only [aQ, aI, aH, cO, cK, cN, cL, cM, aO, aK, bN, cF, g1, g2, g3, g4, l1, l2, l3, l4, qG, f0, f1, f2, f3, f4, f5, f6, r, x0, x1]; first | done | (with_reducible exact rfl) | (with_reducible exact ⟨rfl, rfl⟩)) | (with_reducible exact rfl)) ?_
   | refine lB (by first | (simp only [aQ, aI, aH, cO, cK, cN, cL, cM, aO, aK, bN, cF, g1, g2, g3, g4, l1, l2, l3, l4, qG, f0, f1, f2, f3, f4, f5, f6, r, x0, x1]; first | done | (with_reducible exact rfl) | (with_reducible exact ⟨rfl, rfl⟩)) | (with_reducible exact rfl)) ?_
   | refine oT ?_
   | refine oN ?_
   | refine oX ?_
   | refine hZ ?_
   | refine iA ?_
   | exact oF (aY ..)
   | apply oK
   | refine lT ?_
   | refine lN ?_
   | refine lX ?_
   | refine hU ?_
   | refine hY ?_
   | apply lK
   | refine oI ?_
   | refine oJ rfl ?_
   | refine lI ?_
   | refine lJ rfl ?_
   | (with_reducible exact rfl)
  exact oF (fB p0 bor cs R M _ hp _)
 ·rw [if_pos rfl]
  simp only at r f8
  repeat first
   | refine oB (by first | (simp only [aQ, aI, aH, cO, cK, cN, cL, cM, aO, aK, bN, b0, g0, l0, cF, jO, c3, c4, c7, q15, q16, q17, q18, q19, q20]; first | done | (with_reducible exact rfl) | (with_reducible exact ⟨rfl, rfl⟩)) | (with_reducible exact rfl)) ?_
   | refine lB (by first | (simp only [aQ, aI, aH, cO, cK, cN, cL, cM, aO, aK, bN, b0, g0, l0, cF, jO, c3, c4, c7, q15, q16, q17, q18, q19, q20]; first | done | (with_reducible exact rfl) | (with_reducible exact ⟨rfl, rfl⟩)) | (with_reducible exact rfl)) ?_
   | refine oT ?_
   | refine oN ?_
   | refine oX ?_
   | refine hZ ?_
   | refine iA ?_
   | exact oF (aY ..)
   | apply oK
   | refine lT ?_
   | refine lN ?_
   | refine lX ?_
   | refine hU ?_
   | refine hY ?_
   | apply lK
   | refine oI ?_
   | refine oJ rfl ?_
   | refine lI ?_
   | refine lJ rfl ?_
   | (with_reducible exact rfl)
  refine oB (by simp only [aQ, aI, aH, l6]; rfl) ?_
  repeat first
   | refine oB (by first | (simp only [aQ, aI, aH, cO, cK, cN, cL, cM, aO, aK, bN, cF, g1, g2, g3, g4, l1, l2, l3, l4, qG, f0, f1, f2, f3, f4, f5, f6, f7, f8, r, x0, x1]; first | done | (with_reducible exact rfl) | (with_reducible exact ⟨rfl, rfl⟩)) | (with_reducible exact rfl)) ?_
   | refine lB (by first | (simp only [aQ, aI, aH, cO, cK, cN, cL, cM, aO, aK, bN, cF, g1, g2, g3, g4, l1, l2, l3, l4, qG, f0, f1, f2, f3, f4, f5, f6, f7, f8, r, x0, x1]; first | done | (with_reducible exact rfl) | (with_reducible exact ⟨rfl, rfl⟩)) | (with_reducible exact rfl)) ?_
   | refine oT ?_
   | refine oN ?_
   | refine oX ?_
   | refine hZ ?_
   | refine iA ?_
   | exact oF (aY ..)
   | apply oK
   | refine lT ?_
   | refine lN ?_
   | refine lX ?_
   | refine hU ?_
   | refine hY ?_
   | apply lK
   | refine oI ?_
   | refine oJ rfl ?_
   | refine lI ?_
   | refine lJ rfl ?_
   | (with_reducible exact rfl)
  exact oF (fB p0 bor cs R M _ hp _)
end
theorem aCz (op k : Int) (a b c : Nat) (ha : a < 18446744073709551616) (hb : b < 18446744073709551616) (hc : c < 18446744073709551616) : (gJ op k a b c).1 < 18446744073709551616 := by
 have hm : ∀ n : Nat, n % 18446744073709551616 < 18446744073709551616 := fun n => Nat.mod_lt _ (by decide)
 have hs : (iK op k a).1 < 18446744073709551616 := by
  unfold iK
  split
  ·decide
  ·split
   ·exact hm _
   ·split
    ·exact Nat.lt_of_le_of_lt (Nat.div_le_self _ _) ha
    ·exact aBz _
 unfold gJ
 by_cases e0 : op = 1
 ·rw [if_pos e0]; exact aBz _
 rw [if_neg e0]
 by_cases e1 : op = 2
 ·rw [if_pos e1]; exact ha
 rw [if_neg e1]
 by_cases e2 : op = 3
 ·rw [if_pos e2]; exact hm _
 rw [if_neg e2]
 by_cases e3 : op = 4
 ·rw [if_pos e3]; exact hm _
 rw [if_neg e3]
 by_cases e4 : op = 5
 ·rw [if_pos e4]; exact hm _
 rw [if_neg e4]
 by_cases e5 : op = 6
 ·rw [if_pos e5]; exact Nat.div_lt_of_lt_mul (Nat.mul_lt_mul'' ha hb)
 rw [if_neg e5]
 by_cases e6 : op = 7
 ·rw [if_pos e6]; exact Nat.lt_of_le_of_lt Nat.and_le_left ha
 rw [if_neg e6]
 by_cases e7 : op = 8
 ·rw [if_pos e7]; exact Nat.or_lt_two_pow (n := 64) ha hb
 rw [if_neg e7]
 by_cases e8 : op = 9
 ·rw [if_pos e8]; exact Nat.xor_lt_two_pow (n := 64) ha hb
 rw [if_neg e8]
 by_cases e9 : op = 10 ∨ op = 11 ∨ op = 12
 ·rw [if_pos e9]; exact hs
 rw [if_neg e9]
 by_cases e10 : op = 13
 ·rw [if_pos e10]; show (if a < b then 1 else 0) < 18446744073709551616; by_cases q : a < b
  ·rw [if_pos q]; decide
  ·rw [if_neg q]; decide
 rw [if_neg e10]
 by_cases e11 : op = 14
 ·rw [if_pos e11]; show (if a ≠ 0 then b else c) < 18446744073709551616; by_cases q : a ≠ 0
  ·rw [if_pos q]; exact hb
  ·rw [if_neg q]; exact hc
 rw [if_neg e11]
 decide
theorem yR {l : List Nat} {j x : Nat} (h : ∀ y ∈ l, y < 18446744073709551616) (hx : x < 18446744073709551616) : ∀ y ∈ l.set j x, y < 18446744073709551616 := by
 intro y hy
 rcases List.mem_or_eq_of_mem_set hy with h1 | rfl
 ·exact h y h1
 ·exact hx
theorem MS.step_ok {s : MS} {R n : Nat} {i : Ins} (h : s.Ok R) (hi : i.Ok R n) (hl : s.leaks.length + 1 ≤ 3 * s.steps) (hn : s.at_ < n) : (s.step i).1.Ok R ∧ (s.step i).1.at_ ≤ n ∧ (s.step i).1.steps = s.steps ∧ (s.step i).1.mem.length = s.mem.length := by
 have ok1 : ({ s with at_ := s.at_ + 1 } : MS).Ok R := ⟨h.len, h.regs, h.mem, h.leaks, h.big, h.few⟩
 unfold MS.step
 simp only
 split
 ·unfold MS.touch
  simp only [MS.leak, MS.set]
  split
  ·exact ⟨⟨h.len, h.regs, h.mem, by simpa using hl, h.big, h.few⟩, hn, rfl, rfl⟩
  ·split
   ·exact ⟨⟨by simpa using h.len, yR h.regs (h.mg _), h.mem, by simpa using hl, h.big, h.few⟩, hn, rfl, rfl⟩
   ·exact ⟨⟨h.len, h.regs, yR h.mem (ok1.rg _), by simpa using hl, by simpa using h.big, h.few⟩, hn, rfl, by simp⟩
 ·split
  ·rename_i h2
   have hk := hi.k (by omega) (by omega)
   unfold MS.branch
   split
   ·exact ⟨⟨h.len, h.regs, h.mem, h.leaks, h.big, h.few⟩, by simp only; omega, rfl, rfl⟩
   ·split
    ·exact ⟨⟨h.len, h.regs, h.mem, by simpa [MS.leak] using hl, h.big, h.few⟩, by simp only; omega, rfl, rfl⟩
    ·exact ⟨⟨h.len, h.regs, h.mem, by simpa [MS.leak] using hl, h.big, h.few⟩, hn, rfl, rfl⟩
  ·split
   ·exact ⟨⟨h.len, h.regs, h.mem, h.leaks, h.big, h.few⟩, hn, rfl, rfl⟩
   ·split
    ·exact ⟨⟨by simpa [MS.set] using h.len, yR h.regs (aCz _ _ _ _ _ (ok1.rg _) (ok1.rg _) (ok1.rg _)), h.mem, h.leaks, h.big, h.few⟩, hn, rfl, rfl⟩
    ·exact ⟨ok1, hn, rfl, rfl⟩
def MS.tick (s : MS) : MS := ({ s with steps := s.steps + 1 } : MS).leak 1 s.at_
def aBt (cs : List Ins) (fuel : Int) : Nat → MS → Option MS
 | 0, _ => none
 | f + 1, s =>
  if cs.length ≤ s.at_ then some { s with code := 3 }
  else if (s.steps : Int) = fuel then some { s with code := 4 }
  else match s.tick.step (cs.getD s.at_ default) with
   | (s', true) => aBt cs fuel f s'
   | (s', false) => some s'
def vL (s : MS) : AV := .agg [I6 s.code, .sl 5 s.mem.length 0 s.mem.length 1, .sl 6 s.leaks.length 0 s.leaks.length 2, Nn s.steps]
def qK (p0 : ABlk) (bor : Bool) (cs : List Ins) (R M : Int) (s : MS) : aB := (fM p0 bor cs R M s).set 1 ⟨40, 4, [vL s]⟩
def xsM (fuel : Int) (bor b2 : Bool) (cs : List Ins) (R M : Int) : List AV := [I6 fuel, .nilf, .rp b2 (.agg [.ro bor (dB cs), I6 R, I6 M]) 0, .ptr 1 1 0 0, PX]
section
variable (G : aE) (p0 : ABlk) (hp : bS 7 p0.elems = true) (bor b2 : Bool) (cs : List Ins) (R : Nat) (M : Int) (fuel : Int) (self : cY) (k : Nat)
theorem sI (s : MS) : aC G true 4 (.ptr 3 1 0 5) (fM p0 bor cs R M s) = some (vL s) := rfl
theorem sZ (s : MS) : dY (aN 4 (.ptr 1 1 0 0) (vL s) (fM p0 bor cs R M s)) = some (.tup [], qK p0 bor cs R M s) := rfl
theorem wC : bS 7 (xsM fuel bor b2 cs R M) = true := by simp [xsM, bS, bX, fI]
theorem aBX (j : Nat) (h : j < cs.length) : aF 6 (.ro bor (dB cs)) (Nn j) = some (.rp bor (cs.getD j default).v 0) := by
 have h0 : (0 : Int) ≤ (j : Int) := by omega
 have e : (dB cs)[(j : Int).toNat]? = some (cs.getD j default).v := by
  rw [Int.toNat_natCast]
  simp [dB, List.getElem?_map, List.getD, List.getElem?_eq_getElem h]
 unfold aF
 simp only [e]
 rw [if_pos h0]
 rfl
theorem aDy (i : Ins) (H : aB) : aC G true 6 (.rp bor i.v 0) H = some i.v := rfl
set_option maxRecDepth 20000 in
set_option maxHeartbeats 1000000 in
include hp in
theorem kP (hf : fuel ≤ 99999) (hcl : cs.length ≤ 100000) (hcs : ∀ j, j < cs.length → (cs.getD j default).Ok R cs.length) : ∀ (f : Nat) (s s' : MS), aBt cs fuel f s = some s' → s.Ok R → s.at_ ≤ cs.length → (s.steps : Int) ≤ fuel →
  eU (bL.l3 G (k + 4) 7 self) f (xsM fuel bor b2 cs R M) (fM p0 bor cs R M s) = some (.ret, xsM fuel bor b2 cs R M, qK p0 bor cs R M s')
 | 0, s, s', h, _, _, _ => by simp [aBt] at h
 | f + 1, s, s', h, hs, hat, hst => by
  have few := hs.few
  have lks := hs.leaks
  rw [dF, bL.l3]
  refine lC (pI p0 bor cs R M s hp _ (wC bor b2 cs R M fuel)) ?_
  have c16 := ld4 G p0 bor cs R M s
  have c17 : aA 0 (.rp b2 (.agg [.ro bor (dB cs), I6 R, I6 M]) 0) = some (.rp b2 (.agg [.ro bor (dB cs), I6 R, I6 M]) 0) := rfl
  have c18 : ∀ H, aC G false 1 (.rp b2 (.agg [.ro bor (dB cs), I6 R, I6 M]) 0) H = some (.ro bor (dB cs)) := fun H => rfl
  have c19 : bO (.ro bor (dB cs)) = some (Nn cs.length) := by simp [bO, fS]
  have c31 := ld8 G p0 bor cs R M s
  have q2 : bE Tryd.prog .neq 107 true .nilf .nilf = some (.bool false) := by kernel_rfl
  simp only [aBt] at h
  unfold xsM
  by_cases h1 : cs.length ≤ s.at_
  ·rw [if_pos h1] at h
   simp only [Option.some.injEq] at h
   have c20 : bE Tryd.prog .geq 3 false (Nn s.at_) (Nn cs.length) = some (.bool true) := by rw [iT, decide_eq_true (by omega)]
   have c24 := st5 p0 bor cs R M s 3
   rw [h] at c24
   have c27 := sI G p0 bor cs R M s'
   have c28 := sZ p0 bor cs R M s'
   repeat first
    | refine oB (by first | (simp only [aQ, aI, aH, cO, cK, cN, cL, cM, aO, aK, bN, cF, jO, qH, jX, c16, c17, c18, c19, c20, c24, c27, c28]; first | done | (with_reducible exact rfl) | (with_reducible exact ⟨rfl, rfl⟩)) | (with_reducible exact rfl)) ?_
    | refine lB (by first | (simp only [aQ, aI, aH, cO, cK, cN, cL, cM, aO, aK, bN, cF, jO, qH, jX, c16, c17, c18, c19, c20, c24, c27, c28]; first | done | (with_reducible exact rfl) | (with_reducible exact ⟨rfl, rfl⟩)) | (with_reducible exact rfl)) ?_
    | refine oT ?_
    | refine oN ?_
    | refine oX ?_
    | refine hZ ?_
    | refine iA ?_
    | exact oF (aY ..)
    | apply oK
    | refine lT ?_
    | refine lN ?_
    | refine lX ?_
    | refine hU ?_
    | refine hY ?_
    | apply lK
    | refine oI ?_
    | refine oJ rfl ?_
    | refine lI ?_
    | refine lJ rfl ?_
    | (with_reducible exact rfl)
   rfl
  rw [if_neg h1] at h
  have c20 : bE Tryd.prog .geq 3 false (Nn s.at_) (Nn cs.length) = some (.bool false) := by rw [iT, decide_eq_false (by omega)]
  by_cases h2 : (s.steps : Int) = fuel
  ·rw [if_pos h2] at h
   simp only [Option.some.injEq] at h
   have c33 : bE Tryd.prog .eql 2 false (Nn s.steps) (I6 fuel) = some (.bool true) := by rw [fE, decide_eq_true h2]
   have c24 := st5 p0 bor cs R M s 4
   rw [h] at c24
   have c27 := sI G p0 bor cs R M s'
   have c28 := sZ p0 bor cs R M s'
   repeat first
    | refine oB (by first | (simp only [aQ, aI, aH, cO, cK, cN, cL, cM, aO, aK, bN, cF, jO, qH, jX, aBd, c16, c17, c18, c19, c20, c24, c27, c28, c31, c33]; first | done | (with_reducible exact rfl) | (with_reducible exact ⟨rfl, rfl⟩)) | (with_reducible exact rfl)) ?_
    | refine lB (by first | (simp only [aQ, aI, aH, cO, cK, cN, cL, cM, aO, aK, bN, cF, jO, qH, jX, aBd, c16, c17, c18, c19, c20, c24, c27, c28, c31, c33]; first | done | (with_reducible exact rfl) | (with_reducible exact ⟨rfl, rfl⟩)) | (with_reducible exact rfl)) ?_
    | refine oT ?_
    | refine oN ?_
    | refine oX ?_
    | refine hZ ?_
    | refine iA ?_
    | exact oF (aY ..)
    | apply oK
    | refine lT ?_
    | refine lN ?_
    | refine lX ?_
    | refine hU ?_
    | refine hY ?_
    | apply lK
    | refine oI ?_
    | refine oJ rfl ?_
    | refine lI ?_
    | refine lJ rfl ?_
    | (with_reducible exact rfl)
   rfl
  rw [if_neg h2] at h
  have c33 : bE Tryd.prog .eql 2 false (Nn s.steps) (I6 fuel) = some (.bool false) := by rw [fE, decide_eq_false h2]
  have c62 : bE Tryd.prog .add 2 true (Nn s.steps) (.int .i64 1) = some (Nn (s.steps + 1)) := by
   rw [gN, dJ (by omega) (by omega)]; congr 2
  have c67 := st8 p0 bor cs R M s (s.steps + 1)
  have c70 := ld4 G p0 bor cs R M { s with steps := s.steps + 1 }
  have c71 := jA p0 bor cs R M { s with steps := s.steps + 1 } (iI G p0 bor cs R M { s with steps := s.steps + 1 } (k + 3) hp 1 s.at_ (by simp only; omega))
  have et : (({ s with steps := s.steps + 1 } : MS).leak 1 s.at_) = s.tick := rfl
  rw [et] at c71
  have okt : s.tick.Ok R := ⟨hs.len, hs.regs, hs.mem, by simp [MS.tick, MS.leak]; omega, hs.big, by simp [MS.tick, MS.leak]; omega⟩
  have c75 := ld4 G p0 bor cs R M s.tick
  have eat : s.tick.at_ = s.at_ := rfl
  rw [eat] at c75
  have c77 := aBX bor cs s.at_ (by omega)
  have hi := hcs s.at_ (by omega)
  have tll : s.tick.leaks.length ≤ 999990 := by simp [MS.tick, MS.leak]; omega
  have c79 := jA p0 bor cs R M s.tick (rX G p0 hp bor cs R M s.tick (cs.getD s.at_ default) okt tll cs.length k hi (by rw [eat]; omega))
  obtain ⟨o1, o2, o3, o4⟩ := MS.step_ok okt hi (by simp [MS.tick, MS.leak]; omega) (by rw [eat]; omega)
  have hst2 : s.tick.steps = s.steps + 1 := rfl
  have c78 := aDy G bor (cs.getD s.at_ default)
  generalize cs.getD s.at_ default = i at *
  obtain ⟨s2, b, hsb⟩ : ∃ s2 b, s.tick.step i = (s2, b) := ⟨_, _, rfl⟩
  rw [hsb] at h c79 o1 o2 o3 o4
  simp only at h c79 o1 o2 o3 o4
  cases b
  ·simp only [Option.some.injEq] at h
   subst h
   have c83 := sI G p0 bor cs R M s2
   have c84 := sZ p0 bor cs R M s2
   repeat first
    | refine oB (by first | (simp only [aQ, aI, aH, cO, cK, cN, cL, cM, aO, aK, bN, cF, jO, qH, jX, aBd, c16, c17, c18, c19, c20, c31, c33, q2, c62, c67, c70, c71, c75, c77, c78, c79, c83, c84, Bool.not_true, Bool.not_false]; first | done | (with_reducible exact rfl) | (with_reducible exact ⟨rfl, rfl⟩)) | (with_reducible exact rfl)) ?_
    | refine lB (by first | (simp only [aQ, aI, aH, cO, cK, cN, cL, cM, aO, aK, bN, cF, jO, qH, jX, aBd, c16, c17, c18, c19, c20, c31, c33, q2, c62, c67, c70, c71, c75, c77, c78, c79, c83, c84, Bool.not_true, Bool.not_false]; first | done | (with_reducible exact rfl) | (with_reducible exact ⟨rfl, rfl⟩)) | (with_reducible exact rfl)) ?_
    | refine oT ?_
    | refine oN ?_
    | refine oX ?_
    | refine hZ ?_
    | refine iA ?_
    | exact oF (aY ..)
    | apply oK
    | refine lT ?_
    | refine lN ?_
    | refine lX ?_
    | refine hU ?_
    | refine hY ?_
    | apply lK
    | refine oI ?_
    | refine oJ rfl ?_
    | refine lI ?_
    | refine lJ rfl ?_
    | (with_reducible exact rfl)
   rfl
  ·simp only at h
   have ih := kP hf hcl hcs f s2 s' h o1 o2 (by rw [o3, hst2]; omega)
   unfold xsM at ih
   repeat first
    | refine oB (by first | (simp only [aQ, aI, aH, cO, cK, cN, cL, cM, aO, aK, bN, cF, jO, qH, jX, aBd, c16, c17, c18, c19, c20, c31, c33, q2, c62, c67, c70, c71, c75, c77, c78, c79, Bool.not_true, Bool.not_false]; first | done | (with_reducible exact rfl) | (with_reducible exact ⟨rfl, rfl⟩)) | (with_reducible exact rfl)) ?_
    | refine lB (by first | (simp only [aQ, aI, aH, cO, cK, cN, cL, cM, aO, aK, bN, cF, jO, qH, jX, aBd, c16, c17, c18, c19, c20, c31, c33, q2, c62, c67, c70, c71, c75, c77, c78, c79, Bool.not_true, Bool.not_false]; first | done | (with_reducible exact rfl) | (with_reducible exact ⟨rfl, rfl⟩)) | (with_reducible exact rfl)) ?_
    | refine oT ?_
    | refine oN ?_
    | refine oX ?_
    | refine hZ ?_
    | refine iA ?_
    | exact oF (aY ..)
    | apply oK
    | refine lT ?_
    | refine lN ?_
    | refine lX ?_
    | refine hU ?_
    | refine hY ?_
    | apply lK
    | refine oI ?_
    | refine oJ rfl ?_
    | refine lI ?_
    | refine lJ rfl ?_
    | (with_reducible exact rfl)
   exact ih
end
end Go.Proofs.YtcmblhedhgiofaaDoor.Mir
