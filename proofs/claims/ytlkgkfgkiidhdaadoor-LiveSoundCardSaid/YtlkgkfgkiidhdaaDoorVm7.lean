/- Part 7 of the proof: what these functions do. -/
import Derived.Test.YtlkgkfgkiidhdaaDoorVm6
import Derived.Test.YtlkgkfgkiidhdaaDoorRows
import Derived.KernelRfl
import Derived.SizedLaws
namespace Go.Proofs.YtlkgkfgkiidhdaaDoor
open Go Go.ChangeShapes Go.WideShapes Go.RowKit Mir
set_option linter.unusedVariables false
set_option linter.unusedSimpArgs false
namespace Rk
theorem own : ownKnob Tryd.prog.godebug = none := by kernel_rfl
theorem laidOut : laidOutB Tryd.prog = true := by kernel_rfl
theorem aJN : "*" ++ "errors.errorString" = "*errors.errorString" := by decide
theorem row (u : TypeId) (h : Tryd.prog.typeName? 3 u = some "*errors.errorString") : u = 179 :=
 typeName_ptr_named (nm := "errors.errorString") (by rw [aJN]; kernel_rfl) (by kernel_rfl) (by decide) u (by rw [aJN]; exact h)
noncomputable def low : Nat := (World.holding Tryd.prog default ⟨#[], #[], []⟩).heap.size
end Rk
end Go.Proofs.YtlkgkfgkiidhdaaDoor
namespace Go.Proofs.YtlkgkfgkiidhdaaDoor.Mir
open Go
set_option linter.unusedSimpArgs false
set_option linter.unusedVariables false
set_option maxHeartbeats 8000000
set_option maxRecDepth 20000
abbrev I6 (n : Int) : AV := .int .i64 n
abbrev Nn (n : Nat) : AV := .int .i64 (n : Int)
abbrev Un (n : Nat) : AV := .int .u64 (n : Int)
theorem kM (a : Nat) (h : a < 18446744073709551616) : (BitVec.ofInt 64 (a : Int)).toNat = a := by
 rw [BitVec.toNat_ofInt]
 omega
theorem aEr (a b : Nat) (ha : a < 18446744073709551616) (hb : b < 18446744073709551616) : bits .and .u64 (a : Int) (b : Int) = ((a &&& b : Nat) : Int) := by
 have hx : a &&& b ≤ a := Nat.and_le_left
 show IntKind.u64.wrap ((BitVec.ofInt 64 (a : Int) &&& BitVec.ofInt 64 (b : Int)).toNat : Int) = _
 rw [BitVec.toNat_and, kM a ha, kM b hb, iC (by omega) (by omega)]
theorem aJd (a b : Nat) (ha : a < 18446744073709551616) (hb : b < 18446744073709551616) : bits .or .u64 (a : Int) (b : Int) = ((a ||| b : Nat) : Int) := by
 have hx : a ||| b < 2 ^ 64 := Nat.or_lt_two_pow (by omega) (by omega)
 show IntKind.u64.wrap ((BitVec.ofInt 64 (a : Int) ||| BitVec.ofInt 64 (b : Int)).toNat : Int) = _
 rw [BitVec.toNat_or, kM a ha, kM b hb, iC (by omega) (by omega)]
theorem aHO (a b : Nat) (ha : a < 18446744073709551616) (hb : b < 18446744073709551616) : bits .xor .u64 (a : Int) (b : Int) = ((a ^^^ b : Nat) : Int) := by
 have hx : a ^^^ b < 2 ^ 64 := Nat.xor_lt_two_pow (by omega) (by omega)
 show IntKind.u64.wrap ((BitVec.ofInt 64 (a : Int) ^^^ BitVec.ofInt 64 (b : Int)).toNat : Int) = _
 rw [BitVec.toNat_xor, kM a ha, kM b hb, iC (by omega) (by omega)]
theorem nS (n : Nat) : IntKind.u64.wrap (n : Int) = ((n % 18446744073709551616 : Nat) : Int) := by rw [pO]; rfl
theorem aAU (P : Program) (t : Nat) (c : Bool) (a b : Nat) : aS P .add t c (Un a) (Un b) = some (Un ((a + b) % 18446744073709551616)) := by
 rw [gU, ← Int.natCast_add, nS]
theorem aAV (P : Program) (t : Nat) (c : Bool) (a b : Nat) : aS P .mul t c (Un a) (Un b) = some (Un (a * b % 18446744073709551616)) := by
 rw [aGT, ← Int.natCast_mul, nS]
theorem aHN (P : Program) (t : Nat) (c : Bool) (a b : Nat) (hb : b < 18446744073709551616) : aS P .sub t c (Un a) (Un b) = some (Un ((a + 18446744073709551616 - b) % 18446744073709551616)) := by
 rw [kH, pO]; congr 2; omega
theorem aEs (P : Program) (t : Nat) (c : Bool) (k : IntKind) (a n : Nat) (h : n ≤ 64) : aS P .shr t c (Un a) (.int k (n : Int)) = some (Un (a / 2 ^ n)) := by
 rw [aDI _ _ _ _ _ _ _ (Int.natCast_nonneg n)]
 have e : min ((n : Int)).toNat IntKind.u64.bits = n := by rw [Int.toNat_natCast]; exact Nat.min_eq_left h
 rw [e, aAv]
theorem aHM (P : Program) (t : Nat) (c : Bool) (k : IntKind) (a n : Nat) (h : n ≤ 64) : aS P .shl t c (Un a) (.int k (n : Int)) = some (Un (a * 2 ^ n % 18446744073709551616)) := by
 rw [aGU _ _ _ _ _ _ _ (Int.natCast_nonneg n)]
 have e : min ((n : Int)).toNat IntKind.u64.bits = n := by rw [Int.toNat_natCast]; exact Nat.min_eq_left h
 have e2 : ((a : Int) * 2 ^ n : Int) = ((a * 2 ^ n : Nat) : Int) := by push_cast; rfl
 rw [e, e2, nS]
def mB (a : Nat) : Int := if a ≥ 9223372036854775808 then (a : Int) - 18446744073709551616 else (a : Int)
def u64 (n : Int) : Nat := (n % 18446744073709551616).toNat
theorem aGF (n : Int) : u64 n < 18446744073709551616 := by unfold u64; omega
theorem wD (a : Nat) (h : a < 18446744073709551616) : eE .i64 (Un a) = some (I6 (mB a)) := by
 rw [jA, uV]; unfold mB; congr 2; split <;> split <;> omega
theorem rV (k : IntKind) (n : Int) : eE .u64 (.int k n) = some (Un (u64 n)) := by
 rw [jA, pO]; unfold u64; congr 2; omega
theorem aHL (n : Nat) (h : n < 18446744073709551616) : u64 (n : Int) = n := by unfold u64; omega
theorem aHv (x0 x1 y0 y1 : Nat) (hx0 : x0 < 4294967296) (hx1 : x1 < 4294967296) (hy0 : y0 < 4294967296) (hy1 : y1 < 4294967296) :
  x0 * y0 ≤ 18446744065119617025 ∧ x1 * y0 ≤ 18446744065119617025 ∧ x0 * y1 ≤ 18446744065119617025 ∧ x1 * y1 ≤ 18446744065119617025 ∧
  (x1 * 4294967296 + x0) * (y1 * 4294967296 + y0) = x1 * y1 * 18446744073709551616 + (x1 * y0 + x0 * y1) * 4294967296 + x0 * y0 := by
 have b : ∀ p q : Nat, p < 4294967296 → q < 4294967296 → p * q ≤ 18446744065119617025 := fun p q hp hq => by
  have := Nat.mul_le_mul (show p ≤ 4294967295 by omega) (show q ≤ 4294967295 by omega)
  omega
 refine ⟨b _ _ hx0 hy0, b _ _ hx1 hy0, b _ _ hx0 hy1, b _ _ hx1 hy1, ?_⟩
 simp only [Nat.add_mul, Nat.mul_add]
 have e1 : x1 * 4294967296 * (y1 * 4294967296) = x1 * y1 * 18446744073709551616 := by
  rw [Nat.mul_mul_mul_comm]
 have e2 : x1 * 4294967296 * y0 = x1 * y0 * 4294967296 := by rw [Nat.mul_right_comm]
 have e3 : x0 * (y1 * 4294967296) = x0 * y1 * 4294967296 := by rw [Nat.mul_assoc]
 rw [e1, e2, e3]; omega
theorem aIL (n : Nat) : n &&& 4294967295 = n % 4294967296 := Nat.and_two_pow_sub_one_eq_mod n 32
theorem aDb (G : aE) (k : Nat) (a b : Nat) (ha : a < 18446744073709551616) (hb : b < 18446744073709551616) :
  bL.f G (k + 1) [Un a, Un b] [] = some (.tup [Un (a * b / 18446744073709551616), Un (a * b % 18446744073709551616)], []) := by
 rw [bL.step]
 unfold bL.c
 have and32 : ∀ n : Nat, n < 18446744073709551616 → aS Tryd.prog .and 30 true (Un n) (.int .u64 4294967295) = some (Un (n % 4294967296)) := fun n hn => by
  rw [aDH]; have := aEr n 4294967295 hn (by omega); rw [aIL] at this; exact congrArg (fun z => some (AV.int .u64 z)) this
 have shr32 : ∀ n : Nat, aS Tryd.prog .shr 30 true (Un n) (.int .u64 32) = some (Un (n / 4294967296)) := fun n => aEs Tryd.prog 30 true .u64 n 32 (by omega)
 obtain ⟨x0, hx0⟩ : ∃ z, z = a % 4294967296 := ⟨_, rfl⟩
 obtain ⟨x1, hx1⟩ : ∃ z, z = a / 4294967296 := ⟨_, rfl⟩
 obtain ⟨y0, hy0⟩ : ∃ z, z = b % 4294967296 := ⟨_, rfl⟩
 obtain ⟨y1, hy1⟩ : ∃ z, z = b / 4294967296 := ⟨_, rfl⟩
 have c0 := and32 a ha
 have c1 := shr32 a
 have c2 := and32 b hb
 have c3 := shr32 b
 rw [← hx0] at c0
 rw [← hx1] at c1
 rw [← hy0] at c2
 rw [← hy1] at c3
 obtain ⟨b1, b2, b3, b4, hm⟩ := aHv x0 x1 y0 y1 (by omega) (by omega) (by omega) (by omega)
 have hab : a * b = x1 * y1 * 18446744073709551616 + (x1 * y0 + x0 * y1) * 4294967296 + x0 * y0 := by
  rw [← hm]; congr 1 <;> omega
 have m : ∀ p q : Nat, p * q ≤ 18446744065119617025 → aS Tryd.prog .mul 30 false (Un p) (Un q) = some (Un (p * q)) := fun p q h => by rw [aAV, Nat.mod_eq_of_lt (by omega)]
 have ad : ∀ p q : Nat, p + q < 18446744073709551616 → aS Tryd.prog .add 30 false (Un p) (Un q) = some (Un (p + q)) := fun p q h => by rw [aAU, Nat.mod_eq_of_lt h]
 have c4 := m x0 y0 b1
 have c5 := m x1 y0 b2
 have c10 := m x0 y1 b3
 have c12 := m x1 y1 b4
 have c16 := aAV Tryd.prog 30 false a b
 rw [hab] at c16 ⊢
 generalize x0 * y0 = A at *
 generalize x1 * y0 = B at *
 generalize x0 * y1 = C at *
 generalize x1 * y1 = D at *
 have c6 := shr32 A
 have c7 := ad B (A / 4294967296) (by omega)
 obtain ⟨E, hE⟩ : ∃ z, z = B + A / 4294967296 := ⟨_, rfl⟩
 rw [← hE] at c7
 have c8 := and32 E (by omega)
 have c9 := shr32 E
 have c11 := ad (E % 4294967296) C (by omega)
 obtain ⟨F, hF⟩ : ∃ z, z = E % 4294967296 + C := ⟨_, rfl⟩
 rw [← hF] at c11
 have c13 := ad D (E / 4294967296) (by omega)
 have c14 := shr32 F
 have c15 := ad (D + E / 4294967296) (F / 4294967296) (by omega)
 have r1 : (D * 18446744073709551616 + (B + C) * 4294967296 + A) / 18446744073709551616 = D + E / 4294967296 + F / 4294967296 := by omega
 rw [r1]
 generalize (D * 18446744073709551616 + (B + C) * 4294967296 + A) % 18446744073709551616 = Z at *
 generalize D + E / 4294967296 + F / 4294967296 = Y at *
 generalize D + E / 4294967296 = X at *
 generalize F / 4294967296 = X2 at *
 generalize E / 4294967296 = X3 at *
 generalize E % 4294967296 = X4 at *
 generalize A / 4294967296 = X5 at *
 clear hE hF hab hm
 repeat first
  | refine oB (by first | (simp only [bS, bK, bJ, fE, fA, fD, fB, fC, bM, bB, dP, c0, c1, c2, c3, c4, c5, c6, c7, c8, c9, c10, c11, c12, c13, c14, c15, c16]; first | done | (with_reducible exact rfl) | (with_reducible exact ⟨rfl, rfl⟩)) | (with_reducible exact rfl)) ?_
  | refine lB (by first | (simp only [bS, bK, bJ, fE, fA, fD, fB, fC, bM, bB, dP, c0, c1, c2, c3, c4, c5, c6, c7, c8, c9, c10, c11, c12, c13, c14, c15, c16]; first | done | (with_reducible exact rfl) | (with_reducible exact ⟨rfl, rfl⟩)) | (with_reducible exact rfl)) ?_
  | refine oT ?_
  | refine oN ?_
  | refine oX ?_
  | refine lW ?_
  | refine lY ?_
  | exact oF (cK ..)
  | apply oK
  | refine lT ?_
  | refine lN ?_
  | refine lX ?_
  | refine lU ?_
  | refine lV ?_
  | apply lK
  | refine oI ?_
  | refine oJ rfl ?_
  | refine lI ?_
  | refine lJ rfl ?_
  | (with_reducible exact rfl)
 exact oF (jD rfl rfl _)
def aHG (a n : Nat) : Nat := u64 ((mB a).fdiv (2 ^ n))
def dC (l : List Nat) : List AV := l.map fun n => Un n
theorem gX (l : List Nat) : (dC l).length = l.length := by simp [dC]
theorem iB (n : Nat) (l : List Nat) : aV n (dC l) = true := hZ n _ (fun _ => rfl) l
theorem aIA (l : List Nat) : gW (dC l) = true := jM _ (fun _ => rfl) l
theorem mM (l : List Nat) (j : Nat) (h : j < l.length) : (dC l)[j]? = some (Un (l.getD j 0)) := by
 simp [dC, List.getD, List.getElem?_eq_getElem h]
theorem zP (l : List Nat) (j x : Nat) : dC (l.set j x) = (dC l).set j (Un x) := by simp [dC, List.map_set]
def zK (p : Int × Int) : AV := .agg [I6 p.1, I6 p.2]
def iK (l : List (Int × Int)) : List AV := l.map zK
theorem kP (l : List (Int × Int)) : (iK l).length = l.length := by simp [iK]
theorem nK (n : Nat) (l : List (Int × Int)) : aV n (iK l) = true := hZ n _ (fun _ => rfl) l
theorem aAF {l : List Nat} {j x : Nat} (h : ∀ y ∈ l, y < 18446744073709551616) (hx : x < 18446744073709551616) : ∀ y ∈ l.set j x, y < 18446744073709551616 := by
 intro y hy
 rcases List.mem_or_eq_of_mem_set hy with h1 | rfl
 ·exact h y h1
 ·exact hx
theorem aDD (l : List Nat) : iN 1 (dC l) = true := kL 1 _ (fun _ => rfl) l
theorem aGR (l : List (Int × Int)) : iN 2 (iK l) = true := kL 2 _ (fun _ => rfl) l
theorem aGX (l : List (Int × Int)) : gW (iK l) = true := jM _ (fun _ => rfl) l
structure WI where
 op : Int
 d : Int
 a : Int
 b : Int
 c : Int
 k : Int
def WI.v (i : WI) : AV := .agg [I6 i.op, I6 i.d, I6 i.a, I6 i.b, I6 i.c, I6 i.k]
instance : Inhabited WI := ⟨⟨0, 0, 0, 0, 0, 0⟩⟩
def bW (ws : List WI) : List AV := ws.map WI.v
theorem gG (ws : List WI) : (bW ws).length = ws.length := by simp [bW]
section
variable (G : aE) (k : Nat) (self : cU) (bor : Bool) (ws : List WI) (r m : Int)
def cV (bor : Bool) (ws : List WI) (r m : Int) : AV := .agg [.ro bor (bW ws), I6 r, I6 m]
theorem fI (n : Nat) (l : List WI) : aV n (bW l) = true := hZ n _ (fun _ => rfl) l
end
def iY (op k : Int) (a : Nat) : Nat × Bool :=
 if k < 0 ∨ 63 < k then (0, false)
 else if op = 10 then (a * 2 ^ k.toNat % 18446744073709551616, true)
 else if op = 11 then (a / 2 ^ k.toNat, true)
 else (aHG a k.toNat, true)
def kA (op k : Int) (a b c : Nat) : Nat × Bool :=
 if op = 1 then (u64 k, true)
 else if op = 2 then (a, true)
 else if op = 3 then ((a + b) % 18446744073709551616, true)
 else if op = 4 then ((a + 18446744073709551616 - b) % 18446744073709551616, true)
 else if op = 5 then (a * b % 18446744073709551616, true)
 else if op = 6 then (a * b / 18446744073709551616, true)
 else if op = 7 then (a &&& b, true)
 else if op = 8 then (a ||| b, true)
 else if op = 9 then (a ^^^ b, true)
 else if op = 10 ∨ op = 11 ∨ op = 12 then iY op k a
 else if op = 13 then (if a < b then 1 else 0, true)
 else if op = 14 then (if a ≠ 0 then b else c, true)
 else (0, false)
structure MS where
 regs : List Nat
 at_ : Nat
 code : Int
 mem : List Nat
 leaks : List (Int × Int)
 steps : Nat
def MS.leak (s : MS) (kind at_ : Int) : MS := { s with leaks := s.leaks ++ [(kind, at_)] }
def MS.rg (s : MS) (i : Int) : Nat := s.regs.getD i.toNat 0
def MS.set (s : MS) (i : Int) (n : Nat) : MS := { s with regs := s.regs.set i.toNat n }
def MS.touch (s : MS) (i : WI) : MS × Bool :=
 let ad := (s.rg i.a + u64 i.k) % 18446744073709551616
 let s1 := s.leak 3 (mB ad)
 if s.mem.length ≤ ad then ({ s1 with code := 3 }, false)
 else if i.op = 15 then (s1.set i.d (s.mem.getD ad 0), true)
 else ({ s1 with mem := s.mem.set ad (s.rg i.b) }, true)
def MS.branch (s : MS) (i : WI) : MS :=
 if i.op = 17 then { s with at_ := i.k.toNat }
 else if (decide (s.rg i.a = 0) == decide (i.op = 18)) = true then { s.leak 2 1 with at_ := i.k.toNat }
 else s.leak 2 0
def MS.step (s : MS) (i : WI) : MS × Bool :=
 let s := { s with at_ := s.at_ + 1 }
 if i.op = 15 ∨ i.op = 16 then s.touch i
 else if i.op = 17 ∨ i.op = 18 ∨ i.op = 19 then (s.branch i, true)
 else if i.op = 20 then ({ s with code := i.k }, false)
 else if (kA i.op i.k (s.rg i.a) (s.rg i.b) (s.rg i.c)).2 = true then (s.set i.d (kA i.op i.k (s.rg i.a) (s.rg i.b) (s.rg i.c)).1, true)
 else (s, true)
structure MS.Ok (s : MS) (R : Nat) : Prop where
 len : s.regs.length = R
 regs : ∀ x ∈ s.regs, x < 18446744073709551616
 mem : ∀ x ∈ s.mem, x < 18446744073709551616
 leaks : s.leaks.length ≤ 3 * s.steps
 big : s.mem.length ≤ 1000000
 few : s.steps ≤ 100000
theorem MS.Ok.rg {s : MS} {R : Nat} (h : s.Ok R) (i : Int) : s.rg i < 18446744073709551616 := by
 unfold MS.rg
 rw [List.getD_eq_getElem?_getD]
 cases hq : s.regs[i.toNat]? with
 | none => decide
 | some x => exact h.regs x (List.mem_of_getElem? hq)
theorem MS.Ok.mg {s : MS} {R : Nat} (h : s.Ok R) (i : Nat) : s.mem.getD i 0 < 18446744073709551616 := by
 rw [List.getD_eq_getElem?_getD]
 cases hq : s.mem[i]? with
 | none => decide
 | some x => exact h.mem x (List.mem_of_getElem? hq)
structure WI.Ok (i : WI) (R n : Nat) : Prop where
 op : 1 ≤ i.op ∧ i.op ≤ 20
 a : i.op ≠ 17 → i.op ≠ 20 → 0 ≤ i.a ∧ i.a < R
 d : i.op ≤ 16 → 0 ≤ i.d ∧ i.d < R
 b : i.op ≤ 16 → 0 ≤ i.b ∧ i.b < R
 c : i.op ≤ 16 → 0 ≤ i.c ∧ i.c < R
 k : 17 ≤ i.op → i.op ≤ 19 → 0 ≤ i.k ∧ i.k ≤ n
section
variable (G : aE) (i : WI)
theorem aGH (H : aA) : cN i.v H = some (.rp false i.v 0, H) := rfl
theorem gi0 : aB 0 (.rp false i.v 0) = some (.rp false i.v 0) := rfl
theorem gi1 : aB 1 (.rp false i.v 0) = some (.rp false i.v 1) := rfl
theorem gi2 : aB 2 (.rp false i.v 0) = some (.rp false i.v 2) := rfl
theorem gi3 : aB 3 (.rp false i.v 0) = some (.rp false i.v 3) := rfl
theorem gi4 : aB 4 (.rp false i.v 0) = some (.rp false i.v 4) := rfl
theorem gi5 : aB 5 (.rp false i.v 0) = some (.rp false i.v 5) := rfl
theorem aCx (H : aA) : aI G false 1 (.rp false i.v 0) H = some (I6 i.op) := rfl
theorem aGI (H : aA) : aI G false 1 (.rp false i.v 1) H = some (I6 i.d) := rfl
theorem aEu (H : aA) : aI G false 1 (.rp false i.v 2) H = some (I6 i.a) := rfl
theorem gl3 (H : aA) : aI G false 1 (.rp false i.v 3) H = some (I6 i.b) := rfl
theorem aIt (H : aA) : aI G false 1 (.rp false i.v 4) H = some (I6 i.c) := rfl
theorem aGJ (H : aA) : aI G false 1 (.rp false i.v 5) H = some (I6 i.k) := rfl
theorem aJO (H : aA) : aI G true 6 (.rp false i.v 0) H = some i.v := rfl
end
theorem aHQ (op k : Int) (a b c : Nat) (ha : a < 18446744073709551616) (hb : b < 18446744073709551616) (hc : c < 18446744073709551616) : (kA op k a b c).1 < 18446744073709551616 := by
 have hm : ∀ n : Nat, n % 18446744073709551616 < 18446744073709551616 := fun n => Nat.mod_lt _ (by decide)
 have hs : (iY op k a).1 < 18446744073709551616 := by
  unfold iY
  split
  ·decide
  ·split
   ·exact hm _
   ·split
    ·exact Nat.lt_of_le_of_lt (Nat.div_le_self _ _) ha
    ·exact aGF _
 unfold kA
 by_cases e0 : op = 1
 ·rw [if_pos e0]; exact aGF _
 rw [if_neg e0]
 by_cases e1 : op = 2
 ·rw [if_pos e1]; exact ha
 rw [if_neg e1]
 by_cases e2 : op = 3
 ·rw [if_pos e2]; exact hm _
 rw [if_neg e2]
 by_cases e3 : op = 4
 ·rw [if_pos e3]; exact hm _
 rw [if_neg e3]
 by_cases e4 : op = 5
 ·rw [if_pos e4]; exact hm _
 rw [if_neg e4]
 by_cases e5 : op = 6
 ·rw [if_pos e5]; exact Nat.div_lt_of_lt_mul (Nat.mul_lt_mul'' ha hb)
 rw [if_neg e5]
 by_cases e6 : op = 7
 ·rw [if_pos e6]; exact Nat.lt_of_le_of_lt Nat.and_le_left ha
 rw [if_neg e6]
 by_cases e7 : op = 8
 ·rw [if_pos e7]; exact Nat.or_lt_two_pow (n := 64) ha hb
 rw [if_neg e7]
 by_cases e8 : op = 9
 ·rw [if_pos e8]; exact Nat.xor_lt_two_pow (n := 64) ha hb
 rw [if_neg e8]
 by_cases e9 : op = 10 ∨ op = 11 ∨ op = 12
 ·rw [if_pos e9]; exact hs
 rw [if_neg e9]
 by_cases e10 : op = 13
 ·rw [if_pos e10]; show (if a < b then 1 else 0) < 18446744073709551616; by_cases q : a < b
  ·rw [if_pos q]; decide
  ·rw [if_neg q]; decide
 rw [if_neg e10]
 by_cases e11 : op = 14
 ·rw [if_pos e11]; show (if a ≠ 0 then b else c) < 18446744073709551616; by_cases q : a ≠ 0
  ·rw [if_pos q]; exact hb
  ·rw [if_neg q]; exact hc
 rw [if_neg e11]
 decide
theorem MS.step_ok {s : MS} {R n : Nat} {i : WI} (h : s.Ok R) (hi : i.Ok R n) (hl : s.leaks.length + 1 ≤ 3 * s.steps) (hn : s.at_ < n) : (s.step i).1.Ok R ∧ (s.step i).1.at_ ≤ n ∧ (s.step i).1.steps = s.steps ∧ (s.step i).1.mem.length = s.mem.length := by
 have ok1 : ({ s with at_ := s.at_ + 1 } : MS).Ok R := ⟨h.len, h.regs, h.mem, h.leaks, h.big, h.few⟩
 unfold MS.step
 simp only
 split
 ·unfold MS.touch
  simp only [MS.leak, MS.set]
  split
  ·exact ⟨⟨h.len, h.regs, h.mem, by simpa using hl, h.big, h.few⟩, hn, rfl, rfl⟩
  ·split
   ·exact ⟨⟨by simpa using h.len, aAF h.regs (h.mg _), h.mem, by simpa using hl, h.big, h.few⟩, hn, rfl, rfl⟩
   ·exact ⟨⟨h.len, h.regs, aAF h.mem (ok1.rg _), by simpa using hl, by simpa using h.big, h.few⟩, hn, rfl, by simp⟩
 ·split
  ·rename_i h2
   have hk := hi.k (by omega) (by omega)
   unfold MS.branch
   split
   ·exact ⟨⟨h.len, h.regs, h.mem, h.leaks, h.big, h.few⟩, by simp only; omega, rfl, rfl⟩
   ·split
    ·exact ⟨⟨h.len, h.regs, h.mem, by simpa [MS.leak] using hl, h.big, h.few⟩, by simp only; omega, rfl, rfl⟩
    ·exact ⟨⟨h.len, h.regs, h.mem, by simpa [MS.leak] using hl, h.big, h.few⟩, hn, rfl, rfl⟩
  ·split
   ·exact ⟨⟨h.len, h.regs, h.mem, h.leaks, h.big, h.few⟩, hn, rfl, rfl⟩
   ·split
    ·exact ⟨⟨by simpa [MS.set] using h.len, aAF h.regs (aHQ _ _ _ _ _ (ok1.rg _) (ok1.rg _) (ok1.rg _)), h.mem, h.leaks, h.big, h.few⟩, hn, rfl, rfl⟩
    ·exact ⟨ok1, hn, rfl, rfl⟩
def MS.tick (s : MS) : MS := ({ s with steps := s.steps + 1 } : MS).leak 1 s.at_
def iX (cs : List WI) (fuel : Int) : Nat → MS → Option MS
 | 0, _ => none
 | f + 1, s =>
  if cs.length ≤ s.at_ then some { s with code := 3 }
  else if (s.steps : Int) = fuel then some { s with code := 4 }
  else match s.tick.step (cs.getD s.at_ default) with
   | (s', true) => iX cs fuel f s'
   | (s', false) => some s'
section
variable (G : aE) (bor : Bool) (cs : List WI)
theorem zE (j : Nat) (h : j < cs.length) : aH 6 (.ro bor (bW cs)) (Nn j) = some (.rp bor (cs.getD j default).v 0) := by
 have h0 : (0 : Int) ≤ (j : Int) := by omega
 have e : (bW cs)[(j : Int).toNat]? = some (cs.getD j default).v := by
  rw [Int.toNat_natCast]
  simp [bW, List.getElem?_map, List.getD, List.getElem?_eq_getElem h]
 unfold aH
 simp only [e]
 rw [if_pos h0]
 rfl
theorem aBN (i : WI) (H : aA) : aI G true 6 (.rp bor i.v 0) H = some i.v := rfl
end
theorem zV (cs : List WI) (fuel : Int) : ∀ (f : Nat) (s : MS), (s.steps : Int) ≤ fuel → fuel - s.steps < f → ∃ s', iX cs fuel f s = some s'
 | 0, s, h, h2 => by omega
 | f + 1, s, h, h2 => by
  simp only [iX]
  by_cases h1 : cs.length ≤ s.at_
  ·rw [if_pos h1]; exact ⟨_, rfl⟩
  rw [if_neg h1]
  by_cases h3 : (s.steps : Int) = fuel
  ·rw [if_pos h3]; exact ⟨_, rfl⟩
  rw [if_neg h3]
  have e : ∀ i, (s.tick.step i).1.steps = s.steps + 1 := fun i => by
   unfold MS.step MS.touch MS.branch
   simp only
   repeat' split
   all_goals rfl
  have e' := e (cs.getD s.at_ default)
  obtain ⟨s2, b, hsb⟩ : ∃ s2 b, s.tick.step (cs.getD s.at_ default) = (s2, b) := ⟨_, _, rfl⟩
  rw [hsb] at e' ⊢
  cases b
  ·exact ⟨_, rfl⟩
  ·exact zV cs fuel f s2 (by simp only at e'; omega) (by simp only at e'; omega)
def s0 (R : Nat) (mem : List Nat) : MS := ⟨List.replicate R 0, 0, 0, mem, [], 0⟩
theorem aIm (R : Nat) (mem : List Nat) (hm : ∀ x ∈ mem, x < 18446744073709551616) (hl : mem.length ≤ 1000000) : (s0 R mem).Ok R :=
 ⟨by simp [s0], fun x hx => by simp [s0] at hx; omega, hm, by simp [s0], hl, by simp [s0]⟩
theorem aDC (l : List WI) : iN 6 (bW l) = true := kL 6 _ (fun _ => rfl) l
theorem pE (l : List WI) : fF (bW l) = true := nN _ (fun _ => rfl) l
section
variable {cs : List WI} {fuel : Int} {f : Nat} {s s2 : MS} {i : WI}
theorem aHF (h1 : s.at_ < cs.length) (h2 : (s.steps : Int) ≠ fuel) (hi : cs.getD s.at_ default = i) (h : s.tick.step i = (s2, true)) : iX cs fuel (f + 1) s = iX cs fuel f s2 := by
 simp only [iX]
 rw [if_neg (by omega), if_neg h2, hi, h]
end
def ro (e : Nat) : Nat := if e = 0 then 1 else if e = 1 then 2 else if e = 2 then 0 else if e = 3 then 4 else if e = 4 then 3 else 5
structure Frm where
 d : Bool
 a : Bool
 b : Bool
 c : Bool
 k : Bool
def gH (op : Int) : Option Frm :=
 if op = 1 then some ⟨true, false, false, false, true⟩
 else if op = 2 then some ⟨true, true, false, false, false⟩
 else if (3 ≤ op ∧ op ≤ 9) ∨ op = 13 then some ⟨true, true, true, false, false⟩
 else if (10 ≤ op ∧ op ≤ 12) ∨ op = 15 then some ⟨true, true, false, false, true⟩
 else if op = 14 then some ⟨true, true, true, true, false⟩
 else if op = 16 then some ⟨false, true, true, false, true⟩
 else if op = 17 ∨ op = 20 then some ⟨false, false, false, false, true⟩
 else if op = 18 ∨ op = 19 then some ⟨false, true, false, false, true⟩
 else none
def dA (op : Int) : ByteArray :=
 if op = 1 then ⟨#[99, 111, 110, 115, 116]⟩ else if op = 2 then ⟨#[109, 111, 118]⟩ else if op = 3 then ⟨#[97, 100, 100]⟩ else if op = 4 then ⟨#[115, 117, 98]⟩ else if op = 5 then ⟨#[109, 117, 108]⟩
 else if op = 6 then ⟨#[104, 105, 103, 104]⟩ else if op = 7 then ⟨#[97, 110, 100]⟩ else if op = 8 then ⟨#[111, 114]⟩ else if op = 9 then ⟨#[120, 111, 114]⟩ else if op = 10 then ⟨#[115, 104, 108]⟩
 else if op = 11 then ⟨#[115, 104, 114]⟩ else if op = 12 then ⟨#[115, 97, 114]⟩ else if op = 13 then ⟨#[108, 101, 115, 115]⟩ else if op = 14 then ⟨#[115, 101, 108]⟩ else if op = 15 then ⟨#[108, 100]⟩
 else if op = 16 then ⟨#[115, 116]⟩ else if op = 17 then ⟨#[98, 114]⟩ else if op = 18 then ⟨#[98, 122]⟩ else if op = 19 then ⟨#[98, 110, 122]⟩ else if op = 20 then ⟨#[104, 97, 108, 116]⟩ else ⟨#[110, 111, 110, 101]⟩
def fX (w : ByteArray) (f : Frm) : AV := .agg [.str w, .bool f.d, .bool f.a, .bool f.b, .bool f.c, .bool f.k]
def eA (op : Int) : Frm := match gH op with | some f => f | none => ⟨false, false, false, false, false⟩
theorem aHB {op : Int} (h : 1 ≤ op ∧ op ≤ 20) : op = 1 ∨ op = 2 ∨ op = 3 ∨ op = 4 ∨ op = 5 ∨ op = 6 ∨ op = 7 ∨ op = 8 ∨ op = 9 ∨ op = 10 ∨ op = 11 ∨ op = 12 ∨ op = 13 ∨ op = 14 ∨ op = 15 ∨ op = 16 ∨ op = 17 ∨ op = 18 ∨ op = 19 ∨ op = 20 := by omega
theorem sW {op : Int} (h : ¬ (1 ≤ op ∧ op ≤ 20)) : gH op = none := by
 unfold gH
 repeat rw [if_neg (by omega)]
theorem aDw {op : Int} (h : ¬ (1 ≤ op ∧ op ≤ 20)) : dA op = ⟨#[110, 111, 110, 101]⟩ := by
 unfold dA
 repeat rw [if_neg (by omega)]
theorem tS (G : aE) (k : Nat) (op : Int) : dF.f G (k + 4) [I6 op] [] = some (.tup [fX (dA op) (eA op), .bool (gH op).isSome], []) := by
 by_cases h : 1 ≤ op ∧ op ≤ 20
 ·rcases aHB h with rfl | rfl | rfl | rfl | rfl | rfl | rfl | rfl | rfl | rfl | rfl | rfl | rfl | rfl | rfl | rfl | rfl | rfl | rfl | rfl <;> kernel_rfl
 ·rw [dF.step]
  unfold dF.c
  unfold eA
  rw [sW h, aDw h]
  refine iE ?_
  have fx := True.intro
  refine xZ ?_
  refine gM ?_
  rfl
def bsV (f : Frm) : AV := .ro false [.bool f.d, .bool f.a, .bool f.b, .bool f.c, .bool f.k]
def isV (i : WI) : AV := .ro false [I6 i.d, I6 i.a, I6 i.b, I6 i.c, I6 i.k]
theorem aFE (G : aE) (k : Nat) (i : WI) (w : ByteArray) (f : Frm) : eQ.f G (k + 1) [i.v, fX w f] [] = some (.tup [bsV f, isV i], []) := by kernel_rfl
abbrev eV (g : Nat) : AV := .iface 179 (.gp (ro g))
def nM (is : Bool) (r R : Int) : Bool := is && (decide (r < 0) || decide (R ≤ r))
section
variable (G : aE) (k : Nat) (self : cU) (c1 : AV) (R : Int) (hR0 : 0 ≤ R)
abbrev bxC (cv : AV) (R M : Int) : AV := .rp false (.agg [cv, I6 R, I6 M]) 0
abbrev xs6 (cv : AV) (R M : Int) (i : WI) (f : Frm) (j : Int) : List AV := [bxC cv R M, .rp false i.v 0, .nili, bsV f, isV i, I6 j]
theorem qZ {bor : Bool} {xs : List AV} {k' : IntKind} {j : Nat} {y : AV} (h : xs[j]? = some y) (h1 : y.cells.length = 1) : aH 1 (.ro bor xs) (.int k' (j : Int)) = some (.rp bor y 0) := by
 unfold aH
 simp [h, h1]
theorem aIa {b bor : Bool} {H : aA} : aI G false 1 (.rp bor (.bool b) 0) H = some (.bool b) := rfl
theorem aIb {n : Int} {bor : Bool} {H : aA} : aI G false 1 (.rp bor (I6 n) 0) H = some (I6 n) := rfl
theorem sF (cv : AV) (M : Int) (i : WI) (f : Frm) (j : Nat) (hj : j < 4) (t : Bool) (p : Int) (ht : [AV.bool f.d, .bool f.a, .bool f.b, .bool f.c, .bool f.k][j]? = some (.bool t)) (hp : [I6 i.d, I6 i.a, I6 i.b, I6 i.c, I6 i.k][j]? = some (I6 p))
  (hG : G 0 = some (eV 2)) (hcl : aP 0 cv = true) (n : Nat) :
  cM (bZ.l6 G k 1 self) (n + 1) (xs6 cv R M i f j) [⟨100, 6, [fX (dA i.op) f]⟩] =
   if nM t p R = true then some (.ret, [bxC cv R M, .rp false i.v 0, eV 2, bsV f, isV i, I6 j], [⟨100, 6, [fX (dA i.op) f]⟩])
   else cM (bZ.l6 G k 1 self) n (xs6 cv R M i f (j + 1 : Nat)) [⟨100, 6, [fX (dA i.op) f]⟩] := by
 rw [aU, bZ.l6]
 have hc : eZ 1 (xs6 cv R M i f j) [⟨100, 6, [fX (dA i.op) f]⟩] = some [⟨100, 6, [fX (dA i.op) f]⟩] := by
  have := eP (Nat.zero_le 1) hcl
  simp [eZ, aV, aP, cF, this, bsV, isV, WI.v, fX]
 have d1 : aH 1 (bsV f) (I6 j) = some (.rp false (.bool t) 0) := qZ ht rfl
 have d2 : aH 1 (isV i) (I6 j) = some (.rp false (I6 p) 0) := qZ hp rfl
 have l1 := fun (b bor : Bool) (H : aA) => @aIa G b bor H
 have l2 := fun (n : Int) (bor : Bool) (H : aA) => @aIb G n bor H
 have l3 : ∀ H, aI G false 1 (.gl 0) H = some (eV 2) := fun H => hG
 refine fM ?_
 refine eC hc ?_
 cases t
 ·rw [show nM false p R = false from rfl, if_neg (by simp)]
  have fx := aKE d1 <| aKE d2 <| aKE l1 <| l2
  refine xZ ?_
  rfl
 ·by_cases ho : p < 0 ∨ R ≤ p
  ·have e : nM true p R = true := by unfold nM; rcases ho with h | h <;> simp [h]
   rw [if_pos e]
   have fx := aKE d1 <| aKE d2 <| aKE l1 <| aKE l2 <| l3
   refine xZ ?_
   rfl
  ·have e : nM true p R = false := by unfold nM; simp; omega
   rw [if_neg (by simp [e])]
   have fx := aKE d1 <| aKE d2 <| aKE l1 <| aKE l2 <| l3
   refine xZ ?_
   rfl
theorem aII (cv : AV) (M : Int) (i : WI) (f : Frm) (hcl : aP 0 cv = true) (n : Nat) :
  cM (bZ.l6 G k 1 self) (n + 1) (xs6 cv R M i f (4 : Nat)) [⟨100, 6, [fX (dA i.op) f]⟩] = some (.exit 0, xs6 cv R M i f (4 : Nat), [⟨100, 6, [fX (dA i.op) f]⟩]) := by
 rw [aU, bZ.l6]
 have hc : eZ 1 (xs6 cv R M i f (4 : Nat)) [⟨100, 6, [fX (dA i.op) f]⟩] = some [⟨100, 6, [fX (dA i.op) f]⟩] := by
  have := eP (Nat.zero_le 1) hcl
  simp [eZ, aV, aP, cF, this, bsV, isV, WI.v, fX]
 refine fM ?_
 refine eC hc ?_
 have fx := True.intro
 refine xZ ?_
 rfl
def qI (f : Frm) (i : WI) (R : Int) : Bool := nM f.d i.d R || nM f.a i.a R || nM f.b i.b R || nM f.c i.c R
def qH (f : Frm) (i : WI) : Bool := (!f.d && decide (i.d ≠ 0)) || (!f.a && decide (i.a ≠ 0)) || (!f.b && decide (i.b ≠ 0)) || (!f.c && decide (i.c ≠ 0)) || (!f.k && decide (i.k ≠ 0))
theorem aIH (cv : AV) (M : Int) (i : WI) (f : Frm) (hG : G 0 = some (eV 2)) (hcl : aP 0 cv = true) (n : Nat) :
  (qI f i R = true → ∃ j, cM (bZ.l6 G k 1 self) (n + 5) (xs6 cv R M i f (0 : Nat)) [⟨100, 6, [fX (dA i.op) f]⟩] = some (.ret, [bxC cv R M, .rp false i.v 0, eV 2, bsV f, isV i, j], [⟨100, 6, [fX (dA i.op) f]⟩])) ∧
  (qI f i R = false → cM (bZ.l6 G k 1 self) (n + 5) (xs6 cv R M i f (0 : Nat)) [⟨100, 6, [fX (dA i.op) f]⟩] = some (.exit 0, xs6 cv R M i f (4 : Nat), [⟨100, 6, [fX (dA i.op) f]⟩])) := by
 rw [sF G k self R cv M i f 0 (by omega) f.d i.d rfl rfl hG hcl]
 rw [sF G k self R cv M i f 1 (by omega) f.a i.a rfl rfl hG hcl]
 rw [sF G k self R cv M i f 2 (by omega) f.b i.b rfl rfl hG hcl]
 rw [sF G k self R cv M i f 3 (by omega) f.c i.c rfl rfl hG hcl]
 rw [aII G k self R cv M i f hcl]
 unfold qI
 generalize nM f.d i.d R = o1
 generalize nM f.a i.a R = o2
 generalize nM f.b i.b R = o3
 generalize nM f.c i.c R = o4
 cases o1 <;> cases o2 <;> cases o3 <;> cases o4 <;> simp
abbrev aBa (cv : AV) (R M : Int) (i : WI) (f : Frm) (j : Int) : List AV := [bxC cv R M, .rp false i.v 0, .nili, isV i, bsV f, .int .i64 5, I6 j]
theorem mI (cv : AV) (M : Int) (i : WI) (f : Frm) (j : Nat) (hj : j < 5) (t : Bool) (p : Int) (ht : [AV.bool f.d, .bool f.a, .bool f.b, .bool f.c, .bool f.k][j]? = some (.bool t)) (hp : [I6 i.d, I6 i.a, I6 i.b, I6 i.c, I6 i.k][j]? = some (I6 p))
  (hG : G 4 = some (eV 3)) (hcl : aP 0 cv = true) (n : Nat) :
  cM (bZ.l12 G k 1 self) (n + 1) (aBa cv R M i f j) [⟨100, 6, [fX (dA i.op) f]⟩] =
   if (!t && decide (p ≠ 0)) = true then some (.ret, [bxC cv R M, .rp false i.v 0, eV 3, isV i, bsV f, .int .i64 5, I6 j], [⟨100, 6, [fX (dA i.op) f]⟩])
   else cM (bZ.l12 G k 1 self) n (aBa cv R M i f (j + 1 : Nat)) [⟨100, 6, [fX (dA i.op) f]⟩] := by
 rw [aU, bZ.l12]
 have hc : eZ 1 (aBa cv R M i f j) [⟨100, 6, [fX (dA i.op) f]⟩] = some [⟨100, 6, [fX (dA i.op) f]⟩] := by
  have := eP (Nat.zero_le 1) hcl
  simp [eZ, aV, aP, cF, this, bsV, isV, WI.v, fX]
 have d1 : aH 1 (bsV f) (I6 j) = some (.rp false (.bool t) 0) := qZ ht rfl
 have d2 : aH 1 (isV i) (I6 j) = some (.rp false (I6 p) 0) := qZ hp rfl
 have l1 := fun (b bor : Bool) (H : aA) => @aIa G b bor H
 have l2 := fun (n : Int) (bor : Bool) (H : aA) => @aIb G n bor H
 have l3 : ∀ H, aI G false 1 (.gl 4) H = some (eV 3) := fun H => hG
 refine fM ?_
 refine eC hc ?_
 cases t
 ·by_cases ho : p ≠ 0
  ·rw [if_pos (by simp [ho])]
   have fx := aKE d1 <| aKE d2 <| aKE l1 <| aKE l2 <| l3
   refine xZ ?_
   rfl
  ·rw [if_neg (by simp [ho])]
   have fx := aKE d1 <| aKE d2 <| aKE l1 <| aKE l2 <| l3
   refine xZ ?_
   rfl
 ·rw [if_neg (by simp)]
  have fx := aKE d1 <| aKE d2 <| aKE l1 <| l2
  refine xZ ?_
  rfl
theorem aHo (cv : AV) (M : Int) (i : WI) (f : Frm) (hcl : aP 0 cv = true) (n : Nat) :
  cM (bZ.l12 G k 1 self) (n + 1) (aBa cv R M i f (5 : Nat)) [⟨100, 6, [fX (dA i.op) f]⟩] = some (.exit 2, aBa cv R M i f (5 : Nat), [⟨100, 6, [fX (dA i.op) f]⟩]) := by
 rw [aU, bZ.l12]
 have hc : eZ 1 (aBa cv R M i f (5 : Nat)) [⟨100, 6, [fX (dA i.op) f]⟩] = some [⟨100, 6, [fX (dA i.op) f]⟩] := by
  have := eP (Nat.zero_le 1) hcl
  simp [eZ, aV, aP, cF, this, bsV, isV, WI.v, fX]
 refine fM ?_
 refine eC hc ?_
 have fx := True.intro
 refine xZ ?_
 rfl
theorem aHn (cv : AV) (M : Int) (i : WI) (f : Frm) (hG : G 4 = some (eV 3)) (hcl : aP 0 cv = true) (n : Nat) :
  (qH f i = true → ∃ j, cM (bZ.l12 G k 1 self) (n + 6) (aBa cv R M i f (0 : Nat)) [⟨100, 6, [fX (dA i.op) f]⟩] = some (.ret, [bxC cv R M, .rp false i.v 0, eV 3, isV i, bsV f, .int .i64 5, j], [⟨100, 6, [fX (dA i.op) f]⟩])) ∧
  (qH f i = false → cM (bZ.l12 G k 1 self) (n + 6) (aBa cv R M i f (0 : Nat)) [⟨100, 6, [fX (dA i.op) f]⟩] = some (.exit 2, aBa cv R M i f (5 : Nat), [⟨100, 6, [fX (dA i.op) f]⟩])) := by
 rw [mI G k self R cv M i f 0 (by omega) f.d i.d rfl rfl hG hcl]
 rw [mI G k self R cv M i f 1 (by omega) f.a i.a rfl rfl hG hcl]
 rw [mI G k self R cv M i f 2 (by omega) f.b i.b rfl rfl hG hcl]
 rw [mI G k self R cv M i f 3 (by omega) f.c i.c rfl rfl hG hcl]
 rw [mI G k self R cv M i f 4 (by omega) f.k i.k rfl rfl hG hcl]
 rw [aHo G k self R cv M i f hcl]
 unfold qH
 generalize (!f.d && decide (i.d ≠ 0)) = o1
 generalize (!f.a && decide (i.a ≠ 0)) = o2
 generalize (!f.b && decide (i.b ≠ 0)) = o3
 generalize (!f.c && decide (i.c ≠ 0)) = o4
 generalize (!f.k && decide (i.k ≠ 0)) = o5
 cases o1 <;> cases o2 <;> cases o3 <;> cases o4 <;> cases o5 <;> simp
end
def gC (i : WI) (R n : Int) : Option Nat :=
 if (gH i.op).isSome = false then some 4
 else if qI (eA i.op) i R = true then some 2
 else if qH (eA i.op) i = true then some 3
 else if i.op = 10 ∨ i.op = 11 ∨ i.op = 12 then (if i.k < 0 ∨ 63 < i.k then some 2 else none)
 else if i.op = 20 then (if i.k < 0 ∨ 2 < i.k then some 2 else none)
 else if i.op = 15 ∨ i.op = 16 then (if i.k < 0 ∨ 65535 < i.k then some 2 else none)
 else if i.op = 17 ∨ i.op = 18 ∨ i.op = 19 then (if i.k < 0 ∨ n < i.k then some 5 else none)
 else none
def aED (o : Option Nat) : AV := match o with | some g => eV g | none => .nili
structure GOk (G : aE) : Prop where
 g0 : G 1 = some (eV 0)
 g2 : G 0 = some (eV 2)
 g3 : G 4 = some (eV 3)
 g4 : G 3 = some (eV 4)
 g5 : G 5 = some (eV 5)
theorem w1e {x : AV} {o : Option Nat} {H : aA} (e : aED o = x) (hx : aP 0 x = true) : E fH [] (cQ [x] 0 H) (some (aED o, [])) := by subst e; exact oF (jO hx H)
theorem aDs {bor : Bool} (G : aE) (hg : GOk G) (k : Nat) (cs : List WI) (R M : Int) (i : WI) :
  bZ.f G (k + 7) [cV bor cs R M, i.v] [] = some (aED (gC i R cs.length), []) := by
 rw [bZ.step]
 unfold bZ.c cV
 have r1 : ∀ H, aX (dF.f G (k + 6)) [I6 i.op] H = _ := fun H => cT (H := H) (tS G (k + 2) i.op) rfl rfl
 have r2 : ∀ H, aX (eQ.f G (k + 6)) [i.v, fX (dA i.op) (eA i.op)] H = _ := fun H => cT (H := H) (aFE G (k + 5) i _ _) rfl rfl
 have b1 : ∀ H, cN i.v H = some (.rp false i.v 0, H) := fun H => rfl
 have g0 : aB 0 (.rp false i.v 0) = some (.rp false i.v 0) := rfl
 have g5 : aB 5 (.rp false i.v 0) = some (.rp false i.v 5) := rfl
 have l0 : ∀ H, aI G false 1 (.rp false i.v 0) H = some (I6 i.op) := fun H => rfl
 have l5 : ∀ H, aI G false 1 (.rp false i.v 5) H = some (I6 i.k) := fun H => rfl
 have l6 : ∀ H, aI G true 6 (.rp false i.v 0) H = some i.v := fun H => rfl
 have e2 : ∀ H, aI G false 1 (.gl 0) H = some (eV 2) := fun H => hg.g2
 have e4 : ∀ H, aI G false 1 (.gl 3) H = some (eV 4) := fun H => hg.g4
 have e5 : ∀ H, aI G false 1 (.gl 5) H = some (eV 5) := fun H => hg.g5
 have st : fP (aO 6 (.ptr 0 1 0 0) (fX (dA i.op) (eA i.op)) [⟨100, 6, [.agg [(.str ⟨#[]⟩), (.bool false), (.bool false), (.bool false), (.bool false), (.bool false)]]⟩]) = some (.tup [], [⟨100, 6, [fX (dA i.op) (eA i.op)]⟩]) := rfl
 have ld : aI G true 6 (.ptr 0 1 0 0) [⟨100, 6, [fX (dA i.op) (eA i.op)]⟩] = some (fX (dA i.op) (eA i.op)) := rfl
 have lc : aY (.ro bor (bW cs)) = some (I6 cs.length) := by simp [aY, gG]
 have lb : aY (bsV (eA i.op)) = some (.int .i64 5) := rfl
 have hcl : aP 0 (.ro bor (bW cs)) = true := by simp [aP, fI]
 obtain ⟨p1, p2⟩ := aIH G (k + 6) (bZ.f G (k + 6)) R (.ro bor (bW cs)) M i (eA i.op) hg.g2 hcl (k + 1)
 obtain ⟨p3, p4⟩ := aHn G (k + 6) (bZ.f G (k + 6)) R (.ro bor (bW cs)) M i (eA i.op) hg.g3 hcl k
 refine iE ?_
 by_cases h0 : (gH i.op).isSome = false
 ·have e : gC i R cs.length = some 4 := by unfold gC; rw [if_pos h0]
  rw [e]
  rw [h0] at r1
  have fx := aKE r1 <| aKE b1 <| aKE g0 <| aKE l0 <| aKE st <| e4
  refine xZ ?_
  exact w1e (by rfl) (by rfl)
 have h0' : (gH i.op).isSome = true := by
  cases hh : (gH i.op).isSome
  ·exact absurd hh h0
  ·rfl
 rw [h0'] at r1
 by_cases h1 : qI (eA i.op) i R = true
 ·have e : gC i R cs.length = some 2 := by unfold gC; rw [if_neg h0, if_pos h1]
  rw [e]
  obtain ⟨j, p1⟩ := p1 h1
  clear p2 p3 p4
  unfold bxC at p1
  have fx := aKE r1 <| aKE r2 <| aKE b1 <| aKE g0 <| aKE l0 <| aKE l6 <| aKE st <| aKE ld <| e2
  have lx1 := p1
  refine xZ ?_
  exact w1e (by rfl) (by rfl)
 replace p2 := p2 (by simpa using h1)
 clear p1
 by_cases h2 : qH (eA i.op) i = true
 ·have e : gC i R cs.length = some 3 := by unfold gC; rw [if_neg h0, if_neg h1, if_pos h2]
  rw [e]
  obtain ⟨j, p3⟩ := p3 h2
  clear p4
  have fx := aKE r1 <| aKE r2 <| aKE b1 <| aKE g0 <| aKE l0 <| aKE l6 <| aKE st <| aKE ld <| aKE e2 <| lb
  have lx1 := p2
  have lx2 := p3
  refine xZ ?_
  exact w1e (by rfl) (by rfl)
 replace p4 := p4 (by simpa using h2)
 clear p3
 have e : gC i R cs.length = (if i.op = 10 ∨ i.op = 11 ∨ i.op = 12 then (if i.k < 0 ∨ 63 < i.k then some 2 else none)
 else if i.op = 20 then (if i.k < 0 ∨ 2 < i.k then some 2 else none)
 else if i.op = 15 ∨ i.op = 16 then (if i.k < 0 ∨ 65535 < i.k then some 2 else none)
 else if i.op = 17 ∨ i.op = 18 ∨ i.op = 19 then (if i.k < 0 ∨ (cs.length : Int) < i.k then some 5 else none)
 else none) := by unfold gC; rw [if_neg h0, if_neg h1, if_neg h2]
 rw [e]
 clear e
 repeat' first
  | (with_reducible first | refine eT ?_ | refine eN ?_ | refine eS ?_ | refine eXn ?_ | refine eXr ?_ | refine eX ?_ | refine eI ?_ | refine eK ?_ | refine eV0 ?_ | refine aCQ ?_ | refine aHc ?_ | refine aGY ?_ | refine aHb ?_ | refine aGZ ?_ | refine aHa ?_)
  | ((with_reducible apply eCn); (simp only [bK, bJ]; first | done | (with_reducible exact rfl)))
  | ((with_reducible apply eJ); (rfl))
  | ((with_reducible apply aCR); (first | rfl | (simp only [bK, bJ]; rfl)))
  | ((with_reducible apply eL); (first | exact p2 | exact p4))
  | ((with_reducible apply eB); (first | (with_reducible exact rfl) | (simp (disch := omega) only [qf, r1, r2, b1, g0, g5, l0, l5, l6, st, ld, e2, e5, lb, lc]; first | done | (with_reducible exact rfl) | (with_reducible exact ⟨rfl, rfl⟩)) | (simp (disch := omega) only [qa, fL, AV.cells, bN, cA, eF, bC, cB, dW, Nat.reduceLeDiff, Nat.reduceLT, Nat.reduceAdd, ↓reduceIte, r1, r2, b1, g0, g5, l0, l5, l6, st, ld, e2, e5, lb, lc]; first | done | (with_reducible exact rfl) | (with_reducible exact ⟨rfl, rfl⟩))))
  | ((with_reducible apply eR); (simp only [bK, bJ]; (with_reducible exact rfl)))
  | ((with_reducible first | refine aIU ?_ ?_ | refine aIZ ?_ ?_ | refine aIY ?_ ?_ | refine aIX ?_ ?_ | refine aIW ?_ ?_ | refine aIV ?_ ?_ | refine aJa ?_ ?_ | refine aGA ?_ ?_ | refine sGd ?_ ?_ | refine aFz ?_ ?_) <;> intro hq <;> try subst hq)
 all_goals (refine w1e ?_ (by rfl); (first | (with_reducible rfl) | ((try simp (disch := omega) only [if_pos, if_neg, if_true, if_false, ↓reduceIte, aED]) <;> first | done | rfl | omega)))
inductive VE where
 | ok
 | bare (e : Nat)
 | at_ (j e : Nat)
def veV : VE → AV
 | .ok => .nili
 | .bare e => eV e
 | .at_ j e => .iface 126 (.rp false (.agg [Nn j, eV e]) 0)
def oH (R n : Int) : List WI → Nat → VE
 | [], _ => .ok
 | i :: l, j => match gC i R n with
  | some e => .at_ j e
  | none => oH R n l (j + 1)
def gF (cs : List WI) (R M : Int) : VE :=
 if 262144 < cs.length then .bare 0
 else if R < 0 ∨ 65536 < R ∨ M < 0 ∨ 65536 < M then .bare 0
 else oH R cs.length cs 0
theorem qC (v : VE) : eW (veV v) = true := by cases v <;> rfl
theorem aHR (v : VE) : aP 0 (veV v) = true := by cases v <;> rfl
section
variable {bor : Bool} (G : aE) (hg : GOk G) (k : Nat) (self : cU) (cs : List WI) (R M : Int)
abbrev xsV (bor : Bool) (cs : List WI) (R M : Int) (x : AV) (j : Nat) : List AV := [bxC (.ro bor (bW cs)) R M, x, .ro bor (bW cs), I6 cs.length, Nn j]
include hg in
theorem vP (hcl : cs.length ≤ 1000000) : ∀ (l pre : List WI) (f : Nat) (H : aA), cs = pre ++ l → l.length < f →
  ∃ o, cM (bV.l6 G (k + 7) 0 self) f (xsV bor cs R M .nili pre.length) H = some o ∧
   (match oH R cs.length l pre.length with
    | .ok => o = (.exit 1, xsV bor cs R M .nili cs.length, [])
    | v => ∃ j H', o = (.ret, xsV bor cs R M (veV v) j, H'))
 | l, pre, 0, H, hcs, hf => by omega
 | [], pre, f + 1, H, hcs, hf => by
  rw [aU, bV.l6]
  have hl : cs.length = pre.length := by rw [hcs]; simp
  refine ⟨_, ?_, rfl⟩
  have hc : eZ 0 (xsV bor cs R M .nili pre.length) H = some [] := by simp [eZ, aV, aP, cF, fI]
  refine lC hc ?_
  refine fM ?_
  have hge : ¬ (pre.length : Int) < (cs.length : Int) := by omega
  have q : aS Tryd.prog .lss 3 false (Nn pre.length) (Nn cs.length) = some (.bool false) := by rw [iD, decide_eq_false hge]
  have fx := q
  refine xZ ?_
  rw [hl]
  rfl
 | i :: l, pre, f + 1, H, hcs, hf => by
  rw [aU, bV.l6]
  have hl : cs.length = pre.length + (l.length + 1) := by rw [hcs]; simp
  have hc : eZ 0 (xsV bor cs R M .nili pre.length) H = some [] := by simp [eZ, aV, aP, cF, fI]
  have hi : cs.getD pre.length default = i := by rw [hcs]; simp [List.getD]
  have q : aS Tryd.prog .lss 3 false (Nn pre.length) (Nn cs.length) = some (.bool true) := by rw [iD, decide_eq_true (by omega)]
  have d1 := zE bor cs pre.length (by omega)
  rw [hi] at d1
  have d2 : ∀ H, aI G true 6 (.rp bor i.v 0) H = some i.v := fun H => rfl
  have d3 : fP (aO 6 (.ptr 0 1 0 0) i.v [⟨29, 6, [.agg [.int .i64 0, .int .i64 0, .int .i64 0, .int .i64 0, .int .i64 0, .int .i64 0]]⟩]) = some (.tup [], [⟨29, 6, [i.v]⟩]) := rfl
  have d4 : aI G true 6 (.ptr 0 1 0 0) [⟨29, 6, [i.v]⟩] = some i.v := rfl
  have d5 : ∀ H, aX (bZ.f G (k + 7)) [.agg [.ro bor (bW cs), I6 R, I6 M], i.v] H = _ := fun H => cT (H := H) (aDs G hg k cs R M i) (by simp [fF, bQ, pE, WI.v]) (by cases gC i R cs.length <;> rfl)
  cases ho : gC i R cs.length with
  | some e =>
   have hb : oH R cs.length (i :: l) pre.length = .at_ pre.length e := by simp only [oH, ho]
   rw [hb]
   rw [ho] at d5
   have q2 : aS Tryd.prog .neq 33 true (eV e) .nili = some (.bool true) := by kernel_rfl
   refine ⟨_, ?_, pre.length, [⟨29, 6, [i.v]⟩], rfl⟩
   refine lC hc ?_
   refine fM ?_
   simp only [aED] at d5
   have fx := aKE q <| aKE d1 <| aKE d2 <| aKE d3 <| aKE d4 <| aKE d5 <| q2
   refine xZ ?_
   rfl
  | none =>
   rw [ho] at d5
   have q2 : aS Tryd.prog .neq 33 true .nili .nili = some (.bool false) := by kernel_rfl
   obtain ⟨o, h1, h2⟩ := vP hcl l (pre ++ [i]) f [⟨29, 6, [i.v]⟩] (by rw [hcs]; simp) (by simp at hf; omega)
   have hlen : (pre ++ [i]).length = pre.length + 1 := by simp
   rw [hlen] at h1 h2
   have hb : oH R cs.length (i :: l) pre.length = oH R cs.length l (pre.length + 1) := by simp only [oH, ho]
   rw [hb]
   refine ⟨o, ?_, h2⟩
   refine lC hc ?_
   refine fM ?_
   simp only [aED] at d5
   have q3 : aS Tryd.prog .add 3 true (Nn pre.length) (.int .i64 1) = some (Nn (pre.length + 1)) := by
    rw [gU, dK (by omega) (by omega)]; congr 2
   have fx := aKE q <| aKE d1 <| aKE d2 <| aKE d3 <| aKE d4 <| aKE d5 <| aKE q2 <| q3
   refine xZ ?_
   exact h1
include hg in
theorem qU (hk : cs.length < k + 7) (hcl : cs.length ≤ 1000000) : bV.f G (k + 8) [cV bor cs R M] [] = some (veV (gF cs R M), []) := by
 rw [bV.step]
 unfold bV.c cV
 obtain ⟨o, h1, h2⟩ := vP (bor := bor) G hg k (bV.f G (k + 7)) cs R M hcl cs [] (k + 7) [] rfl hk
 have e0 : ∀ H, aI G false 1 (.gl 1) H = some (eV 0) := fun H => hg.g0
 have lc : aY (.ro bor (bW cs)) = some (I6 cs.length) := by simp [aY, gG]
 refine iE ?_
 unfold gF
 by_cases hb : 262144 < cs.length
 ·rw [if_pos hb]
  have fx := aKE lc <| e0
  refine xZ ?_
  exact w1 rfl rfl
 rw [if_neg hb]
 by_cases hr : R < 0 ∨ 65536 < R ∨ M < 0 ∨ 65536 < M
 ·rw [if_pos hr]
  have fx := aKE lc <| e0
  refine xZ ?_
  exact w1 rfl rfl
 rw [if_neg hr]
 cases hv : oH R cs.length cs 0 with
 | ok =>
  simp only [List.length_nil, hv] at h2
  rw [h2] at h1
  have fx := aKE lc <| e0
  have lx1 := h1
  refine xZ ?_
  exact w1 rfl rfl
 | bare e =>
  simp only [List.length_nil, hv] at h2
  obtain ⟨j, H', h2⟩ := h2
  rw [h2] at h1
  have fx := aKE lc <| e0
  have lx1 := h1
  refine xZ ?_
  exact w1 rfl rfl
 | at_ j e =>
  simp only [List.length_nil, hv] at h2
  obtain ⟨j', H', h2⟩ := h2
  rw [h2] at h1
  have fx := aKE lc <| e0
  have lx1 := h1
  refine xZ ?_
  exact w1 rfl rfl
end
theorem aEb {i : WI} {R n : Int} (h : gC i R n = none) (hR : 0 ≤ R) : i.Ok R.toNat n.toNat := by
 unfold gC at h
 have out : ∀ {t : Bool} {r : Int}, nM t r R = false → t = true → 0 ≤ r ∧ r < R := fun {t r} ho ht => by
  subst ht; simp [nM] at ho; omega
 by_cases h20 : 1 ≤ i.op ∧ i.op ≤ 20
 ·by_cases h1 : qI (eA i.op) i R = true
  ·rw [if_pos h1] at h; split at h <;> cases h
  rw [if_neg h1] at h
  by_cases h2 : qH (eA i.op) i = true
  ·rw [if_pos h2] at h; split at h <;> cases h
  rw [if_neg h2] at h
  obtain ⟨op, d, a, b, c, kk⟩ := i
  simp only at h h1 h2 h20
  simp only [qI, qH, Bool.or_eq_true, not_or, Bool.and_eq_true, Bool.not_eq_true', decide_eq_true_eq, not_and, Bool.not_eq_true] at h1 h2
  rcases aHB h20 with rfl | rfl | rfl | rfl | rfl | rfl | rfl | rfl | rfl | rfl | rfl | rfl | rfl | rfl | rfl | rfl | rfl | rfl | rfl | rfl
  all_goals (
   simp [eA, gH, nM] at h1 h2
   simp [gH] at h
   constructor <;> simp <;> omega)
 ·rw [sW h20] at h; simp at h
theorem aDG {R n : Int} (hR : 0 ≤ R) : ∀ {l : List WI} {j : Nat}, oH R n l j = .ok → ∀ i ∈ l, i.Ok R.toNat n.toNat
 | [], _, _, i, hi => by cases hi
 | x :: l, j, h, i, hi => by
  unfold oH at h
  split at h
  ·cases h
  ·rename_i ho
   rcases List.mem_cons.1 hi with rfl | hi
   ·exact aEb ho hR
   ·exact aDG hR h i hi
theorem qB {cs : List WI} {R M : Int} (h : gF cs R M = .ok) : (0 ≤ R ∧ R ≤ 65536 ∧ 0 ≤ M ∧ M ≤ 65536 ∧ cs.length ≤ 262144) ∧ ∀ j, j < cs.length → (cs.getD j default).Ok R.toNat cs.length := by
 unfold gF at h
 by_cases h1 : 262144 < cs.length
 ·rw [if_pos h1] at h; cases h
 rw [if_neg h1] at h
 by_cases h2 : R < 0 ∨ 65536 < R ∨ M < 0 ∨ 65536 < M
 ·rw [if_pos h2] at h; cases h
 rw [if_neg h2] at h
 refine ⟨by omega, fun j hj => ?_⟩
 have := aDG (by omega) h (cs.getD j default) (by simp [List.getD, List.getElem?_eq_getElem hj])
 rwa [Int.toNat_natCast] at this
def ftV (c : Int) (p : Bool) (j : Int) : AV := .agg [I6 c, .bool p, I6 j]
inductive Cls : Frm → Int → Prop
 | c1 : Cls ⟨true, false, false, false, true⟩ 1
 | c2 : Cls ⟨true, true, false, false, false⟩ 0
 | c3 : Cls ⟨true, true, true, false, false⟩ 0
 | c4 : Cls ⟨true, true, false, false, true⟩ 2
 | c5 : Cls ⟨true, true, true, true, false⟩ 0
 | c6 : Cls ⟨true, true, false, false, true⟩ 3
 | c7 : Cls ⟨false, true, true, false, true⟩ 3
 | c8 : Cls ⟨false, false, false, false, true⟩ 4
 | c9 : Cls ⟨false, true, false, false, true⟩ 4
 | c10 : Cls ⟨false, false, false, false, true⟩ 5
section
variable (G : aE) (k : Nat) (self : cU) (cs : List WI) (R M : Int)
abbrev f0 : AV := ftV 0 false 0
end
section
variable (G : aE) (k : Nat) (self : cU) (cs : List WI) (R M : Int)
end
def VE.low : VE → Prop
 | .ok => True
 | .bare e => e < 6
 | .at_ j e => e < 6
section
variable (G : aE) (s : MS) (wr : Int) (x : AV)
end
structure WI.Ok2 (i : WI) (R n : Nat) : Prop where
 ok : i.Ok R n
 sh : 10 ≤ i.op → i.op ≤ 12 → 0 ≤ i.k ∧ i.k ≤ 63
 ha : 0 ≤ i.a ∧ i.a ≤ R
 hb : 0 ≤ i.b ∧ i.b ≤ R
theorem aAX {op n : Int} {a b c : Nat} (h : 1 ≤ op ∧ op ≤ 14) (hs : 10 ≤ op → op ≤ 12 → 0 ≤ n ∧ n ≤ 63) : (kA op n a b c).2 = true := by
 by_cases e : op = 10 ∨ op = 11 ∨ op = 12
 ·have := hs (by omega) (by omega)
  have e2 : kA op n a b c = iY op n a := by
   unfold kA
   simp (disch := omega) only [if_neg, if_pos]
  rw [e2]
  unfold iY
  rw [if_neg (by omega)]
  split
  ·rfl
  ·split <;> rfl
 ·have : op = 1 ∨ op = 2 ∨ op = 3 ∨ op = 4 ∨ op = 5 ∨ op = 6 ∨ op = 7 ∨ op = 8 ∨ op = 9 ∨ op = 13 ∨ op = 14 := by omega
  rcases this with rfl | rfl | rfl | rfl | rfl | rfl | rfl | rfl | rfl | rfl | rfl <;> simp [kA]
theorem aFY {i : WI} {R n : Int} (h : gC i R n = none) (hR : 0 ≤ R) : i.Ok2 R.toNat n.toNat := by
 have h0 := aEb h hR
 unfold gC at h
 have h20 := h0.op
 by_cases h1 : qI (eA i.op) i R = true
 ·rw [if_pos h1] at h; split at h <;> cases h
 rw [if_neg h1] at h
 by_cases h2 : qH (eA i.op) i = true
 ·rw [if_pos h2] at h; split at h <;> cases h
 rw [if_neg h2] at h
 obtain ⟨op, d, a, b, c, kk⟩ := i
 simp only at h h1 h2 h20
 simp only [qI, qH, Bool.or_eq_true, not_or, Bool.and_eq_true, Bool.not_eq_true', decide_eq_true_eq, not_and, Bool.not_eq_true] at h1 h2
 rcases aHB h20 with rfl | rfl | rfl | rfl | rfl | rfl | rfl | rfl | rfl | rfl | rfl | rfl | rfl | rfl | rfl | rfl | rfl | rfl | rfl | rfl
 all_goals (
  simp [eA, gH, nM] at h1 h2
  simp [gH] at h
  exact ⟨h0, by simp; try omega, by simp; omega, by simp; omega⟩)
section
variable (G : aE) (k : Nat) (self : cU) (fuel : Int) (bc bor : Bool) (cs : List WI) (R : Nat) (s : MS) (wr : Int)
end
section
variable (G : aE) (k : Nat) (self : cU) (fuel : Int) (bc bor : Bool) (cs : List WI) (R : Nat) (wr : Int)
end
theorem mT (G : aE) (k : Nat) (self : cU) (p q : Bool) (a : List Nat) (hla : a.length ≤ 1000000) : ∀ (suf pre : List Nat) (f : Nat), a = pre ++ suf → suf.length < f →
  cM (aL.l4 G k 0 self) f [.ro p (dC a), .ro q (dC a), .bool false, Nn pre.length] [] = some (.exit 0, [.ro p (dC a), .ro q (dC a), .bool false, Nn a.length], [])
 | suf, pre, 0, hm, hf => by omega
 | [], pre, f + 1, hm, hf => by
  rw [aU, aL.l4]
  have hl : a = pre := by rw [hm]; simp
  have hc : eZ 0 [.ro p (dC a), .ro q (dC a), .bool false, Nn pre.length] [] = some [] := by simp [eZ, aV, aP, cF, iB]
  have lc : aY (.ro p (dC a)) = some (I6 a.length) := by simp [aY, gX]
  have qq : aS Tryd.prog .lss 3 false (Nn pre.length) (Nn a.length) = some (.bool false) := by rw [iD, decide_eq_false (by rw [hl]; omega)]
  refine fM ?_
  refine eC hc ?_
  have fx := aKE lc <| qq
  refine xZ ?_
  rw [hl]
  refine gM ?_; rfl
 | x :: suf, pre, f + 1, hm, hf => by
  rw [aU, aL.l4]
  have hl : a.length = pre.length + (suf.length + 1) := by rw [hm]; simp
  have hc : eZ 0 [.ro p (dC a), .ro q (dC a), .bool false, Nn pre.length] [] = some [] := by simp [eZ, aV, aP, cF, iB]
  have lc : aY (.ro p (dC a)) = some (I6 a.length) := by simp [aY, gX]
  have qq : aS Tryd.prog .lss 3 false (Nn pre.length) (Nn a.length) = some (.bool true) := by rw [iD, decide_eq_true (by omega)]
  have ha : a.getD pre.length 0 = x := by rw [hm]; simp [List.getD]
  have d1 : ∀ b, aH 1 (.ro b (dC a)) (Nn pre.length) = some (.rp b (Un x) 0) := fun b => by
   have := mM a pre.length (by omega)
   rw [ha] at this
   exact qZ this rfl
  have d2 : ∀ b H, aI G false 1 (.rp b (Un x) 0) H = some (Un x) := fun b H => rfl
  have d4 : aS Tryd.prog .add 3 true (Nn pre.length) (.int .i64 1) = some (Nn (pre ++ [x]).length) := by
   rw [gU, dK (by omega) (by omega)]; congr 2; simp
  have d5 : aS Tryd.prog .eql 30 false (Un x) (Un x) = some (.bool true) := gP rfl
  have ih := mT G k self p q a hla suf (pre ++ [x]) f (by rw [hm]; simp) (by simp at hf; omega)
  refine fM ?_
  refine eC hc ?_
  have fx := aKE lc <| aKE qq <| aKE d1 <| aKE d2 <| aKE d4 <| d5
  refine xZ ?_
  exact ih
theorem tR (G : aE) (k : Nat) (p q : Bool) (a : List Nat) (hla : a.length ≤ 1000000) (hk : a.length < k) : aL.f G (k + 1) [.ro p (dC a), .ro q (dC a)] [] = some (.bool true, []) := by
 rw [aL.step]
 unfold aL.c
 have lc : ∀ b, aY (.ro b (dC a)) = some (I6 a.length) := fun b => by simp [aY, gX]
 have lp : cM (aL.l4 G k 0 (aL.f G k)) k [.ro p (dC a), .ro q (dC a), .bool false, .int .i64 0] [] = _ := mT G k (aL.f G k) p q a hla a [] k rfl hk
 refine iE ?_
 have fx := lc
 have lx1 := lp
 refine xZ ?_
 exact w1b rfl
theorem aFX {x : AV} {t e : TypeId} (hu : Tryd.prog.underlying t = some (.slice e)) (he : Tryd.prog.underlying e = some (.int .u64)) (h : IsT Tryd.prog t x) :
  ∃ l : List Nat, x = .ro false (dC l) ∧ (∀ n ∈ l, n < 18446744073709551616) := by
 obtain ⟨l, rfl, hw, hl⟩ := h.of_ints hu he
 refine ⟨l.map Int.toNat, ?_, ?_⟩
 ·unfold dC
  rw [List.map_map]
  congr 1
  apply List.map_congr_left
  intro n hn
  obtain ⟨h1, h2⟩ := aDv (hw n hn)
  show AV.int .u64 n = AV.int .u64 ((n.toNat : Nat) : Int)
  rw [Int.toNat_of_nonneg h1]
 ·intro n hn
  obtain ⟨z, hz, rfl⟩ := List.mem_map.1 hn
  have := aDv (hw z hz)
  omega
theorem aIQ {x : AV} (h : IsT Tryd.prog 29 x) : ∃ i : WI, x = i.v ∧ (-9223372036854775808 ≤ i.k ∧ i.k < 9223372036854775808) := by
 obtain ⟨cs, rfl, hf⟩ := h.of_struct Tryd.underlying29
 cases hf with
 | cons h1 hf =>
 cases hf with
 | cons h2 hf =>
 cases hf with
 | cons h3 hf =>
 cases hf with
 | cons h4 hf =>
 cases hf with
 | cons h5 hf =>
 cases hf with
 | cons h6 hf =>
 cases hf with
 | nil =>
 obtain ⟨a, rfl, _⟩ := h1.of_int (k := .i64) Tryd.underlying3
 obtain ⟨b, rfl, _⟩ := h2.of_int (k := .i64) Tryd.underlying3
 obtain ⟨c, rfl, _⟩ := h3.of_int (k := .i64) Tryd.underlying3
 obtain ⟨d, rfl, _⟩ := h4.of_int (k := .i64) Tryd.underlying3
 obtain ⟨e, rfl, _⟩ := h5.of_int (k := .i64) Tryd.underlying3
 obtain ⟨f, rfl, hw⟩ := h6.of_int (k := .i64) Tryd.underlying2
 exact ⟨⟨a, b, c, d, e, f⟩, rfl, aDu hw⟩
theorem aEa {α : Type} {P : AV → Prop} {e : α → AV} {Q : α → Prop} (h : ∀ x, P x → ∃ a, x = e a ∧ Q a) : ∀ xs : List AV, (∀ x ∈ xs, P x) → ∃ l : List α, xs = l.map e ∧ ∀ a ∈ l, Q a
 | [], _ => ⟨[], rfl, fun a h => by cases h⟩
 | x :: xs, hx => by
  obtain ⟨a, rfl, ha⟩ := h x (hx x (by simp))
  obtain ⟨l, rfl, hl⟩ := aEa h xs (fun y hy => hx y (by simp [hy]))
  refine ⟨a :: l, rfl, fun b hb => ?_⟩
  rcases List.mem_cons.1 hb with rfl | hb
  ·exact ha
  ·exact hl b hb
theorem aHA {x : AV} (h : IsT Tryd.prog 27 x) : ∃ (cs : List WI) (R M : Int), x = cV false cs R M ∧ (-9223372036854775808 ≤ R ∧ R < 9223372036854775808) ∧ (-9223372036854775808 ≤ M ∧ M < 9223372036854775808) := by
 obtain ⟨cs, rfl, hf⟩ := h.of_struct Tryd.underlying27
 cases hf with
 | cons h1 hf =>
 cases hf with
 | cons h2 hf =>
 cases hf with
 | cons h3 hf =>
 cases hf with
 | nil =>
 obtain ⟨xs, rfl, hx, _⟩ := h1.of_slice Tryd.underlying25
 obtain ⟨l, rfl, _⟩ := aEa (e := WI.v) (fun x hx => aIQ hx) xs hx
 obtain ⟨R, rfl, hR⟩ := h2.of_int (k := .i64) Tryd.underlying3
 obtain ⟨M, rfl, hM⟩ := h3.of_int (k := .i64) Tryd.underlying3
 exact ⟨l, R, M, rfl, aDu hR, aDu hM⟩
theorem tM (cs : List WI) (fuel : Int) : ∀ (f : Nat) (s s' : MS), iX cs fuel f s = some s' → ∀ d, iX cs fuel (f + d) s = some s'
 | 0, s, s', h, d => by simp [iX] at h
 | f + 1, s, s', h, d => by
  rw [show f + 1 + d = (f + d) + 1 by omega]
  simp only [iX] at h ⊢
  by_cases h1 : cs.length ≤ s.at_
  ·rw [if_pos h1] at h ⊢; exact h
  rw [if_neg h1] at h ⊢
  by_cases h2 : (s.steps : Int) = fuel
  ·rw [if_pos h2] at h ⊢; exact h
  rw [if_neg h2] at h ⊢
  obtain ⟨s2, b, hsb⟩ : ∃ s2 b, s.tick.step (cs.getD s.at_ default) = (s2, b) := ⟨_, _, rfl⟩
  rw [hsb] at h ⊢
  cases b
  ·exact h
  ·exact tM cs fuel f s2 s' h d
theorem aEo (cs : List WI) (fuel : Int) (R : Nat) (hf : fuel ≤ 99999) (hcs : ∀ j, j < cs.length → (cs.getD j default).Ok R cs.length) : ∀ (f : Nat) (s s' : MS), iX cs fuel f s = some s' → s.Ok R → s.at_ ≤ cs.length → (s.steps : Int) ≤ fuel →
  s'.Ok R ∧ (s'.steps : Int) ≤ fuel ∧ s'.mem.length = s.mem.length
 | 0, s, s', h, _, _, _ => by simp [iX] at h
 | f + 1, s, s', h, hs, hat, hst => by
  simp only [iX] at h
  by_cases h1 : cs.length ≤ s.at_
  ·rw [if_pos h1] at h; simp only [Option.some.injEq] at h; subst h
   exact ⟨⟨hs.len, hs.regs, hs.mem, hs.leaks, hs.big, hs.few⟩, hst, rfl⟩
  rw [if_neg h1] at h
  by_cases h2 : (s.steps : Int) = fuel
  ·rw [if_pos h2] at h; simp only [Option.some.injEq] at h; subst h
   exact ⟨⟨hs.len, hs.regs, hs.mem, hs.leaks, hs.big, hs.few⟩, hst, rfl⟩
  rw [if_neg h2] at h
  have okt : s.tick.Ok R := ⟨hs.len, hs.regs, hs.mem, by have := hs.leaks; simp [MS.tick, MS.leak]; omega, hs.big, by simp [MS.tick, MS.leak]; omega⟩
  obtain ⟨o1, o2, o3, o4⟩ := MS.step_ok okt (hcs s.at_ (by omega)) (by have := hs.leaks; simp [MS.tick, MS.leak]; omega) (show s.tick.at_ < cs.length from by show s.at_ < _; omega)
  have tst : s.tick.steps = s.steps + 1 := rfl
  have tm : s.tick.mem = s.mem := rfl
  obtain ⟨s2, b, hsb⟩ : ∃ s2 b, s.tick.step (cs.getD s.at_ default) = (s2, b) := ⟨_, _, rfl⟩
  rw [hsb] at h o1 o2 o3 o4
  simp only at h o1 o2 o3 o4
  cases b
  ·simp only [Option.some.injEq] at h
   subst h
   exact ⟨o1, by rw [o3, tst]; omega, by rw [o4, tm]⟩
  ·obtain ⟨r1, r2, r3⟩ := aEo cs fuel R hf hcs f s2 s' h o1 o2 (by rw [o3, tst]; omega)
   exact ⟨r1, r2, by rw [r3, o4, tm]⟩
def cC (l : List Nat) : List AV := l.map fun n => Nn n
theorem eG (l : List Nat) : (cC l).length = l.length := by simp [cC]
theorem fN (n : Nat) (l : List Nat) : aV n (cC l) = true := hZ n _ (fun _ => rfl) l
theorem jP (l : List Nat) (j : Nat) (h : j < l.length) : (cC l)[j]? = some (Nn (l.getD j 0)) := by
 unfold cC
 rw [List.getElem?_map, List.getElem?_eq_getElem h, List.getD_eq_getElem?_getD, List.getElem?_eq_getElem h]; rfl
theorem aER (l : List Nat) (j x : Nat) : (cC l).set j (Nn x) = cC (l.set j x) := by
 unfold cC
 rw [List.map_set]
structure SH (H : aA) (p q r n : Nat) (us : List Int) : Prop where
 hp : p < H.length
 pq : p ≠ q
 pr : p ≠ r
 hq : H[q]? = some ⟨49, 1, [.sl r n 0 n 1]⟩
 hr : H[r]? = some ⟨3, 1, us.map fun u => I6 u⟩
 hu : us.length = n
 hb : cF H.length H = true
def SO (H : aA) (p : Nat) (l : List Nat) : aA := H.set p ⟨3, 1, cC l⟩
theorem lO (H : aA) (p : Nat) (l : List Nat) : (SO H p l).length = H.length := by simp [SO]
theorem aFs (H : aA) (p : Nat) (l m : List Nat) : (SO H p l).set p ⟨3, 1, cC m⟩ = SO H p m := by simp [SO]
theorem aIv {H : aA} {p : Nat} (hp : p < H.length) (l : List Nat) : (SO H p l)[p]? = some ⟨3, 1, cC l⟩ := by simp [SO, hp]
theorem lS {n : Nat} {b : ABlk} (hb : aV n b.elems = true) : ∀ (H : aA) (p : Nat), cF n H = true → cF n (H.set p b) = true
 | [], p, h => by simp [cF]
 | x :: H, 0, h => by
  simp only [cF, Bool.and_eq_true] at h
  simp only [List.set_cons_zero, cF, hb, h.2, Bool.and_self]
 | x :: H, p + 1, h => by
  simp only [cF, Bool.and_eq_true] at h
  simp only [List.set_cons_succ, cF, h.1, lS hb H p h.2, Bool.and_self]
theorem lM {H : aA} {p : Nat} (hb : cF H.length H = true) (l : List Nat) (xs : List AV) (hx : aV H.length xs = true) : eZ H.length xs (SO H p l) = some (SO H p l) := by
 unfold eZ
 have e : (SO H p l).take H.length = SO H p l := List.take_of_length_le (by rw [lO]; exact Nat.le_refl _)
 rw [e, hx]
 have : cF H.length (SO H p l) = true := lS (b := ⟨3, 1, cC l⟩) (fN _ l) H p hb
 rw [this]; rfl
section
variable (G : aE) (k : Nat) (self : cU) {H : aA} {p q r n : Nat} {us : List Int} (hS : SH H p q r n us)
theorem jV {i : Nat} (h : i < n) : aH 1 (.sl p n 0 n 1) (Nn i) = some (.ptr p n i 0) := by
 unfold aH
 simp only [Int.toNat_natCast, Nat.zero_add]
 rw [if_pos (by omega), if_pos trivial]
abbrev dS (p n : Nat) : AV := .sl p n 0 n 1
def xT (l : List Nat) (i j : Nat) : List Nat := (l.set i (l.getD j 0)).set j (l.getD i 0)
theorem aFd (l : List Nat) (i j : Nat) : (xT l i j).length = l.length := by simp [xT]
theorem aDn (l : List Nat) (i j : Nat) (hi : i < l.length) (hj : j < l.length) : (xT l i j).Perm l := by
 unfold xT
 rw [List.getD_eq_getElem?_getD, List.getD_eq_getElem?_getD, List.getElem?_eq_getElem hi, List.getElem?_eq_getElem hj]
 exact List.set_set_perm hi hj
end
section
variable (G : aE) (k : Nat) (self : cU) {H : aA} {p q r n : Nat} {us : List Int} (hS : SH H p q r n us)
theorem aCW {g : cU} {args : List AV} {l l' : List Nat} (h : g args (SO H p l) = some (.tup [], SO H p l')) : cW g args (SO H p l) = some (.tup [], SO H p l') := by
 unfold cW; rw [h]; simp only [lO, Nat.le_refl, if_true]
end
section
variable (G : aE) (k : Nat) (self : cU) {H : aA} {p q r n : Nat} {us : List Int} (hS : SH H p q r n us)
theorem aJG {c : Bool} {a b : Nat} (h : a + b ≤ 100000) : aS Tryd.prog .add 3 c (Nn a) (Nn b) = some (Nn (a + b : Nat)) := by
 rw [gU, dK (by omega) (by omega)]; congr 2
theorem aDX {c : Bool} {a b : Nat} (h : b ≤ a) (h2 : a ≤ 100000) : aS Tryd.prog .sub 3 c (Nn a) (Nn b) = some (Nn (a - b : Nat)) := by
 rw [kH, dK (by omega) (by omega)]; congr 2; omega
theorem jY {c : Bool} {a : Nat} (h : a ≤ 100000) : aS Tryd.prog .add 3 c (Nn a) (.int .i64 1) = some (Nn (a + 1 : Nat)) := by
 rw [gU, dK (by omega) (by omega)]; congr 2
theorem aHx {c : Bool} {a b : Nat} (h : a ≠ b) : aS Tryd.prog .neq 3 c (Nn a) (Nn b) = some (.bool true) := sP (by omega)
theorem aHw {c : Bool} {a b : Nat} (h : a = b) : aS Tryd.prog .neq 3 c (Nn a) (Nn b) = some (.bool false) := lG (by omega)
end
section
variable (G : aE) (k : Nat) (self : cU) {H : aA} {p q r n : Nat} {us : List Int} (hS : SH H p q r n us)
end
section
variable (G : aE) {H : aA} {p q r n : Nat} {us : List Int} (hS : SH H p q r n us)
theorem aFU {c : Bool} {a b : Nat} (h : a = b) : aS Tryd.prog .eql 3 c (Nn a) (Nn b) = some (.bool true) := gP (by omega)
theorem aFT {c : Bool} {a b : Nat} (h : a ≠ b) : aS Tryd.prog .eql 3 c (Nn a) (Nn b) = some (.bool false) := fY (by omega)
end
section
variable (G : aE) (k : Nat) (self : cU) {H : aA} {p q r n : Nat} {us : List Int} (hS : SH H p q r n us)
end
structure SB (H : aA) (p : Nat) : Prop where
 hp : p < H.length
 hb : cF H.length H = true
section
variable (G : aE) (k : Nat) (self : cU) {H : aA} {p n : Nat} (hS : SB H p)
include hS in
theorem jJ {l : List Nat} (hl : l.length = n) {i : Nat} (h : i < n) : aI G false 1 (.ptr p n i 0) (SO H p l) = some (Nn (l.getD i 0)) := by
 unfold aI
 simp only [aIv hS.hp l, eG, hl, if_true, jP l i (by omega)]
 rfl
include hS in
theorem mX {l : List Nat} (hl : l.length = n) {i : Nat} (h : i < n) (x : Nat) : fP (aO 1 (.ptr p n i 0) (Nn x) (SO H p l)) = some (.tup [], SO H p (l.set i x)) := by
 have e : aO 1 (.ptr p n i 0) (Nn x) (SO H p l) = some (SO H p (l.set i x)) := by
  unfold aO
  simp only [aIv hS.hp l, eG, hl]
  rw [if_pos ⟨trivial, rfl, rfl⟩]
  simp only [jP l i (by omega)]
  rw [if_pos (by show 0 + 1 ≤ 1; omega)]
  have : dH (Nn (l.getD i 0)) (fL (Nn (l.getD i 0)).cells 0 (Nn x).cells) = Nn x := rfl
  rw [this, aER, aFs]
 rw [e]; rfl
theorem rB (x : Nat) : bD.f G (k + 1) [Nn x] [] = some (.bool false, []) := by
 have g : aS Tryd.prog .neq 3 false (Nn x) (Nn x) = some (.bool false) := lG rfl
 rw [bD.step]
 unfold bD.c
 refine iE ?_
 have fx := g
 refine fV ?_
 exact w1b rfl
theorem tF (x y : Nat) : bH.f G (k + 2) [Nn x, Nn y] [] = some (.bool (decide (x < y)), []) := by
 have r1 : ∀ H, aX (bD.f G (k + 1)) [Nn x] H = _ := fun H => cT (H := H) (rB G k x) rfl rfl
 have g : aS Tryd.prog .lss 3 false (Nn x) (Nn y) = some (.bool (decide (x < y))) := by
  rw [iD]
  congr 2
  exact decide_eq_decide.2 (by omega)
 rw [bH.step]
 unfold bH.c
 refine iE ?_
 generalize decide (x < y) = b at *
 have fx := aKE r1 <| g
 refine fV ?_
 exact w1b rfl
def yP (p n a b i j : Nat) : List AV := [dS p n, Nn a, Nn b, Nn i, Nn j]
def ys1 (p n a b i : Nat) : List AV := [dS p n, Nn a, Nn b, Nn i]
include hS in
theorem qF (n a b i j : Nat) : aV H.length (yP p n a b i j) = true := by
 have h1 : decide (p < H.length) = true := decide_eq_true hS.hp
 simp only [yP, dS, aV, aP, h1, Bool.and_self]
include hS in
theorem mU (n a b i : Nat) : aV H.length (ys1 p n a b i) = true := by
 have h1 : decide (p < H.length) = true := decide_eq_true hS.hp
 simp only [ys1, dS, aV, aP, h1, Bool.and_self]
include hS in
theorem wM (hn : n ≤ 1000) (a b i : Nat) : ∀ (j f : Nat) (l : List Nat), l.length = n → j < n → j < f →
  ∃ (j' : Nat) (l' : List Nat), cM (aD.l4 G (k + 2) H.length self) f (yP p n a b i j) (SO H p l) = some (.exit 2, yP p n a b i j', SO H p l') ∧ l'.Perm l
 | j, 0, l, _, _, h => by omega
 | j, f + 1, l, hl, hj, hf => by
  have hc : eZ H.length (yP p n a b i j) (SO H p l) = some (SO H p l) := lM hS.hb l _ (qF hS n a b i j)
  by_cases ha : a < j
  ·have g1 : aS Tryd.prog .gtr 3 false (Nn j) (Nn a) = some (.bool true) := nO (by omega)
   have d1 : aH 1 (.sl p n 0 n 1) (Nn j) = some (.ptr p n j 0) := jV hj
   have d2 : aH 1 (.sl p n 0 n 1) (Nn (j - 1 : Nat)) = some (.ptr p n (j - 1) 0) := jV (by omega)
   have l1 := jJ G hS hl hj
   have l2 := jJ G hS hl (i := j - 1) (by omega)
   have m1 : aS Tryd.prog .sub 3 true (Nn j) (.int .i64 1) = some (Nn (j - 1 : Nat)) := by
    rw [kH, dK (by omega) (by omega)]; congr 2; omega
   have r1 : ∀ H, aX (bH.f G (k + 2)) [Nn (l.getD j 0), Nn (l.getD (j - 1) 0)] H = _ := fun H => cT (H := H) (tF G k (l.getD j 0) (l.getD (j - 1) 0)) rfl rfl
   by_cases hcn : l.getD j 0 < l.getD (j - 1) 0
   ·rw [decide_eq_true hcn] at r1
    have s1 := mX hS hl hj (l.getD (j - 1) 0)
    have hl2 : (l.set j (l.getD (j - 1) 0)).length = n := by simp [hl]
    have s2 := mX hS hl2 (i := j - 1) (by omega) (l.getD j 0)
    have hsw : (l.set j (l.getD (j - 1) 0)).set (j - 1) (l.getD j 0) = xT l j (j - 1) := rfl
    rw [hsw] at s2
    have hp := aDn l j (j - 1) (by omega) (by omega)
    obtain ⟨j', l', h1, h2⟩ := wM hn a b i (j - 1) f (xT l j (j - 1)) (by rw [aFd]; exact hl) (by omega) (by omega)
    refine ⟨j', l', ?_, h2.trans hp⟩
    rw [aU, aD.l4]
    refine fM ?_
    refine eC hc ?_
    unfold yP at h1 ⊢
    generalize xT l j (j - 1) = ls at *
    generalize l.getD j 0 = y1 at *
    generalize l.getD (j - 1) 0 = y2 at *
    have fx := aKE g1 <| aKE d1 <| aKE d2 <| aKE l1 <| aKE l2 <| aKE m1 <| aKE r1 <| aKE s1 <| s2
    refine fV ?_
    exact h1
   ·rw [decide_eq_false hcn] at r1
    refine ⟨j, l, ?_, List.Perm.refl _⟩
    rw [aU, aD.l4]
    refine fM ?_
    refine eC hc ?_
    unfold yP
    clear hcn
    generalize l.getD j 0 = y1 at *
    generalize l.getD (j - 1) 0 = y2 at *
    have fx := aKE g1 <| aKE d1 <| aKE d2 <| aKE l1 <| aKE l2 <| aKE m1 <| r1
    refine fV ?_
    refine gM ?_; rfl
  ·have g1 : aS Tryd.prog .gtr 3 false (Nn j) (Nn a) = some (.bool false) := jS (by omega)
   refine ⟨j, l, ?_, List.Perm.refl _⟩
   rw [aU, aD.l4]
   refine fM ?_
   refine eC hc ?_
   unfold yP
   have fx := g1
   refine fV ?_
   refine gM ?_; rfl
include hS in
theorem aCU (l : List Nat) : cQ [] H.length (SO H p l) = some (.ret, [.tup []], SO H p l) := by
 unfold cQ
 rw [lM hS.hb l _ rfl]; rfl
include hS in
theorem wL (hn : n ≤ 1000) (hk : n < k) (a b : Nat) (hb : b ≤ n) : ∀ (d i f : Nat) (l : List Nat), i + d = max i b → l.length = n → d < f →
  ∃ (i' : Nat) (l' : List Nat), cM (aD.l1 G (k + 2) H.length self) f (ys1 p n a b i) (SO H p l) = some (.exit 0, ys1 p n a b i', SO H p l') ∧ l'.Perm l
 | d, i, 0, l, _, _, h => by omega
 | 0, i, f + 1, l, hd, hl, hf => by
  have hc : eZ H.length (ys1 p n a b i) (SO H p l) = some (SO H p l) := lM hS.hb l _ (mU hS n a b i)
  have g1 : aS Tryd.prog .lss 3 false (Nn i) (Nn b) = some (.bool false) := fK (by omega)
  refine ⟨i, l, ?_, List.Perm.refl _⟩
  rw [aU, aD.l1]
  refine fM ?_
  refine eC hc ?_
  unfold ys1
  have fx := g1
  refine fV ?_
  refine gM ?_; rfl
 | d + 1, i, f + 1, l, hd, hl, hf => by
  have hc : eZ H.length (ys1 p n a b i) (SO H p l) = some (SO H p l) := lM hS.hb l _ (mU hS n a b i)
  have hib : i < b := by omega
  have g1 : aS Tryd.prog .lss 3 false (Nn i) (Nn b) = some (.bool true) := fO (by omega)
  obtain ⟨j', l1, hl4, hp⟩ := wM G k self hS hn a b i i (k + 2) l hl (by omega) (by omega)
  obtain ⟨i', l', h1, h2⟩ := wL hn hk a b hb d (i + 1) f l1 (by omega) (by rw [hp.length_eq]; exact hl) (by omega)
  refine ⟨i', l', ?_, h2.trans hp⟩
  have q2 : aS Tryd.prog .add 3 true (Nn i) (.int .i64 1) = some (Nn (i + 1)) := by
   rw [gU, dK (by omega) (by omega)]; congr 2
  have hlen := lO H p l
  rw [aU, aD.l1]
  refine fM ?_
  refine eC hc ?_
  rw [← hlen] at hl4
  unfold ys1 at h1 ⊢
  unfold yP at hl4
  have fx := aKE g1 <| q2
  have lx1 := hl4
  refine fV ?_
  exact h1
include hS in
theorem wN (hn : n ≤ 1000) (hk : n < k) (a b : Nat) (ha : a ≤ b) (hb : b ≤ n) (l : List Nat) (hl : l.length = n) :
  ∃ l' : List Nat, cW (aD.f G (k + 3)) [dS p n, Nn a, Nn b] (SO H p l) = some (.tup [], SO H p l') ∧ l'.Perm l := by
 obtain ⟨i', l', h1, h2⟩ := wL G k (aD.f G (k + 2)) hS hn hk a b hb (b - (a + 1)) (a + 1) (k + 2) l (by omega) hl (by omega)
 refine ⟨l', aCW ?_, h2⟩
 rw [aD.step]
 unfold aD.c
 rw [lO]
 have q1 : aS Tryd.prog .add 3 true (Nn a) (.int .i64 1) = some (Nn (a + 1 : Nat)) := by
  rw [gU, dK (by omega) (by omega)]; congr 2
 have fin := aCU hS l'
 unfold ys1 at h1
 have hlen := lO H p l
 refine iE ?_
 rw [← hlen] at h1
 have fx := q1
 have lx1 := h1
 refine fV ?_
 exact oF fin
end
section
variable (G : aE) (k : Nat) (self : cU) {H : aA} {p n : Nat} (hS : SB H p)
theorem aKi : cL.f G (k + 3) [.int .u64 0] [] = some (.int .i64 0, []) := by kernel_rfl
theorem aKj : cL.f G (k + 3) [.int .u64 1] [] = some (.int .i64 1, []) := by kernel_rfl
theorem len2 : cL.f G (k + 3) [.int .u64 2] [] = some (.int .i64 2, []) := by kernel_rfl
theorem aKk : cL.f G (k + 3) [.int .u64 3] [] = some (.int .i64 2, []) := by kernel_rfl
theorem aBh (n : Nat) (h : n ≤ 3) : ∃ z : Int, cL.f G (k + 3) [.int .u64 (n : Int)] [] = some (.int .i64 z, []) := by
 have : n = 0 ∨ n = 1 ∨ n = 2 ∨ n = 3 := by omega
 rcases this with rfl | rfl | rfl | rfl
 ·exact ⟨0, aKi G k⟩
 ·exact ⟨1, aKj G k⟩
 ·exact ⟨2, len2 G k⟩
 ·exact ⟨2, aKk G k⟩
include hS in
theorem tT (a b : Nat) (z : Int) : aV H.length [dS p n, Nn a, Nn b, I6 z, .bool true, .bool true] = true := by
 have h1 : decide (p < H.length) = true := decide_eq_true hS.hp
 simp only [dS, aV, aP, h1, Bool.and_self]
include hS in
theorem xA (hn : n ≤ 12) (hk : n < k) (z : Int) (l : List Nat) (hl : l.length = n) :
  ∃ l' : List Nat, cW (aJ.f G (k + 4)) [dS p n, .int .i64 0, Nn n, I6 z] (SO H p l) = some (.tup [], SO H p l') ∧ l'.Perm l := by
 have hlen := lO H p l
 obtain ⟨l', w, pm⟩ := wN G k hS (by omega) hk 0 n (by omega) (Nat.le_refl _) l hl
 refine ⟨l', aCW ?_, pm⟩
 have w' : cW (aD.f G (k + 3)) [dS p n, .int .i64 0, Nn n] (SO H p l) = some (.tup [], SO H p l') := w
 have hc : eZ H.length [dS p n, Nn 0, Nn n, I6 z, .bool true, .bool true] (SO H p l) = some (SO H p l) := lM hS.hb l _ (tT hS 0 n z)
 have hc' : eZ H.length [dS p n, .int .i64 0, Nn n, I6 z, .bool true, .bool true] (SO H p l) = some (SO H p l) := hc
 have e1 : aS Tryd.prog .sub 3 false (Nn n) (.int .i64 0) = some (Nn n) := by
  rw [kH, dK (by omega) (by omega), Int.sub_zero]
 have g1 : aS Tryd.prog .leq 3 true (Nn n) (.int .i64 12) = some (.bool true) := vH (by omega)
 have lw : cM (aJ.l2 G (k + 3) H.length (aJ.f G (k + 3))) (k + 3) [dS p n, .int .i64 0, Nn n, I6 z, .bool true, .bool true] (SO H p l) = some (.ret, [dS p n, .int .i64 0, Nn n, I6 z, .bool true, .bool true], SO H p l') := by
  rw [aU, aJ.l2]
  refine fM ?_
  refine eC hc' ?_
  have fx := aKE e1 <| aKE g1 <| w'
  refine fV ?_
  refine gM ?_; rfl
 rw [aJ.step]
 unfold aJ.c
 have fin := aCU hS l'
 rw [← hlen] at lw fin
 refine iE ?_
 have fx := True.intro
 have lx1 := lw
 refine fV ?_
 exact oF fin
include hS in
theorem few_spec (hn : n ≤ 3) (hk : n < k) (l : List Nat) (hl : l.length = n) :
  ∃ l' : List Nat, cW (aM.f G (k + 5)) [dS p n] (SO H p l) = some (.tup [], SO H p l') ∧ l'.Perm l := by
 have hlen := lO H p l
 obtain ⟨z, hz⟩ := aBh G (k + 1) n hn
 obtain ⟨l', w, pm⟩ := xA G k hS (by omega) hk z l hl
 refine ⟨l', aCW ?_, pm⟩
 have ln : aY (dS p n) = some (Nn n) := rfl
 have c1 : eE .u64 (Nn n) = some (.int .u64 (n : Int)) := by
  have : IntKind.u64.wrap (n : Int) = (n : Int) := iC (by omega) (by omega)
  simp only [eE, this]
 have r1 : ∀ H, aX (cL.f G (k + 4)) [.int .u64 (n : Int)] H = _ := fun H => cT (H := H) hz rfl rfl
 rw [aM.step]
 unfold aM.c
 have fin := aCU hS l'
 rw [← hlen] at fin
 refine iE ?_
 have fx := aKE ln <| aKE c1 <| aKE r1 <| w
 refine fV ?_
 exact oF fin
end
section
variable (G : aE) (k : Nat) (self : cU) {H : aA} {p n : Nat} (hS : SB H p) {P : Nat → Prop}
theorem aDA {o m i : Nat} (h : i < m) : aH 1 (.sl p n o m 1) (Nn i) = some (.ptr p n (o + i) 0) := by
 unfold aH
 simp only [Int.toNat_natCast]
 rw [if_pos (by omega), if_pos trivial]
theorem aAw {l : List Nat} (hl : ∀ x ∈ l, P x) {i : Nat} (h : i < l.length) : P (l.getD i 0) := by
 rw [List.getD_eq_getElem?_getD, List.getElem?_eq_getElem h]
 exact hl _ (List.getElem_mem h)
theorem aJM {l : List Nat} (hl : ∀ x ∈ l, P x) (i : Nat) {y : Nat} (hy : P y) : ∀ x ∈ l.set i y, P x := fun x hx => by
 rcases List.mem_or_eq_of_mem_set hx with h | h
 ·exact hl x h
 ·subst h; exact hy
include hS in
theorem kW (kk kb m i : Nat) : aV H.length [dS p n, Nn kk, .sl p n kb m 1, Nn i] = true := by
 have h1 : decide (p < H.length) = true := decide_eq_true hS.hp
 simp only [dS, aV, aP, h1, Bool.and_self]
include hS in
theorem qX (hn : n ≤ 1000) (kb : Nat) (h0 : 1 ≤ kb) (hb : kb < n) : ∀ (d i kk f : Nat) (l : List Nat), i + d = n - kb → 1 ≤ i → kb ≤ kk → kk < kb + i → l.length = n → (∀ x ∈ l, P x) → d < f →
  ∃ (i' kk' : Nat) (l' : List Nat), cM (aC.l9 G k H.length self) f [dS p n, Nn kk, .sl p n kb (n - kb) 1, Nn i] (SO H p l) = some (.exit 2, [dS p n, Nn kk', .sl p n kb (n - kb) 1, Nn i'], SO H p l') ∧ l'.length = n ∧ (∀ x ∈ l', P x) ∧ kb ≤ kk' ∧ kk' ≤ n
 | d, i, kk, 0, l, _, _, _, _, _, _, h => by omega
 | 0, i, kk, f + 1, l, hd, h1, h2, h3, hl, hP, hf => by
  have hc : eZ H.length [dS p n, Nn kk, .sl p n kb (n - kb) 1, Nn i] (SO H p l) = some (SO H p l) := lM hS.hb l _ (kW hS kk kb (n - kb) i)
  have ln : aY (.sl p n kb (n - kb) 1) = some (Nn (n - kb : Nat)) := rfl
  have g1 : aS Tryd.prog .lss 3 false (Nn i) (Nn (n - kb : Nat)) = some (.bool false) := fK (by omega)
  refine ⟨i, kk, l, ?_, hl, hP, h2, by omega⟩
  rw [aU, aC.l9]
  refine fM ?_
  refine eC hc ?_
  have fx := aKE ln <| g1
  refine fV ?_
  refine gM ?_; rfl
 | d + 1, i, kk, f + 1, l, hd, h1, h2, h3, hl, hP, hf => by
  have hc : eZ H.length [dS p n, Nn kk, .sl p n kb (n - kb) 1, Nn i] (SO H p l) = some (SO H p l) := lM hS.hb l _ (kW hS kk kb (n - kb) i)
  have ln : aY (.sl p n kb (n - kb) 1) = some (Nn (n - kb : Nat)) := rfl
  have g1 : aS Tryd.prog .lss 3 false (Nn i) (Nn (n - kb : Nat)) = some (.bool true) := fO (by omega)
  have d1 : aH 1 (.sl p n kb (n - kb) 1) (Nn i) = some (.ptr p n (kb + i) 0) := aDA (by omega)
  have e1 : aS Tryd.prog .sub 3 true (Nn i) (.int .i64 1) = some (Nn (i - 1 : Nat)) := aDX (b := 1) (by omega) (by omega)
  have e2 : aS Tryd.prog .add 3 true (Nn i) (.int .i64 1) = some (Nn (i + 1 : Nat)) := jY (by omega)
  have e3 : aS Tryd.prog .add 3 true (Nn kk) (.int .i64 1) = some (Nn (kk + 1 : Nat)) := jY (by omega)
  have d2 : aH 1 (.sl p n kb (n - kb) 1) (Nn (i - 1 : Nat)) = some (.ptr p n (kb + (i - 1)) 0) := aDA (by omega)
  have d3 : aH 1 (dS p n) (Nn kk) = some (.ptr p n kk 0) := jV (by omega)
  have l1 := jJ G hS hl (i := kb + i) (by omega)
  have l2 := jJ G hS hl (i := kb + (i - 1)) (by omega)
  have s1 := mX hS hl (i := kk) (by omega) (l.getD (kb + i) 0)
  by_cases hne : l.getD (kb + i) 0 = l.getD (kb + (i - 1)) 0
  ·have g2 : aS Tryd.prog .neq 3 false (Nn (l.getD (kb + i) 0)) (Nn (l.getD (kb + (i - 1)) 0)) = some (.bool false) := aHw hne
   obtain ⟨i', kk', l', w, r1, r2, r3, r4⟩ := qX hn kb h0 hb d (i + 1) kk f l (by omega) (by omega) h2 (by omega) hl hP (by omega)
   refine ⟨i', kk', l', ?_, r1, r2, r3, r4⟩
   rw [aU, aC.l9]
   refine fM ?_
   refine eC hc ?_
   clear hne
   generalize l.getD (kb + i) 0 = y1 at *
   generalize l.getD (kb + (i - 1)) 0 = y2 at *
   have fx := aKE ln <| aKE g1 <| aKE d1 <| aKE e1 <| aKE e2 <| aKE d2 <| aKE l1 <| aKE l2 <| g2
   refine fV ?_
   exact w
  ·have g2 : aS Tryd.prog .neq 3 false (Nn (l.getD (kb + i) 0)) (Nn (l.getD (kb + (i - 1)) 0)) = some (.bool true) := aHx hne
   obtain ⟨i', kk', l', w, r1, r2, r3, r4⟩ := qX hn kb h0 hb d (i + 1) (kk + 1) f (l.set kk (l.getD (kb + i) 0)) (by omega) (by omega) (by omega) (by omega) (by simp [hl]) (aJM hP kk (aAw hP (by omega))) (by omega)
   refine ⟨i', kk', l', ?_, r1, r2, r3, r4⟩
   rw [aU, aC.l9]
   refine fM ?_
   refine eC hc ?_
   clear hne
   generalize l.set kk (l.getD (kb + i) 0) = ls at *
   generalize l.getD (kb + i) 0 = y1 at *
   generalize l.getD (kb + (i - 1)) 0 = y2 at *
   have fx := aKE ln <| aKE g1 <| aKE d1 <| aKE e1 <| aKE e2 <| aKE e3 <| aKE d2 <| aKE d3 <| aKE l1 <| aKE l2 <| aKE g2 <| s1
   refine fV ?_
   exact w
include hS in
theorem kV (i : Nat) : aV H.length [dS p n, .nils, Nn i] = true := by
 have h1 : decide (p < H.length) = true := decide_eq_true hS.hp
 simp only [dS, aV, aP, h1, Bool.and_self]
theorem nD (d i : Nat) : iT d (some (Nn i)) = some i := by simp [iT]
theorem nC (d : Nat) : iT d none = some d := rfl
include hS in
theorem qW {l : List Nat} (hl : l.length = n) {kk : Nat} (h : kk ≤ n) : oM (.int .i64 0) (.sl p n kk (n - kk) 1) (SO H p l) = some (.tup [], SO H p (l.take kk ++ List.replicate (n - kk) 0)) := by
 unfold oM
 simp only [aIv hS.hp l, eG, hl]
 rw [if_pos ⟨trivial, trivial, by omega⟩]
 have e1 : (cC l).take kk ++ (List.replicate (n - kk) (AV.int .i64 0) ++ (cC l).drop (kk + (List.replicate (n - kk) (AV.int .i64 0)).length)) = cC (l.take kk ++ List.replicate (n - kk) 0) := by
  rw [List.length_replicate, List.drop_of_length_le (by rw [eG]; omega), List.append_nil]
  unfold cC
  rw [List.map_append, List.map_take, List.map_replicate]; rfl
 rw [e1, aFs]
include hS in
theorem wE (hn : n ≤ 1000) (hk : n < k) : ∀ (d i f : Nat) (l : List Nat), i + d = n → 1 ≤ i → l.length = n → (∀ x ∈ l, P x) → d < f →
  (cM (aC.l4 G k H.length self) f [dS p n, .nils, Nn i] (SO H p l) = some (.exit 0, [dS p n, .nils, Nn n], SO H p l))
  ∨ ∃ (z : AV) (m : Nat) (l' : List Nat), cM (aC.l4 G k H.length self) f [dS p n, .nils, Nn i] (SO H p l) = some (.ret, [dS p n, .sl p n 0 m 1, z], SO H p l') ∧ m ≤ n ∧ l'.length = n ∧ ∀ j, j < m → P (l'.getD j 0)
 | d, i, 0, l, _, _, _, _, h => by omega
 | 0, i, f + 1, l, hd, h1, hl, hP, hf => by
  have hi : i = n := by omega
  subst hi
  have hc : eZ H.length [dS p i, .nils, Nn i] (SO H p l) = some (SO H p l) := lM hS.hb l _ (kV hS i)
  have ln : aY (dS p i) = some (Nn i) := rfl
  have g1 : aS Tryd.prog .lss 3 false (Nn i) (Nn i) = some (.bool false) := fK (by omega)
  refine .inl ?_
  rw [aU, aC.l4]
  refine fM ?_
  refine eC hc ?_
  have fx := aKE ln <| g1
  refine fV ?_
  refine gM ?_; rfl
 | d + 1, i, f + 1, l, hd, h1, hl, hP, hf => by
  have hlen := lO H p l
  have hc : eZ H.length [dS p n, .nils, Nn i] (SO H p l) = some (SO H p l) := lM hS.hb l _ (kV hS i)
  have ln : aY (dS p n) = some (Nn n) := rfl
  have g1 : aS Tryd.prog .lss 3 false (Nn i) (Nn n) = some (.bool true) := fO (by omega)
  have d1 : aH 1 (dS p n) (Nn i) = some (.ptr p n i 0) := jV (by omega)
  have e1 : aS Tryd.prog .sub 3 true (Nn i) (.int .i64 1) = some (Nn (i - 1 : Nat)) := aDX (b := 1) (by omega) (by omega)
  have e2 : aS Tryd.prog .add 3 true (Nn i) (.int .i64 1) = some (Nn (i + 1 : Nat)) := jY (by omega)
  have d2 : aH 1 (dS p n) (Nn (i - 1 : Nat)) = some (.ptr p n (i - 1) 0) := jV (by omega)
  have l1 := jJ G hS hl (i := i) (by omega)
  have l2 := jJ G hS hl (i := i - 1) (by omega)
  by_cases hne : l.getD i 0 = l.getD (i - 1) 0
  ·have g2 : aS Tryd.prog .eql 3 false (Nn (l.getD i 0)) (Nn (l.getD (i - 1) 0)) = some (.bool true) := aFU hne
   obtain ⟨i', kk', l', w, r1, r2, r3, r4⟩ := qX G k self hS hn i h1 (by omega) (n - i - 1) 1 i k l (by omega) (by omega) (by omega) (by omega) hl hP (by omega)
   have w' : cM (aC.l9 G k (SO H p l).length self) k [dS p n, Nn i, .sl p n i (n - i) 1, .int .i64 1] (SO H p l) = some (.exit 2, [dS p n, Nn kk', .sl p n i (n - i) 1, Nn i'], SO H p l') := by
    rw [hlen]; exact w
   have s1 : gD 1 (dS p n) (some (Nn i)) none = some (.sl p n i (n - i) 1) := by
    simp only [gD, nD, nC, dS, Nat.zero_add]
    rw [if_pos (by refine ⟨?_, ?_, trivial⟩ <;> omega)]
   have s2 : gD 1 (dS p n) (some (Nn kk')) none = some (.sl p n kk' (n - kk') 1) := by
    simp only [gD, nD, nC, dS, Nat.zero_add]
    rw [if_pos (by refine ⟨?_, ?_, trivial⟩ <;> omega)]
   have s3 : gD 1 (dS p n) none (some (Nn kk')) = some (.sl p n 0 kk' 1) := by
    simp only [gD, nD, nC, dS, Nat.zero_add, Nat.sub_zero]
    rw [if_pos (by refine ⟨?_, ?_, trivial⟩ <;> omega)]
   have c1 := qW hS r1 r4
   refine .inr ⟨Nn kk', kk', l'.take kk' ++ List.replicate (n - kk') 0, ?_, r4, by simp [r1]; omega, fun j hj => ?_⟩
   ·rw [aU, aC.l4]
    refine fM ?_
    refine eC hc ?_
    clear hne
    generalize l.getD i 0 = y1 at *
    generalize l.getD (i - 1) 0 = y2 at *
    generalize l'.take kk' ++ List.replicate (n - kk') 0 = lz at *
    have fx := aKE ln <| aKE g1 <| aKE d1 <| aKE d2 <| aKE e1 <| aKE e2 <| aKE l1 <| aKE l2 <| aKE g2 <| aKE s1 <| aKE s2 <| aKE s3 <| c1
    have lx1 := w'
    refine fV ?_
    refine gM ?_; rfl
   ·rw [List.getD_eq_getElem?_getD, List.getElem?_append_left (by simp [r1]; omega), List.getElem?_take_of_lt hj, ← List.getD_eq_getElem?_getD]
    exact aAw r2 (by omega)
  ·have g2 : aS Tryd.prog .eql 3 false (Nn (l.getD i 0)) (Nn (l.getD (i - 1) 0)) = some (.bool false) := aFT hne
   have ih := wE hn hk d (i + 1) f l (by omega) (by omega) hl hP (by omega)
   have st : cM (aC.l4 G k H.length self) (f + 1) [dS p n, .nils, Nn i] (SO H p l) = cM (aC.l4 G k H.length self) f [dS p n, .nils, Nn (i + 1 : Nat)] (SO H p l) := by
    generalize hgen : cM (aC.l4 G k H.length self) f [dS p n, .nils, Nn (i + 1 : Nat)] (SO H p l) = rr
    rw [aU, aC.l4]
    refine fM ?_
    refine eC hc ?_
    clear hne ih
    generalize l.getD i 0 = y1 at *
    generalize l.getD (i - 1) 0 = y2 at *
    have fx := aKE ln <| aKE g1 <| aKE d1 <| aKE d2 <| aKE e1 <| aKE e2 <| aKE l1 <| aKE l2 <| g2
    refine fV ?_
    exact hgen
   rw [st]; exact ih
include hS in
theorem cpt_spec (hn : n ≤ 1000) (hk : n < k) (l : List Nat) (hl : l.length = n) (hP : ∀ x ∈ l, P x) :
  ∃ (m : Nat) (l' : List Nat), cW (aC.f G (k + 1)) [dS p n] (SO H p l) = some (.sl p n 0 m 1, SO H p l') ∧ m ≤ n ∧ l'.length = n ∧ ∀ j, j < m → P (l'.getD j 0) := by
 have hlen := lO H p l
 have ln : aY (dS p n) = some (Nn n) := rfl
 have hp : decide (p < H.length) = true := decide_eq_true hS.hp
 have fin : ∀ (m : Nat) (l' : List Nat), cQ [.sl p n 0 m 1] H.length (SO H p l') = some (.ret, [.sl p n 0 m 1], SO H p l') := fun m l' => by
  unfold cQ
  rw [lM hS.hb l' _ (by simp only [aV, aP, hp, Bool.and_self])]
  have e : nG (SO H p l') H.length 6 (jI [.sl p n 0 m 1]) = some (.sl p n 0 m 1) := by
   simp only [jI, nG, aP, hp]
  simp only [e]
 have hc : ∀ {r : AV} {l' : List Nat}, aC.f G (k + 1) [dS p n] (SO H p l) = some (r, SO H p l') → cW (aC.f G (k + 1)) [dS p n] (SO H p l) = some (r, SO H p l') := fun h => by
  unfold cW; rw [h]; simp only [lO, Nat.le_refl, if_true]
 by_cases h2 : n < 2
 ·have g1 : aS Tryd.prog .lss 3 true (Nn n) (.int .i64 2) = some (.bool true) := fO (by omega)
  refine ⟨n, l, hc ?_, Nat.le_refl _, hl, fun j hj => aAw hP (by omega)⟩
  have fin' := fin n l
  rw [aC.step]
  unfold aC.c
  rw [← hlen] at fin'
  refine iE ?_
  have fx := aKE ln <| g1
  refine fV ?_
  exact oF fin'
 ·have g1 : aS Tryd.prog .lss 3 true (Nn n) (.int .i64 2) = some (.bool false) := fK (by omega)
  rcases wE G k (aC.f G k) hS (P := P) hn hk (n - 1) 1 k l (by omega) (by omega) hl hP (by omega) with w | ⟨z, m, l', w, r1, r2, r3⟩
  ·have w' : cM (aC.l4 G k (SO H p l).length (aC.f G k)) k [dS p n, .nils, .int .i64 1] (SO H p l) = some (.exit 0, [dS p n, .nils, Nn n], SO H p l) := by
    rw [hlen]; exact w
   refine ⟨n, l, hc ?_, Nat.le_refl _, hl, fun j hj => aAw hP (by omega)⟩
   have fin' := fin n l
   rw [aC.step]
   unfold aC.c
   rw [← hlen] at fin'
   refine iE ?_
   have fx := aKE ln <| g1
   have lx1 := w'
   refine fV ?_
   exact oF fin'
  ·have w' : cM (aC.l4 G k (SO H p l).length (aC.f G k)) k [dS p n, .nils, .int .i64 1] (SO H p l) = some (.ret, [dS p n, .sl p n 0 m 1, z], SO H p l') := by
    rw [hlen]; exact w
   refine ⟨m, l', hc ?_, r1, r2, r3⟩
   have fin' := fin m l'
   rw [aC.step]
   unfold aC.c
   rw [← hlen] at fin'
   refine iE ?_
   have fx := aKE ln <| g1
   have lx1 := w'
   refine fV ?_
   exact oF fin'
end
end Go.Proofs.YtlkgkfgkiidhdaaDoor.Mir
namespace Go.Proofs.YtlkgkfgkiidhdaaDoor.Mir.I3
open Go Go.Proofs.YtlkgkfgkiidhdaaDoor.Mir
set_option linter.unusedVariables false
set_option linter.unusedSimpArgs false
set_option maxHeartbeats 8000000
set_option maxRecDepth 20000
def intsI (l : List Int) : List AV := l.map fun n => I6 n
theorem intsI_len (l : List Int) : (intsI l).length = l.length := by simp [intsI]
theorem intsI_below (n : Nat) (l : List Int) : aV n (intsI l) = true := hZ n _ (fun _ => rfl) l
theorem intsI_sz (l : List Int) : iN 1 (intsI l) = true := kL 1 _ (fun _ => rfl) l
theorem intsI_get (l : List Int) (j : Nat) (h : j < l.length) : (intsI l)[j]? = some (I6 (l.getD j 0)) := by
 unfold intsI
 rw [List.getElem?_map, List.getElem?_eq_getElem h, List.getD_eq_getElem?_getD, List.getElem?_eq_getElem h]; rfl
theorem aEL (l : List Int) (j : Nat) (x : Int) : (intsI l).set j (I6 x) = intsI (l.set j x) := by
 unfold intsI
 rw [List.map_set]
def TO (H : aA) (p : Nat) (l : List Int) : aA := H.set p ⟨3, 1, intsI l⟩
theorem mY (H : aA) (p : Nat) (l : List Int) : (TO H p l).length = H.length := by simp [TO]
theorem TO_set (H : aA) (p : Nat) (l m : List Int) : (TO H p l).set p ⟨3, 1, intsI m⟩ = TO H p m := by simp [TO]
theorem TO_p {H : aA} {p : Nat} (hp : p < H.length) (l : List Int) : (TO H p l)[p]? = some ⟨3, 1, intsI l⟩ := by simp [TO, hp]
theorem TO_cut {H : aA} {p : Nat} (hb : cF H.length H = true) (l : List Int) (xs : List AV) (hx : aV H.length xs = true) : eZ H.length xs (TO H p l) = some (TO H p l) := by
 unfold eZ
 have e : (TO H p l).take H.length = TO H p l := List.take_of_length_le (by rw [mY]; exact Nat.le_refl _)
 rw [e, hx]
 have : cF H.length (TO H p l) = true := lS (b := ⟨3, 1, intsI l⟩) (intsI_below _ l) H p hb
 rw [this]; rfl
def swI (l : List Int) (i j : Nat) : List Int := (l.set i (l.getD j 0)).set j (l.getD i 0)
theorem aEq (l : List Int) (i j : Nat) : (swI l i j).length = l.length := by simp [swI]
def dnI (a : Nat) : Nat → List Int → List Int
 | 0, l => l
 | j + 1, l => if a < j + 1 ∧ l.getD (j + 1) 0 < l.getD j 0 then dnI a j (swI l (j + 1) j) else l
theorem aAt (a : Nat) : ∀ (j : Nat) (l : List Int), (dnI a j l).length = l.length
 | 0, l => rfl
 | j + 1, l => by
  unfold dnI
  split
  ·rw [aAt a j]; exact aEq ..
  ·rfl
def inI (a : Nat) : Nat → Nat → List Int → List Int
 | 0, i, l => l
 | d + 1, i, l => inI a d (i + 1) (dnI a i l)
theorem inI_len (a : Nat) : ∀ (d i : Nat) (l : List Int), (inI a d i l).length = l.length
 | 0, i, l => rfl
 | d + 1, i, l => by unfold inI; rw [inI_len a d]; exact aAt ..
theorem tD {g : cU} {args : List AV} {H : aA} {p : Nat} {l l' : List Int} {r : AV} (h : g args (TO H p l) = some (r, TO H p l')) : cW g args (TO H p l) = some (r, TO H p l') := by
 unfold cW
 rw [h]
 simp only [mY, Nat.le_refl, if_true]
section
variable (G : aE) (k : Nat) (self : cU) {H : aA} {p n : Nat} (hS : SB H p)
include hS in
theorem jJ {l : List Int} (hl : l.length = n) {i : Nat} (h : i < n) : aI G false 1 (.ptr p n i 0) (TO H p l) = some (I6 (l.getD i 0)) := by
 unfold aI
 simp only [TO_p hS.hp l, intsI_len, hl, if_true, intsI_get l i (by omega)]
 rfl
include hS in
theorem mX {l : List Int} (hl : l.length = n) {i : Nat} (h : i < n) (x : Int) : fP (aO 1 (.ptr p n i 0) (I6 x) (TO H p l)) = some (.tup [], TO H p (l.set i x)) := by
 have e : aO 1 (.ptr p n i 0) (I6 x) (TO H p l) = some (TO H p (l.set i x)) := by
  unfold aO
  simp only [TO_p hS.hp l, intsI_len, hl]
  rw [if_pos ⟨trivial, rfl, rfl⟩]
  simp only [intsI_get l i (by omega)]
  rw [if_pos (by show 0 + 1 ≤ 1; omega)]
  have : dH (I6 (l.getD i 0)) (fL (I6 (l.getD i 0)).cells 0 (I6 x).cells) = I6 x := rfl
  rw [this, aEL, TO_set]
 rw [e]; rfl
theorem rB (x : Int) : bD.f G (k + 1) [I6 x] [] = some (.bool false, []) := by
 have g : aS Tryd.prog .neq 3 false (I6 x) (I6 x) = some (.bool false) := lG rfl
 rw [bD.step]
 unfold bD.c
 refine iE ?_
 have fx := g
 refine fV ?_
 exact w1b rfl
theorem tF (x y : Int) : bH.f G (k + 2) [I6 x, I6 y] [] = some (.bool (decide (x < y)), []) := by
 have r1 : ∀ H, aX (bD.f G (k + 1)) [I6 x] H = _ := fun H => cT (H := H) (rB G k x) rfl rfl
 have g : aS Tryd.prog .lss 3 false (I6 x) (I6 y) = some (.bool (decide (x < y))) := iD ..
 rw [bH.step]
 unfold bH.c
 refine iE ?_
 generalize decide (x < y) = b at *
 have fx := aKE r1 <| g
 refine fV ?_
 exact w1b rfl
def yP (p n a b i j : Nat) : List AV := [dS p n, Nn a, Nn b, Nn i, Nn j]
def ys1 (p n a b i : Nat) : List AV := [dS p n, Nn a, Nn b, Nn i]
include hS in
theorem qF (n a b i j : Nat) : aV H.length (yP p n a b i j) = true := by
 have h1 : decide (p < H.length) = true := decide_eq_true hS.hp
 simp only [yP, dS, aV, aP, h1, Bool.and_self]
include hS in
theorem mU (n a b i : Nat) : aV H.length (ys1 p n a b i) = true := by
 have h1 : decide (p < H.length) = true := decide_eq_true hS.hp
 simp only [ys1, dS, aV, aP, h1, Bool.and_self]
include hS in
theorem wM (hn : n ≤ 1000) (a b i : Nat) : ∀ (j f : Nat) (l : List Int), l.length = n → j < n → j < f →
  ∃ j' : Nat, cM (aD.l4 G (k + 2) H.length self) f (yP p n a b i j) (TO H p l) = some (.exit 2, yP p n a b i j', TO H p (dnI a j l))
 | j, 0, l, _, _, h => by omega
 | 0, f + 1, l, hl, hj, hf => by
  have hc : eZ H.length (yP p n a b i 0) (TO H p l) = some (TO H p l) := TO_cut hS.hb l _ (qF hS n a b i 0)
  have g1 : aS Tryd.prog .gtr 3 false (Nn 0) (Nn a) = some (.bool false) := jS (by omega)
  refine ⟨0, ?_⟩
  rw [aU, aD.l4]
  refine fM ?_
  refine eC hc ?_
  unfold yP dnI
  have fx := g1
  refine fV ?_
  refine gM ?_; rfl
 | j + 1, f + 1, l, hl, hj, hf => by
  have hc : eZ H.length (yP p n a b i (j + 1)) (TO H p l) = some (TO H p l) := TO_cut hS.hb l _ (qF hS n a b i (j + 1))
  by_cases ha : a < j + 1
  ·have g1 : aS Tryd.prog .gtr 3 false (Nn (j + 1 : Nat)) (Nn a) = some (.bool true) := nO (by omega)
   have d1 : aH 1 (.sl p n 0 n 1) (Nn (j + 1 : Nat)) = some (.ptr p n (j + 1) 0) := jV hj
   have d2 : aH 1 (.sl p n 0 n 1) (Nn j) = some (.ptr p n j 0) := jV (by omega)
   have l1 := jJ G hS hl hj
   have l2 := jJ G hS hl (i := j) (by omega)
   have m1 : aS Tryd.prog .sub 3 true (Nn (j + 1 : Nat)) (.int .i64 1) = some (Nn j) := by
    rw [kH, dK (by omega) (by omega)]; congr 2; omega
   have r1 : ∀ H, aX (bH.f G (k + 2)) [I6 (l.getD (j + 1) 0), I6 (l.getD j 0)] H = _ := fun H => cT (H := H) (tF G k (l.getD (j + 1) 0) (l.getD j 0)) rfl rfl
   by_cases hcn : l.getD (j + 1) 0 < l.getD j 0
   ·rw [decide_eq_true hcn] at r1
    have s1 := mX hS hl hj (l.getD j 0)
    have hl2 : (l.set (j + 1) (l.getD j 0)).length = n := by simp [hl]
    have s2 := mX hS hl2 (i := j) (by omega) (l.getD (j + 1) 0)
    have hsw : (l.set (j + 1) (l.getD j 0)).set j (l.getD (j + 1) 0) = swI l (j + 1) j := rfl
    rw [hsw] at s2
    obtain ⟨j', h1⟩ := wM hn a b i j f (swI l (j + 1) j) (by rw [aEq]; exact hl) (by omega) (by omega)
    refine ⟨j', ?_⟩
    rw [dnI, if_pos ⟨ha, hcn⟩]
    rw [aU, aD.l4]
    refine fM ?_
    refine eC hc ?_
    unfold yP at h1 ⊢
    clear hcn hsw
    generalize dnI a j (swI l (j + 1) j) = ld at *
    generalize swI l (j + 1) j = ls at *
    generalize l.getD (j + 1) 0 = y1 at *
    generalize l.getD j 0 = y2 at *
    have fx := aKE g1 <| aKE d1 <| aKE d2 <| aKE l1 <| aKE l2 <| aKE m1 <| aKE r1 <| aKE s1 <| s2
    refine fV ?_
    exact h1
   ·rw [decide_eq_false hcn] at r1
    refine ⟨j + 1, ?_⟩
    rw [dnI, if_neg (fun h => hcn h.2)]
    rw [aU, aD.l4]
    refine fM ?_
    refine eC hc ?_
    unfold yP
    clear hcn
    generalize l.getD (j + 1) 0 = y1 at *
    generalize l.getD j 0 = y2 at *
    have fx := aKE g1 <| aKE d1 <| aKE d2 <| aKE l1 <| aKE l2 <| aKE m1 <| r1
    refine fV ?_
    refine gM ?_; rfl
  ·have g1 : aS Tryd.prog .gtr 3 false (Nn (j + 1 : Nat)) (Nn a) = some (.bool false) := jS (by omega)
   refine ⟨j + 1, ?_⟩
   rw [dnI, if_neg (fun h => ha h.1)]
   rw [aU, aD.l4]
   refine fM ?_
   refine eC hc ?_
   unfold yP
   have fx := g1
   refine fV ?_
   refine gM ?_; rfl
include hS in
theorem aCU (l : List Int) : cQ [] H.length (TO H p l) = some (.ret, [.tup []], TO H p l) := by
 unfold cQ
 rw [TO_cut hS.hb l _ rfl]; rfl
include hS in
theorem wL (hn : n ≤ 1000) (hk : n < k) (a b : Nat) (hb : b ≤ n) : ∀ (d i f : Nat) (l : List Int), i + d = max i b → l.length = n → d < f →
  ∃ i' : Nat, cM (aD.l1 G (k + 2) H.length self) f (ys1 p n a b i) (TO H p l) = some (.exit 0, ys1 p n a b i', TO H p (inI a d i l))
 | d, i, 0, l, _, _, h => by omega
 | 0, i, f + 1, l, hd, hl, hf => by
  have hc : eZ H.length (ys1 p n a b i) (TO H p l) = some (TO H p l) := TO_cut hS.hb l _ (mU hS n a b i)
  have g1 : aS Tryd.prog .lss 3 false (Nn i) (Nn b) = some (.bool false) := fK (by omega)
  refine ⟨i, ?_⟩
  rw [aU, aD.l1]
  refine fM ?_
  refine eC hc ?_
  unfold ys1 inI
  have fx := g1
  refine fV ?_
  refine gM ?_; rfl
 | d + 1, i, f + 1, l, hd, hl, hf => by
  have hc : eZ H.length (ys1 p n a b i) (TO H p l) = some (TO H p l) := TO_cut hS.hb l _ (mU hS n a b i)
  have hib : i < b := by omega
  have g1 : aS Tryd.prog .lss 3 false (Nn i) (Nn b) = some (.bool true) := fO (by omega)
  obtain ⟨j', hl4⟩ := wM G k self hS hn a b i i (k + 2) l hl (by omega) (by omega)
  obtain ⟨i', h1⟩ := wL hn hk a b hb d (i + 1) f (dnI a i l) (by omega) (by rw [aAt]; exact hl) (by omega)
  refine ⟨i', ?_⟩
  have q2 : aS Tryd.prog .add 3 true (Nn i) (.int .i64 1) = some (Nn (i + 1)) := by
   rw [gU, dK (by omega) (by omega)]; congr 2
  have hlen := mY H p l
  rw [aU, aD.l1]
  refine fM ?_
  refine eC hc ?_
  rw [← hlen] at hl4
  rw [inI]
  unfold ys1 at h1 ⊢
  unfold yP at hl4
  generalize inI a d (i + 1) (dnI a i l) = l2 at *
  generalize dnI a i l = l1 at *
  have fx := aKE g1 <| q2
  have lx1 := hl4
  refine fV ?_
  exact h1
include hS in
theorem wN (hn : n ≤ 1000) (hk : n < k) (a b : Nat) (ha : a ≤ b) (hb : b ≤ n) (l : List Int) (hl : l.length = n) :
  cW (aD.f G (k + 3)) [dS p n, Nn a, Nn b] (TO H p l) = some (.tup [], TO H p (inI a (b - (a + 1)) (a + 1) l)) := by
 obtain ⟨i', h1⟩ := wL G k (aD.f G (k + 2)) hS hn hk a b hb (b - (a + 1)) (a + 1) (k + 2) l (by omega) hl (by omega)
 generalize inI a (b - (a + 1)) (a + 1) l = l' at *
 refine tD ?_
 rw [aD.step]
 unfold aD.c
 rw [mY]
 have q1 : aS Tryd.prog .add 3 true (Nn a) (.int .i64 1) = some (Nn (a + 1 : Nat)) := by
  rw [gU, dK (by omega) (by omega)]; congr 2
 have fin := aCU hS l'
 unfold ys1 at h1
 have hlen := mY H p l
 refine iE ?_
 rw [← hlen] at h1
 have fx := q1
 have lx1 := h1
 refine fV ?_
 exact oF fin
include hS in
theorem tT (a b : Nat) (z : Int) : aV H.length [dS p n, Nn a, Nn b, I6 z, .bool true, .bool true] = true := by
 have h1 : decide (p < H.length) = true := decide_eq_true hS.hp
 simp only [dS, aV, aP, h1, Bool.and_self]
include hS in
theorem xA (hn : n ≤ 12) (hk : n < k) (z : Int) (l : List Int) (hl : l.length = n) :
  cW (aJ.f G (k + 4)) [dS p n, .int .i64 0, Nn n, I6 z] (TO H p l) = some (.tup [], TO H p (inI 0 (n - 1) 1 l)) := by
 have hlen := mY H p l
 have w := wN G k hS (by omega) hk 0 n (by omega) (Nat.le_refl _) l hl
 simp only [Nat.zero_add] at w
 generalize inI 0 (n - 1) 1 l = l' at *
 refine tD ?_
 have w' : cW (aD.f G (k + 3)) [dS p n, .int .i64 0, Nn n] (TO H p l) = some (.tup [], TO H p l') := w
 have hc : eZ H.length [dS p n, Nn 0, Nn n, I6 z, .bool true, .bool true] (TO H p l) = some (TO H p l) := TO_cut hS.hb l _ (tT hS 0 n z)
 have hc' : eZ H.length [dS p n, .int .i64 0, Nn n, I6 z, .bool true, .bool true] (TO H p l) = some (TO H p l) := hc
 have e1 : aS Tryd.prog .sub 3 false (Nn n) (.int .i64 0) = some (Nn n) := by
  rw [kH, dK (by omega) (by omega), Int.sub_zero]
 have g1 : aS Tryd.prog .leq 3 true (Nn n) (.int .i64 12) = some (.bool true) := vH (by omega)
 have lw : cM (aJ.l2 G (k + 3) H.length (aJ.f G (k + 3))) (k + 3) [dS p n, .int .i64 0, Nn n, I6 z, .bool true, .bool true] (TO H p l) = some (.ret, [dS p n, .int .i64 0, Nn n, I6 z, .bool true, .bool true], TO H p l') := by
  rw [aU, aJ.l2]
  refine fM ?_
  refine eC hc' ?_
  have fx := aKE e1 <| aKE g1 <| w'
  refine fV ?_
  refine gM ?_; rfl
 rw [aJ.step]
 unfold aJ.c
 have fin := aCU hS l'
 rw [← hlen] at lw fin
 refine iE ?_
 have fx := True.intro
 have lx1 := lw
 refine fV ?_
 exact oF fin
include hS in
theorem few_spec (hn : n ≤ 3) (hk : n < k) (l : List Int) (hl : l.length = n) :
  cW (aM.f G (k + 5)) [dS p n] (TO H p l) = some (.tup [], TO H p (inI 0 (n - 1) 1 l)) := by
 have hlen := mY H p l
 obtain ⟨z, hz⟩ := aBh G (k + 1) n hn
 have w := xA G k hS (by omega) hk z l hl
 generalize inI 0 (n - 1) 1 l = l' at *
 refine tD ?_
 have ln : aY (dS p n) = some (Nn n) := rfl
 have c1 : eE .u64 (Nn n) = some (.int .u64 (n : Int)) := by
  have : IntKind.u64.wrap (n : Int) = (n : Int) := iC (by omega) (by omega)
  simp only [eE, this]
 have r1 : ∀ H, aX (cL.f G (k + 4)) [.int .u64 (n : Int)] H = _ := fun H => cT (H := H) hz rfl rfl
 rw [aM.step]
 unfold aM.c
 have fin := aCU hS l'
 rw [← hlen] at fin
 refine iE ?_
 have fx := aKE ln <| aKE c1 <| aKE r1 <| w
 refine fV ?_
 exact oF fin
end
theorem kZ {a b x : Int} : x ∈ [a, b] ↔ x = a ∨ x = b := by simp
theorem inI_sorted (l : List Int) (h : l.length ≤ 3) : (inI 0 (l.length - 1) 1 l).Pairwise (· ≤ ·) ∧ ∀ x, x ∈ inI 0 (l.length - 1) 1 l ↔ x ∈ l := by
 match l, h with
 | [], _ => simp [inI]
 | [a], _ => simp [inI]
 | [a, b], _ =>
  simp only [List.length_cons, List.length_nil, Nat.zero_add, Nat.reduceAdd, Nat.add_one_sub_one, inI, dnI, swI, List.getD_cons_zero, List.getD_cons_succ, List.set_cons_zero, List.set_cons_succ]
  split
  ·rename_i hq
   refine ⟨by simp; omega, fun x => ?_⟩
   simp only [List.mem_cons, List.not_mem_nil, or_false]; omega
  ·rename_i hq
   exact ⟨by simp at hq ⊢; omega, fun x => Iff.rfl⟩
 | [a, b, c], _ =>
  simp only [List.length_cons, List.length_nil, Nat.zero_add, Nat.reduceAdd, Nat.reduceSub, inI, dnI, swI, List.getD_cons_zero, List.getD_cons_succ, List.set_cons_zero, List.set_cons_succ]
  by_cases h1 : b < a
  ·simp only [h1, and_true, Nat.zero_lt_one, if_true, List.getD_cons_zero, List.getD_cons_succ, List.set_cons_zero, List.set_cons_succ]
   repeat' split
   all_goals (rename_i hq; refine ⟨?_, fun x => ?_⟩)
   all_goals first
    | (simp only [List.pairwise_cons, List.mem_cons, List.not_mem_nil, or_false, forall_eq_or_imp, forall_eq, false_implies, implies_true, and_true, List.Pairwise.nil]; simp at *; omega)
    | (simp only [List.mem_cons, List.not_mem_nil, or_false]; omega)
  ·simp only [h1, and_false, if_false, List.getD_cons_zero, List.getD_cons_succ, List.set_cons_zero, List.set_cons_succ]
   repeat' split
   all_goals (refine ⟨?_, fun x => ?_⟩)
   all_goals first
    | exact Iff.rfl
    | (simp only [List.pairwise_cons, List.mem_cons, List.not_mem_nil, or_false, forall_eq_or_imp, forall_eq, false_implies, implies_true, and_true, List.Pairwise.nil]; simp at *; omega)
    | (simp only [List.mem_cons, List.not_mem_nil, or_false]; omega)
end Go.Proofs.YtlkgkfgkiidhdaaDoor.Mir.I3
namespace Go.Proofs.YtlkgkfgkiidhdaaDoor.Mir.I3
open Go Go.Proofs.YtlkgkfgkiidhdaaDoor.Mir
set_option linter.unusedVariables false
set_option linter.unusedSimpArgs false
set_option maxHeartbeats 8000000
set_option maxRecDepth 20000
section
variable (G : aE) (k : Nat) (self : cU) {H : aA} {p n : Nat} (hS : SB H p)
def uD (kb : Nat) : Nat → Nat → Nat → List Int → Nat × List Int
 | 0, i, kk, l => (kk, l)
 | d + 1, i, kk, l => if l.getD (kb + i) 0 = l.getD (kb + (i - 1)) 0 then uD kb d (i + 1) kk l else uD kb d (i + 1) (kk + 1) (l.set kk (l.getD (kb + i) 0))
def l4F (n : Nat) : Nat → Nat → List Int → Option (Nat × List Int)
 | 0, i, l => none
 | d + 1, i, l => if l.getD i 0 = l.getD (i - 1) 0 then some ((uD i (n - i - 1) 1 i l).1, (uD i (n - i - 1) 1 i l).2.take (uD i (n - i - 1) 1 i l).1 ++ List.replicate (n - (uD i (n - i - 1) 1 i l).1) 0) else l4F n d (i + 1) l
def cpF (l : List Int) : Nat × List Int :=
 if l.length < 2 then (l.length, l) else match l4F l.length (l.length - 1) 1 l with
  | none => (l.length, l)
  | some r => r
theorem vC (kb : Nat) : ∀ (d i kk : Nat) (l : List Int), (uD kb d i kk l).2.length = l.length
 | 0, i, kk, l => rfl
 | d + 1, i, kk, l => by
  unfold uD
  split
  ·exact vC kb d ..
  ·rw [vC kb d]; simp
theorem aAD (kb : Nat) : ∀ (d i kk : Nat) (l : List Int), kk ≤ (uD kb d i kk l).1 ∧ (uD kb d i kk l).1 ≤ kk + d
 | 0, i, kk, l => ⟨Nat.le_refl _, Nat.le_refl _⟩
 | d + 1, i, kk, l => by
  unfold uD
  split
  ·have := aAD kb d (i + 1) kk l; omega
  ·have := aAD kb d (i + 1) (kk + 1) (l.set kk (l.getD (kb + i) 0)); omega
theorem aDV (n : Nat) : ∀ (d i : Nat) (l : List Int) (r : Nat × List Int), l.length = n → 1 ≤ i → i + d = n → l4F n d i l = some r → r.2.length = n
 | 0, i, l, r, _, _, _, h => by simp [l4F] at h
 | d + 1, i, l, r, hl, h1, hd, h => by
  rw [l4F] at h
  split at h
  ·simp only [Option.some.injEq] at h
   subst h
   have a1 := vC i (n - i - 1) 1 i l
   have a2 := (aAD i (n - i - 1) 1 i l).2
   simp only [List.length_append, List.length_take, List.length_replicate, a1, hl]
   omega
  ·exact aDV n d (i + 1) l r hl (by omega) (by omega) h
theorem cpF_len (l : List Int) : (cpF l).2.length = l.length := by
 unfold cpF
 split
 ·rfl
 ·split
  ·rfl
  ·rename_i r hr
   exact aDV l.length _ _ l r rfl (by omega) (by omega) hr
include hS in
theorem kW (kk kb m i : Nat) : aV H.length [dS p n, Nn kk, .sl p n kb m 1, Nn i] = true := by
 have h1 : decide (p < H.length) = true := decide_eq_true hS.hp
 simp only [dS, aV, aP, h1, Bool.and_self]
include hS in
theorem qX (hn : n ≤ 1000) (kb : Nat) (h0 : 1 ≤ kb) (hb : kb < n) : ∀ (d i kk f : Nat) (l : List Int), i + d = n - kb → 1 ≤ i → kb ≤ kk → kk < kb + i → l.length = n → d < f →
  ∃ i' : Nat, cM (aC.l9 G k H.length self) f [dS p n, Nn kk, .sl p n kb (n - kb) 1, Nn i] (TO H p l) = some (.exit 2, [dS p n, Nn (uD kb d i kk l).1, .sl p n kb (n - kb) 1, Nn i'], TO H p (uD kb d i kk l).2)
 | d, i, kk, 0, l, _, _, _, _, _, h => by omega
 | 0, i, kk, f + 1, l, hd, h1, h2, h3, hl, hf => by
  have hc : eZ H.length [dS p n, Nn kk, .sl p n kb (n - kb) 1, Nn i] (TO H p l) = some (TO H p l) := TO_cut hS.hb l _ (kW hS kk kb (n - kb) i)
  have ln : aY (.sl p n kb (n - kb) 1) = some (Nn (n - kb : Nat)) := rfl
  have g1 : aS Tryd.prog .lss 3 false (Nn i) (Nn (n - kb : Nat)) = some (.bool false) := fK (by omega)
  refine ⟨i, ?_⟩
  rw [aU, aC.l9, uD]
  refine fM ?_
  refine eC hc ?_
  have fx := aKE ln <| g1
  refine fV ?_
  refine gM ?_; rfl
 | d + 1, i, kk, f + 1, l, hd, h1, h2, h3, hl, hf => by
  have hc : eZ H.length [dS p n, Nn kk, .sl p n kb (n - kb) 1, Nn i] (TO H p l) = some (TO H p l) := TO_cut hS.hb l _ (kW hS kk kb (n - kb) i)
  have ln : aY (.sl p n kb (n - kb) 1) = some (Nn (n - kb : Nat)) := rfl
  have g1 : aS Tryd.prog .lss 3 false (Nn i) (Nn (n - kb : Nat)) = some (.bool true) := fO (by omega)
  have d1 : aH 1 (.sl p n kb (n - kb) 1) (Nn i) = some (.ptr p n (kb + i) 0) := aDA (by omega)
  have e1 : aS Tryd.prog .sub 3 true (Nn i) (.int .i64 1) = some (Nn (i - 1 : Nat)) := aDX (b := 1) (by omega) (by omega)
  have e2 : aS Tryd.prog .add 3 true (Nn i) (.int .i64 1) = some (Nn (i + 1 : Nat)) := jY (by omega)
  have e3 : aS Tryd.prog .add 3 true (Nn kk) (.int .i64 1) = some (Nn (kk + 1 : Nat)) := jY (by omega)
  have d2 : aH 1 (.sl p n kb (n - kb) 1) (Nn (i - 1 : Nat)) = some (.ptr p n (kb + (i - 1)) 0) := aDA (by omega)
  have d3 : aH 1 (dS p n) (Nn kk) = some (.ptr p n kk 0) := jV (by omega)
  have l1 := jJ G hS hl (i := kb + i) (by omega)
  have l2 := jJ G hS hl (i := kb + (i - 1)) (by omega)
  have s1 := mX hS hl (i := kk) (by omega) (l.getD (kb + i) 0)
  by_cases hne : l.getD (kb + i) 0 = l.getD (kb + (i - 1)) 0
  ·have g2 : aS Tryd.prog .neq 3 false (I6 (l.getD (kb + i) 0)) (I6 (l.getD (kb + (i - 1)) 0)) = some (.bool false) := lG hne
   obtain ⟨i', w⟩ := qX hn kb h0 hb d (i + 1) kk f l (by omega) (by omega) h2 (by omega) hl (by omega)
   refine ⟨i', ?_⟩
   rw [aU, aC.l9, uD, if_pos hne]
   refine fM ?_
   refine eC hc ?_
   clear hne
   generalize uD kb d (i + 1) kk l = r at *
   generalize l.getD (kb + i) 0 = y1 at *
   generalize l.getD (kb + (i - 1)) 0 = y2 at *
   have fx := aKE ln <| aKE g1 <| aKE d1 <| aKE e1 <| aKE e2 <| aKE d2 <| aKE l1 <| aKE l2 <| g2
   refine fV ?_
   exact w
  ·have g2 : aS Tryd.prog .neq 3 false (I6 (l.getD (kb + i) 0)) (I6 (l.getD (kb + (i - 1)) 0)) = some (.bool true) := sP hne
   obtain ⟨i', w⟩ := qX hn kb h0 hb d (i + 1) (kk + 1) f (l.set kk (l.getD (kb + i) 0)) (by omega) (by omega) (by omega) (by omega) (by simp [hl]) (by omega)
   refine ⟨i', ?_⟩
   rw [aU, aC.l9, uD, if_neg hne]
   refine fM ?_
   refine eC hc ?_
   clear hne
   generalize uD kb d (i + 1) (kk + 1) (l.set kk (l.getD (kb + i) 0)) = r at *
   generalize l.set kk (l.getD (kb + i) 0) = ls at *
   generalize l.getD (kb + i) 0 = y1 at *
   generalize l.getD (kb + (i - 1)) 0 = y2 at *
   have fx := aKE ln <| aKE g1 <| aKE d1 <| aKE e1 <| aKE e2 <| aKE e3 <| aKE d2 <| aKE d3 <| aKE l1 <| aKE l2 <| aKE g2 <| s1
   refine fV ?_
   exact w
include hS in
theorem kV (i : Nat) : aV H.length [dS p n, .nils, Nn i] = true := by
 have h1 : decide (p < H.length) = true := decide_eq_true hS.hp
 simp only [dS, aV, aP, h1, Bool.and_self]
include hS in
theorem qW {l : List Int} (hl : l.length = n) {kk : Nat} (h : kk ≤ n) : oM (.int .i64 0) (.sl p n kk (n - kk) 1) (TO H p l) = some (.tup [], TO H p (l.take kk ++ List.replicate (n - kk) 0)) := by
 unfold oM
 simp only [TO_p hS.hp l, intsI_len, hl]
 rw [if_pos ⟨trivial, trivial, by omega⟩]
 have e1 : (intsI l).take kk ++ (List.replicate (n - kk) (AV.int .i64 0) ++ (intsI l).drop (kk + (List.replicate (n - kk) (AV.int .i64 0)).length)) = intsI (l.take kk ++ List.replicate (n - kk) 0) := by
  rw [List.length_replicate, List.drop_of_length_le (by rw [intsI_len]; omega), List.append_nil]
  unfold intsI
  rw [List.map_append, List.map_take, List.map_replicate]
 rw [e1, TO_set]
include hS in
theorem wE (hn : n ≤ 1000) (hk : n < k) : ∀ (d i f : Nat) (l : List Int), i + d = n → 1 ≤ i → l.length = n → d < f →
  (l4F n d i l = none ∧ cM (aC.l4 G k H.length self) f [dS p n, .nils, Nn i] (TO H p l) = some (.exit 0, [dS p n, .nils, Nn n], TO H p l))
  ∨ ∃ (z : AV) (m : Nat) (l' : List Int), l4F n d i l = some (m, l') ∧ cM (aC.l4 G k H.length self) f [dS p n, .nils, Nn i] (TO H p l) = some (.ret, [dS p n, .sl p n 0 m 1, z], TO H p l') ∧ m ≤ n ∧ l'.length = n
 | d, i, 0, l, _, _, _, h => by omega
 | 0, i, f + 1, l, hd, h1, hl, hf => by
  have hi : i = n := by omega
  subst hi
  have hc : eZ H.length [dS p i, .nils, Nn i] (TO H p l) = some (TO H p l) := TO_cut hS.hb l _ (kV hS i)
  have ln : aY (dS p i) = some (Nn i) := rfl
  have g1 : aS Tryd.prog .lss 3 false (Nn i) (Nn i) = some (.bool false) := fK (by omega)
  refine .inl ⟨rfl, ?_⟩
  rw [aU, aC.l4]
  refine fM ?_
  refine eC hc ?_
  have fx := aKE ln <| g1
  refine fV ?_
  refine gM ?_; rfl
 | d + 1, i, f + 1, l, hd, h1, hl, hf => by
  have hlen := mY H p l
  have hc : eZ H.length [dS p n, .nils, Nn i] (TO H p l) = some (TO H p l) := TO_cut hS.hb l _ (kV hS i)
  have ln : aY (dS p n) = some (Nn n) := rfl
  have g1 : aS Tryd.prog .lss 3 false (Nn i) (Nn n) = some (.bool true) := fO (by omega)
  have d1 : aH 1 (dS p n) (Nn i) = some (.ptr p n i 0) := jV (by omega)
  have e1 : aS Tryd.prog .sub 3 true (Nn i) (.int .i64 1) = some (Nn (i - 1 : Nat)) := aDX (b := 1) (by omega) (by omega)
  have e2 : aS Tryd.prog .add 3 true (Nn i) (.int .i64 1) = some (Nn (i + 1 : Nat)) := jY (by omega)
  have d2 : aH 1 (dS p n) (Nn (i - 1 : Nat)) = some (.ptr p n (i - 1) 0) := jV (by omega)
  have l1 := jJ G hS hl (i := i) (by omega)
  have l2 := jJ G hS hl (i := i - 1) (by omega)
  by_cases hne : l.getD i 0 = l.getD (i - 1) 0
  ·have g2 : aS Tryd.prog .eql 3 false (I6 (l.getD i 0)) (I6 (l.getD (i - 1) 0)) = some (.bool true) := gP hne
   obtain ⟨i', w⟩ := qX G k self hS hn i h1 (by omega) (n - i - 1) 1 i k l (by omega) (by omega) (by omega) (by omega) hl (by omega)
   have r1 := vC i (n - i - 1) 1 i l
   have r4 := (aAD i (n - i - 1) 1 i l).2
   have h4 : l4F n (d + 1) i l = some ((uD i (n - i - 1) 1 i l).1, (uD i (n - i - 1) 1 i l).2.take (uD i (n - i - 1) 1 i l).1 ++ List.replicate (n - (uD i (n - i - 1) 1 i l).1) 0) := by rw [l4F, if_pos hne]
   obtain ⟨kk', hkk⟩ : ∃ z, z = (uD i (n - i - 1) 1 i l).1 := ⟨_, rfl⟩
   obtain ⟨l', hl'⟩ : ∃ z, z = (uD i (n - i - 1) 1 i l).2 := ⟨_, rfl⟩
   rw [← hkk, ← hl'] at h4
   rw [← hkk] at r4
   rw [← hl'] at r1
   rw [← hkk, ← hl'] at w
   have w' : cM (aC.l9 G k (TO H p l).length self) k [dS p n, Nn i, .sl p n i (n - i) 1, .int .i64 1] (TO H p l) = some (.exit 2, [dS p n, Nn kk', .sl p n i (n - i) 1, Nn i'], TO H p l') := by
    rw [hlen]; exact w
   have s1 : gD 1 (dS p n) (some (Nn i)) none = some (.sl p n i (n - i) 1) := by
    simp only [gD, nD, nC, dS, Nat.zero_add]
    rw [if_pos (by refine ⟨?_, ?_, trivial⟩ <;> omega)]
   have s2 : gD 1 (dS p n) (some (Nn kk')) none = some (.sl p n kk' (n - kk') 1) := by
    simp only [gD, nD, nC, dS, Nat.zero_add]
    rw [if_pos (by refine ⟨?_, ?_, trivial⟩ <;> omega)]
   have s3 : gD 1 (dS p n) none (some (Nn kk')) = some (.sl p n 0 kk' 1) := by
    simp only [gD, nD, nC, dS, Nat.zero_add, Nat.sub_zero]
    rw [if_pos (by refine ⟨?_, ?_, trivial⟩ <;> omega)]
   have c1 := qW hS (r1.trans hl) (kk := kk') (by omega)
   refine .inr ⟨Nn kk', kk', l'.take kk' ++ List.replicate (n - kk') 0, h4, ?_, by omega, by simp [r1, hl]; omega⟩
   rw [aU, aC.l4]
   refine fM ?_
   refine eC hc ?_
   clear hne h4 hkk hl'
   generalize l.getD i 0 = y1 at *
   generalize l.getD (i - 1) 0 = y2 at *
   generalize l'.take kk' ++ List.replicate (n - kk') 0 = lz at *
   have fx := aKE ln <| aKE g1 <| aKE d1 <| aKE d2 <| aKE e1 <| aKE e2 <| aKE l1 <| aKE l2 <| aKE g2 <| aKE s1 <| aKE s2 <| aKE s3 <| c1
   have lx1 := w'
   refine fV ?_
   refine gM ?_; rfl
  ·have g2 : aS Tryd.prog .eql 3 false (I6 (l.getD i 0)) (I6 (l.getD (i - 1) 0)) = some (.bool false) := fY hne
   have ih := wE hn hk d (i + 1) f l (by omega) (by omega) hl (by omega)
   have st : cM (aC.l4 G k H.length self) (f + 1) [dS p n, .nils, Nn i] (TO H p l) = cM (aC.l4 G k H.length self) f [dS p n, .nils, Nn (i + 1 : Nat)] (TO H p l) := by
    generalize hgen : cM (aC.l4 G k H.length self) f [dS p n, .nils, Nn (i + 1 : Nat)] (TO H p l) = rr
    rw [aU, aC.l4]
    refine fM ?_
    refine eC hc ?_
    clear hne ih
    generalize l.getD i 0 = y1 at *
    generalize l.getD (i - 1) 0 = y2 at *
    have fx := aKE ln <| aKE g1 <| aKE d1 <| aKE d2 <| aKE e1 <| aKE e2 <| aKE l1 <| aKE l2 <| g2
    refine fV ?_
    exact hgen
   rw [st, l4F, if_neg hne]; exact ih
include hS in
theorem cpt_spec (hn : n ≤ 1000) (hk : n < k) (l : List Int) (hl : l.length = n) :
  cW (aC.f G (k + 1)) [dS p n] (TO H p l) = some (.sl p n 0 (cpF l).1 1, TO H p (cpF l).2) ∧ (cpF l).1 ≤ n ∧ (cpF l).2.length = n := by
 have hlen := mY H p l
 have ln : aY (dS p n) = some (Nn n) := rfl
 have hp : decide (p < H.length) = true := decide_eq_true hS.hp
 have fin : ∀ (m : Nat) (l' : List Int), cQ [.sl p n 0 m 1] H.length (TO H p l') = some (.ret, [.sl p n 0 m 1], TO H p l') := fun m l' => by
  unfold cQ
  rw [TO_cut hS.hb l' _ (by simp only [aV, aP, hp, Bool.and_self])]
  have e : nG (TO H p l') H.length 6 (jI [.sl p n 0 m 1]) = some (.sl p n 0 m 1) := by
   simp only [jI, nG, aP, hp]
  simp only [e]
 by_cases h2 : n < 2
 ·have g1 : aS Tryd.prog .lss 3 true (Nn n) (.int .i64 2) = some (.bool true) := fO (by omega)
  have e : cpF l = (n, l) := by unfold cpF; rw [if_pos (by omega), hl]
  rw [e]
  refine ⟨tD ?_, Nat.le_refl _, hl⟩
  have fin' := fin n l
  rw [aC.step]
  unfold aC.c
  rw [← hlen] at fin'
  refine iE ?_
  have fx := aKE ln <| g1
  refine fV ?_
  exact oF fin'
 ·have g1 : aS Tryd.prog .lss 3 true (Nn n) (.int .i64 2) = some (.bool false) := fK (by omega)
  rcases wE G k (aC.f G k) hS hn hk (n - 1) 1 k l (by omega) (by omega) hl (by omega) with ⟨e4, w⟩ | ⟨z, m, l', e4, w, r1, r2⟩
  ·have w' : cM (aC.l4 G k (TO H p l).length (aC.f G k)) k [dS p n, .nils, .int .i64 1] (TO H p l) = some (.exit 0, [dS p n, .nils, Nn n], TO H p l) := by
    rw [hlen]; exact w
   have e : cpF l = (n, l) := by unfold cpF; rw [if_neg (by omega), hl, e4]
   rw [e]
   refine ⟨tD ?_, Nat.le_refl _, hl⟩
   have fin' := fin n l
   rw [aC.step]
   unfold aC.c
   rw [← hlen] at fin'
   refine iE ?_
   have fx := aKE ln <| g1
   have lx1 := w'
   refine fV ?_
   exact oF fin'
  ·have w' : cM (aC.l4 G k (TO H p l).length (aC.f G k)) k [dS p n, .nils, .int .i64 1] (TO H p l) = some (.ret, [dS p n, .sl p n 0 m 1, z], TO H p l') := by
    rw [hlen]; exact w
   have e : cpF l = (m, l') := by unfold cpF; rw [if_neg (by omega), hl, e4]
   rw [e]
   refine ⟨tD ?_, r1, r2⟩
   have fin' := fin m l'
   rw [aC.step]
   unfold aC.c
   rw [← hlen] at fin'
   refine iE ?_
   have fx := aKE ln <| g1
   have lx1 := w'
   refine fV ?_
   exact oF fin'
end
theorem cpF_sorted (l : List Int) (h : l.length ≤ 3) (hs : l.Pairwise (· ≤ ·)) : ((cpF l).2.take (cpF l).1).Pairwise (· < ·) ∧ ∀ x, x ∈ (cpF l).2.take (cpF l).1 ↔ x ∈ l := by
 match l, h, hs with
 | [], _, _ => simp [cpF]
 | [a], _, _ => simp [cpF]
 | [a, b], _, hs =>
  simp only [List.pairwise_cons, List.mem_cons, List.not_mem_nil, or_false, forall_eq, false_implies, implies_true, and_true, List.Pairwise.nil] at hs
  simp only [cpF, List.length_cons, List.length_nil, Nat.zero_add, Nat.reduceAdd, Nat.reduceSub, Nat.reduceLT, if_false, l4F, uD, List.getD_cons_zero, List.getD_cons_succ]
  by_cases h1 : b = a
  ·subst h1
   simp
  ·rw [if_neg h1]
   refine ⟨?_, fun x => by simp⟩
   simp; omega
 | [a, b, c], _, hs =>
  simp only [List.pairwise_cons, List.mem_cons, List.not_mem_nil, or_false, forall_eq, false_implies, implies_true, and_true, List.Pairwise.nil, forall_eq_or_imp] at hs
  simp only [cpF, List.length_cons, List.length_nil, Nat.zero_add, Nat.reduceAdd, Nat.reduceSub, Nat.reduceLT, if_false, l4F, uD, List.getD_cons_zero, List.getD_cons_succ]
  by_cases h1 : b = a
  ·subst h1
   by_cases h2 : c = b
   ·subst h2; simp
   ·simp [h2]; omega
  ·by_cases h2 : c = b
   ·subst h2; simp [h1]; omega
   ·simp [h1, h2]; omega
end Go.Proofs.YtlkgkfgkiidhdaaDoor.Mir.I3
namespace Go.Proofs.YtlkgkfgkiidhdaaDoor.Mir
open Go
set_option linter.unusedSimpArgs false
set_option linter.unusedVariables false
set_option maxHeartbeats 8000000
set_option maxRecDepth 20000
structure LY where
 slot : List Nat
 word : List Nat
 M : Nat
def LY.sl (L : LY) (r : Int) : Nat := L.slot.getD r.toNat 0
def LY.wd (L : LY) (r : Int) : Nat := L.word.getD r.toNat 0
def LY.rdC (L : LY) (r into : Int) : List WI := if L.sl r = 0 then [⟨15, into, 0, 0, 0, L.wd r⟩] else []
def LY.rdR (L : LY) (r into : Int) : Int := if L.sl r = 0 then into else L.sl r
def LY.wrR (L : LY) (r : Int) : Int := if L.sl r = 0 then 1 else L.sl r
def LY.wrC (L : LY) (r : Int) : List WI := if L.sl r = 0 then [⟨16, 0, 0, 1, 0, L.wd r⟩] else []
def LY.adC (L : LY) (i : WI) : List WI := L.rdC i.a 1 ++ [⟨1, 2, 0, 0, 0, i.k⟩, ⟨3, 2, L.rdR i.a 1, 2, 0, 0⟩, ⟨1, 3, 0, 0, 0, (L.M : Int)⟩, ⟨13, 3, 2, 3, 0, 0⟩, ⟨18, 0, 3, 0, 0, -1⟩]
def LY.rC (L : LY) (f : Bool) (r into : Int) : List WI := if f = true then L.rdC r into else []
def LY.rR (L : LY) (f : Bool) (r into : Int) : Int := if f = true then L.rdR r into else r
def LY.rds (L : LY) (i : WI) : List WI := L.rC (eA i.op).a i.a 1 ++ (L.rC (eA i.op).b i.b 2 ++ L.rC (eA i.op).c i.c 3)
def LY.ins (L : LY) (i : WI) : WI := ⟨i.op, if (eA i.op).d = true then L.wrR i.d else i.d, L.rR (eA i.op).a i.a 1, L.rR (eA i.op).b i.b 2, L.rR (eA i.op).c i.c 3, i.k⟩
def LY.wrs (L : LY) (i : WI) : List WI := if (eA i.op).d = true then L.wrC i.d else []
def LY.one (L : LY) (i : WI) : List WI :=
 if i.op = 15 then L.adC i ++ ([⟨15, L.wrR i.d, 2, 0, 0, 0⟩] ++ L.wrC i.d)
 else if i.op = 16 then L.adC i ++ (L.rdC i.b 1 ++ [⟨16, 0, 2, L.rdR i.b 1, 0, 0⟩])
 else L.rds i ++ ([L.ins i] ++ L.wrs i)
def LY.flat (L : LY) : List WI → List WI
 | [] => []
 | w :: ws => L.one w ++ L.flat ws
def LY.at_ (L : LY) (ws : List WI) (j : Nat) : Nat := (L.flat (ws.take j)).length
def LY.pos (L : LY) (b : Nat) : List WI → List Nat
 | [] => []
 | w :: ws => b :: L.pos (b + (L.one w).length) ws
def LY.place (L : LY) (ws : List WI) : List Nat := L.pos 0 ws ++ [(L.flat ws).length]
def aID (P : List Nat) (n : Nat) (i : WI) : WI := if i.op = 17 ∨ i.op = 18 ∨ i.op = 19 then (if i.k = -1 then { i with k := n } else { i with k := (P.getD i.k.toNat 0 : Nat) }) else i
def LY.out (L : LY) (ws : List WI) : List WI := (L.flat ws).map (aID (L.place ws) (L.flat ws).length)
structure AX where
 bor : Bool
 ws : List WI
 R : Nat
 L : LY
 us : List Int
 o : List Nat
structure LS where
 out : List WI
 place : List Nat
def LS.put (s : LS) (l : List WI) : LS := { s with out := s.out ++ l }
def AX.cv (A : AX) : AV := cV A.bor A.ws A.R A.L.M
def AX.box (A : AX) (s : LS) : AV := .agg [.ro A.bor (bW A.ws), Nn A.R, Nn A.L.M, .sl 6 A.R 0 A.R 1, .sl 7 A.R 0 A.R 1, .sl 8 s.out.length 0 s.out.length 6, .sl 9 s.place.length 0 s.place.length 1]
def AX.hp (A : AX) (s : LS) (T : aA) : aA :=
 ⟨27, 3, [A.cv]⟩ :: ⟨27, 3, [.agg [.nils, .int .i64 0, .int .i64 0]]⟩ :: ⟨86, 7, [A.box s]⟩ :: ⟨3, 1, A.us.map fun u => I6 u⟩ :: ⟨49, 1, [.sl 3 A.R 0 A.R 1]⟩ :: ⟨3, 1, cC A.o⟩ :: ⟨3, 1, cC A.L.slot⟩ :: ⟨3, 1, cC A.L.word⟩ :: ⟨29, 6, bW s.out⟩ :: ⟨3, 1, cC s.place⟩ :: T
structure AX.W (A : AX) : Prop where
 sl : A.L.slot.length = A.R
 wd : A.L.word.length = A.R
abbrev BX : AV := .ptr 2 1 0 0
theorem intsI_below (n : Nat) (l : List Int) : aV n (l.map fun u => I6 u) = true := hZ n _ (fun _ => rfl) l
section
variable (A : AX) (s : LS) (T : aA)
variable (G : aE) (k : Nat)
end
theorem fR (l : List Nat) (i j x : Nat) (hi : i < l.length) : (l.set i x).getD j 0 = if i = j then x else l.getD j 0 := by
 rw [List.getD_eq_getElem?_getD, List.getD_eq_getElem?_getD, List.getElem?_set]
 by_cases h : i = j
 ·rw [if_pos h, if_pos h, if_pos hi]; rfl
 ·rw [if_neg h, if_neg h]
section
variable {r : List Nat} {p : Nat} {cd : Int} {mem : List Nat} {lk : List (Int × Int)} {st : Nat} {d a b c k op : Int} {y : Nat}
abbrev xH (r : List Nat) (a : Int) : Nat := r.getD a.toNat 0
theorem xR (ho : 1 ≤ op ∧ op ≤ 14) (hv : (kA op k (xH r a) (xH r b) (xH r c)).2 = true) : MS.step (MS.tick ⟨r, p, cd, mem, lk, st⟩) ⟨op, d, a, b, c, k⟩ = (⟨r.set d.toNat (kA op k (xH r a) (xH r b) (xH r c)).1, p + 1, cd, mem, lk ++ [(1, (p : Int))], st + 1⟩, true) := by
 unfold MS.step
 simp only
 rw [if_neg (by omega), if_neg (by omega), if_neg (by omega)]
 exact if_pos hv
theorem aGC (ho : op = 15 ∨ op = 16) (hy : (xH r a + u64 k) % 18446744073709551616 = y) (hm : mem.length ≤ y) : MS.step (MS.tick ⟨r, p, cd, mem, lk, st⟩) ⟨op, d, a, b, c, k⟩ = (⟨r, p + 1, 3, mem, lk ++ [(1, (p : Int))] ++ [(3, mB y)], st + 1⟩, false) := by
 subst hy
 unfold MS.step
 simp only
 rw [if_pos ho]
 unfold MS.touch
 exact if_pos hm
theorem aIq (hy : (xH r a + u64 k) % 18446744073709551616 = y) (hm : y < mem.length) : MS.step (MS.tick ⟨r, p, cd, mem, lk, st⟩) ⟨15, d, a, b, c, k⟩ = (⟨r.set d.toNat (mem.getD y 0), p + 1, cd, mem, lk ++ [(1, (p : Int))] ++ [(3, mB y)], st + 1⟩, true) := by
 subst hy
 unfold MS.step
 simp only
 rw [if_pos (by decide)]
 unfold MS.touch
 exact (if_neg (Nat.not_le.2 hm)).trans (if_pos rfl)
theorem aIr (hy : (xH r a + u64 k) % 18446744073709551616 = y) (hm : y < mem.length) : MS.step (MS.tick ⟨r, p, cd, mem, lk, st⟩) ⟨16, d, a, b, c, k⟩ = (⟨r, p + 1, cd, mem.set y (xH r b), lk ++ [(1, (p : Int))] ++ [(3, mB y)], st + 1⟩, true) := by
 subst hy
 unfold MS.step
 simp only
 rw [if_pos (by decide)]
 unfold MS.touch
 exact (if_neg (Nat.not_le.2 hm)).trans (if_neg (show ¬ (16 : Int) = 15 by decide))
theorem aIo : MS.step (MS.tick ⟨r, p, cd, mem, lk, st⟩) ⟨17, d, a, b, c, k⟩ = (⟨r, k.toNat, cd, mem, lk ++ [(1, (p : Int))], st + 1⟩, true) := by
 unfold MS.step
 simp only
 rw [if_neg (by decide), if_pos (by decide)]
 unfold MS.branch
 rw [if_pos rfl]; rfl
theorem aIp (ho : op = 18 ∨ op = 19) (g : Bool) (hg : (decide (xH r a = 0) == decide (op = 18)) = g) : MS.step (MS.tick ⟨r, p, cd, mem, lk, st⟩) ⟨op, d, a, b, c, k⟩ = (⟨r, if g = true then k.toNat else p + 1, cd, mem, lk ++ [(1, (p : Int))] ++ [(2, if g = true then 1 else 0)], st + 1⟩, true) := by
 unfold MS.step
 simp only
 rw [if_neg (by omega), if_pos (by omega)]
 unfold MS.branch
 have e : (decide (MS.rg { (MS.tick ⟨r, p, cd, mem, lk, st⟩) with at_ := (MS.tick ⟨r, p, cd, mem, lk, st⟩).at_ + 1 } a = 0) == decide (op = 18)) = g := hg
 simp only [e]
 rw [if_neg (by omega)]
 cases g
 ·rfl
 ·rfl
theorem aGD : MS.step (MS.tick ⟨r, p, cd, mem, lk, st⟩) ⟨20, d, a, b, c, k⟩ = (⟨r, p + 1, k, mem, lk ++ [(1, (p : Int))], st + 1⟩, false) := by
 unfold MS.step
 simp only
 rw [if_neg (by decide), if_neg (by decide)]; exact if_pos trivial
end
def At (cs : List WI) (p : Nat) (i : WI) : Prop := cs[p]? = some i
def aBe (cs : List WI) (fuel : Int) (q : MS) (m : Nat) (q2 : MS) : Prop := ∀ f, iX cs fuel (f + m) q = iX cs fuel f q2
def aJp (cs : List WI) (fuel : Int) (q : MS) (m : Nat) (q2 : MS) : Prop := ∀ f, iX cs fuel (f + m) q = some q2
section
variable {cs : List WI} {fuel : Int} {r : List Nat} {p : Nat} {cd : Int} {mem : List Nat} {lk : List (Int × Int)} {st : Nat} {d a b c k op : Int} {y : Nat} {q q2 q3 : MS} {m n : Nat}
theorem aBe.refl : aBe cs fuel q 0 q := fun f => rfl
theorem aBe.trans (h : aBe cs fuel q m q2) (h2 : aBe cs fuel q2 n q3) : aBe cs fuel q (m + n) q3 := fun f => by
 rw [show f + (m + n) = f + n + m by omega, h, h2]
theorem aBe.ends (h : aBe cs fuel q m q2) (h2 : aJp cs fuel q2 n q3) : aJp cs fuel q (m + n) q3 := fun f => by
 rw [show f + (m + n) = f + n + m by omega, h, h2]
theorem At.lt {i : WI} (h : At cs p i) : p < cs.length ∧ cs.getD p default = i := by
 unfold At at h
 refine ⟨(List.getElem?_eq_some_iff.1 h).1, ?_⟩
 rw [List.getD_eq_getElem?_getD, h]; rfl
end
theorem aAW (k : Int) (x y z : Nat) : kA 1 k x y z = (u64 k, true) := by simp [kA]
theorem aFe {op : Int} (h : 1 ≤ op ∧ op ≤ 14) (k : Int) {a b c a2 b2 c2 : Nat} (ha : (eA op).a = true → a2 = a) (hb : (eA op).b = true → b2 = b) (hc : (eA op).c = true → c2 = c) : kA op k a2 b2 c2 = kA op k a b c := by
 have : op = 1 ∨ op = 2 ∨ op = 3 ∨ op = 4 ∨ op = 5 ∨ op = 6 ∨ op = 7 ∨ op = 8 ∨ op = 9 ∨ op = 10 ∨ op = 11 ∨ op = 12 ∨ op = 13 ∨ op = 14 := by omega
 rcases this with rfl | rfl | rfl | rfl | rfl | rfl | rfl | rfl | rfl | rfl | rfl | rfl | rfl | rfl <;> simp [eA, gH] at ha hb hc <;> simp [kA, iY, ha, hb, hc]
structure LY.Ok (L : LY) (R S N : Nat) : Prop where
 s6 : 6 ≤ S
 n : N ≤ 65536
 mn : L.M ≤ N
 sl : ∀ r, r < R → L.slot.getD r 0 ≠ 0 → 4 ≤ L.slot.getD r 0 ∧ L.slot.getD r 0 < S
 wd : ∀ r, r < R → L.slot.getD r 0 = 0 → L.M ≤ L.word.getD r 0 ∧ L.word.getD r 0 < N
 slI : ∀ r t, r < R → t < R → r ≠ t → L.slot.getD r 0 ≠ 0 → L.slot.getD t 0 ≠ L.slot.getD r 0
 wdI : ∀ r t, r < R → t < R → r ≠ t → L.slot.getD r 0 = 0 → L.slot.getD t 0 = 0 → L.word.getD t 0 ≠ L.word.getD r 0
structure RelA (L : LY) (R S N : Nat) (sr sm qr qm : List Nat) : Prop where
 sl : sr.length = R
 ql : qr.length = S
 z : qr.getD 0 0 = 0
 sml : sm.length = L.M
 qml : qm.length = N
 rs : ∀ r, r < R → L.slot.getD r 0 ≠ 0 → qr.getD (L.slot.getD r 0) 0 = sr.getD r 0
 rm : ∀ r, r < R → L.slot.getD r 0 = 0 → qm.getD (L.word.getD r 0) 0 = sr.getD r 0
 mem : ∀ j, j < L.M → qm.getD j 0 = sm.getD j 0
section
variable {L : LY} {R S N : Nat} {sr sm qr qm qr2 : List Nat}
theorem RelA.scr (hL : L.Ok R S N) (h : RelA L R S N sr sm qr qm) (hl : qr2.length = S) (he : ∀ j, j = 0 ∨ 4 ≤ j → qr2.getD j 0 = qr.getD j 0) : RelA L R S N sr sm qr2 qm :=
 ⟨h.sl, hl, by rw [he 0 (.inl rfl)]; exact h.z, h.sml, h.qml, fun r hr h0 => by rw [he _ (.inr (hL.sl r hr h0).1)]; exact h.rs r hr h0, h.rm, h.mem⟩
theorem RelA.set (hL : L.Ok R S N) (h : RelA L R S N sr sm qr qm) {t x : Nat} (ht : 1 ≤ t ∧ t ≤ 3) : RelA L R S N sr sm (qr.set t x) qm := by
 have := hL.s6
 refine h.scr hL (by rw [List.length_set]; exact h.ql) (fun j hj => ?_)
 rw [fR _ _ _ _ (by rw [h.ql]; omega), if_neg (by omega)]
theorem RelA.slot (hL : L.Ok R S N) (h : RelA L R S N sr sm qr qm) {d : Int} (hd : 0 ≤ d ∧ d < R) (h0 : L.sl d ≠ 0) (x : Nat) : RelA L R S N (sr.set d.toNat x) sm (qr.set (L.sl d) x) qm := by
 have hb := hL.sl d.toNat (by omega) h0
 have hlt : L.sl d < qr.length := by rw [h.ql]; exact hb.2
 refine ⟨by rw [List.length_set]; exact h.sl, by rw [List.length_set]; exact h.ql, ?_, h.sml, h.qml, fun r hr hr0 => ?_, fun r hr hr0 => ?_, h.mem⟩
 ·have hb4 : 4 ≤ L.sl d := hb.1
  rw [fR _ _ _ _ hlt, if_neg (by omega)]; exact h.z
 ·rw [fR _ _ _ _ hlt, fR _ _ _ _ (by rw [h.sl]; omega)]
  by_cases e : d.toNat = r
  ·subst e; rw [if_pos (show L.sl d = L.slot.getD d.toNat 0 from rfl), if_pos rfl]
  ·have hne : ¬ L.sl d = L.slot.getD r 0 := hL.slI r d.toNat hr (by omega) (by omega) hr0
   rw [if_neg hne, if_neg e]; exact h.rs r hr hr0
 ·have e : ¬ d.toNat = r := fun e => h0 (by unfold LY.sl; rw [e]; exact hr0)
  rw [fR _ _ _ _ (by rw [h.sl]; omega), if_neg e]; exact h.rm r hr hr0
theorem RelA.word (hL : L.Ok R S N) (h : RelA L R S N sr sm qr qm) {d : Int} (hd : 0 ≤ d ∧ d < R) (h0 : L.sl d = 0) (x : Nat) : RelA L R S N (sr.set d.toNat x) sm qr (qm.set (L.wd d) x) := by
 have hb := hL.wd d.toNat (by omega) h0
 have hlt : L.wd d < qm.length := by rw [h.qml]; exact hb.2
 refine ⟨by rw [List.length_set]; exact h.sl, h.ql, h.z, h.sml, by rw [List.length_set]; exact h.qml, fun r hr hr0 => ?_, fun r hr hr0 => ?_, fun j hj => ?_⟩
 ·have e : ¬ d.toNat = r := fun e => hr0 (by rw [← e]; exact h0)
  rw [fR _ _ _ _ (by rw [h.sl]; omega), if_neg e]; exact h.rs r hr hr0
 ·rw [fR _ _ _ _ hlt, fR _ _ _ _ (by rw [h.sl]; omega)]
  by_cases e : d.toNat = r
  ·subst e; rw [if_pos (show L.wd d = L.word.getD d.toNat 0 from rfl), if_pos rfl]
  ·have hne : ¬ L.wd d = L.word.getD r 0 := hL.wdI r d.toNat hr (by omega) (by omega) hr0 h0
   rw [if_neg hne, if_neg e]; exact h.rm r hr hr0
 ·have hb1 : L.M ≤ L.wd d := hb.1
  rw [fR _ _ _ _ hlt, if_neg (by omega)]; exact h.mem j hj
theorem RelA.store (hL : L.Ok R S N) (h : RelA L R S N sr sm qr qm) {y x : Nat} (hy : y < L.M) : RelA L R S N sr (sm.set y x) qr (qm.set y x) := by
 have hn := hL.mn
 refine ⟨h.sl, h.ql, h.z, by rw [List.length_set]; exact h.sml, by rw [List.length_set]; exact h.qml, h.rs, fun r hr hr0 => ?_, fun j hj => ?_⟩
 ·have hb := hL.wd r hr hr0
  rw [fR _ _ _ _ (by rw [h.qml]; omega), if_neg (by omega)]; exact h.rm r hr hr0
 ·rw [fR _ _ _ _ (by rw [h.qml]; omega), fR _ _ _ _ (by rw [h.sml]; omega), h.mem j hj]
end
def AtC (cs : List WI) (P : List Nat) (p : Nat) (C : List WI) : Prop := ∀ t i, C[t]? = some i → At cs (p + t) (aID P cs.length i)
theorem AtC.left {cs : List WI} {P : List Nat} {p : Nat} {A B : List WI} (h : AtC cs P p (A ++ B)) : AtC cs P p A := fun t i ht => h t i (by
 rw [List.getElem?_append_left (List.getElem?_eq_some_iff.1 ht).1]; exact ht)
theorem AtC.right {cs : List WI} {P : List Nat} {p : Nat} {A B : List WI} (h : AtC cs P p (A ++ B)) : AtC cs P (p + A.length) B := fun t i ht => by
 have := h (A.length + t) i (by rw [List.getElem?_append_right (by omega), show A.length + t - A.length = t by omega]; exact ht)
 rw [show p + A.length + t = p + (A.length + t) by omega]; exact this
theorem AtC.get {cs : List WI} {P : List Nat} {p : Nat} {C : List WI} (h : AtC cs P p C) (t : Nat) {i : WI} (ht : C[t]? = some i) (hb : ¬ (i.op = 17 ∨ i.op = 18 ∨ i.op = 19)) : At cs (p + t) i := by
 have := h t i ht
 unfold aID at this
 rwa [if_neg hb] at this
theorem AtC.head {cs : List WI} {P : List Nat} {p : Nat} {i : WI} {C : List WI} (h : AtC cs P p (i :: C)) (hb : ¬ (i.op = 17 ∨ i.op = 18 ∨ i.op = 19)) : At cs p i := h.get 0 rfl hb
section
variable {L : LY} {R S N : Nat} {sr sm qr qm : List Nat} {cs : List WI} {P : List Nat} {fuel : Int} {p : Nat} {cd : Int} {lk : List (Int × Int)} {st : Nat}
end
structure WI.Good (i : WI) (R n : Nat) : Prop where
 ok2 : i.Ok2 R n
 mem : i.op = 15 ∨ i.op = 16 → 0 ≤ i.k ∧ i.k ≤ 65535
 halt : i.op = 20 → 0 ≤ i.k ∧ i.k ≤ 2
theorem zR {i : WI} {R n : Int} (h : gC i R n = none) (hR : 0 ≤ R) : i.Good R.toNat n.toNat := by
 refine ⟨aFY h hR, fun ho => ?_, fun ho => ?_⟩
 ·unfold gC at h
  by_cases h0 : (gH i.op).isSome = false
  ·rw [if_pos h0] at h; cases h
  rw [if_neg h0] at h
  by_cases h1 : qI (eA i.op) i R = true
  ·rw [if_pos h1] at h; cases h
  rw [if_neg h1] at h
  by_cases h2 : qH (eA i.op) i = true
  ·rw [if_pos h2] at h; cases h
  rw [if_neg h2, if_neg (by omega), if_neg (by omega), if_pos ho] at h
  by_cases h3 : i.k < 0 ∨ 65535 < i.k
  ·rw [if_pos h3] at h; cases h
  ·omega
 ·unfold gC at h
  by_cases h0 : (gH i.op).isSome = false
  ·rw [if_pos h0] at h; cases h
  rw [if_neg h0] at h
  by_cases h1 : qI (eA i.op) i R = true
  ·rw [if_pos h1] at h; cases h
  rw [if_neg h1] at h
  by_cases h2 : qH (eA i.op) i = true
  ·rw [if_pos h2] at h; cases h
  rw [if_neg h2, if_neg (by omega), if_pos ho] at h
  by_cases h3 : i.k < 0 ∨ 2 < i.k
  ·rw [if_pos h3] at h; cases h
  ·omega
theorem yS {R n : Int} (hR : 0 ≤ R) : ∀ {l : List WI} {j : Nat}, oH R n l j = .ok → ∀ i ∈ l, i.Good R.toNat n.toNat
 | [], _, _, i, hi => by cases hi
 | x :: l, j, h, i, hi => by
  unfold oH at h
  split at h
  ·cases h
  ·rename_i ho
   rcases List.mem_cons.1 hi with rfl | hi
   ·exact zR ho hR
   ·exact yS hR h i hi
theorem pJ {cs : List WI} {R M : Int} (h : gF cs R M = .ok) : ∀ i ∈ cs, i.Good R.toNat cs.length := by
 have hb := (qB h).1
 unfold gF at h
 rw [if_neg (by omega), if_neg (by omega)] at h
 have := yS hb.1 h
 simpa using this
theorem aHi {op : Int} (h : 1 ≤ op ∧ op ≤ 20) : ((eA op).a = true → op ≠ 17 ∧ op ≠ 20) ∧ ((eA op).b = true → op ≤ 16) ∧ ((eA op).c = true → op ≤ 16) := by
 rcases aHB h with rfl | rfl | rfl | rfl | rfl | rfl | rfl | rfl | rfl | rfl | rfl | rfl | rfl | rfl | rfl | rfl | rfl | rfl | rfl | rfl <;> simp [eA, gH]
theorem aAx {i : WI} {R n : Nat} (h : i.Good R n) : ((eA i.op).a = true → 0 ≤ i.a ∧ i.a < R) ∧ ((eA i.op).b = true → 0 ≤ i.b ∧ i.b < R) ∧ ((eA i.op).c = true → 0 ≤ i.c ∧ i.c < R) := by
 obtain ⟨h1, h2, h3⟩ := aHi h.ok2.ok.op
 exact ⟨fun f => h.ok2.ok.a (h1 f).1 (h1 f).2, fun f => h.ok2.ok.b (h2 f), fun f => h.ok2.ok.c (h3 f)⟩
section
variable {L : LY} {R S N : Nat} {sr sm qr qm : List Nat} {ws : List WI} {fuel : Int} {sa : Nat} {sc cd : Int} {slk lk : List (Int × Int)} {sst st : Nat} {i : WI}
end
section
variable (A : AX) (s : LS) (G : aE) (k : Nat)
end
def H0R (w : WI) (f : Frm) : aA := [⟨100, 6, [fX (dA w.op) f]⟩, ⟨3, 1, []⟩]
theorem aHI (w : WI) (f : Frm) : SB (H0R w f) 1 := ⟨by show 1 < 2; decide, by simp [H0R, cF, aV, aP, fX]⟩
def flR (f : Frm) : AV := .ro false [.bool f.a, .bool f.b, .bool f.c]
def rI (w : WI) (f : Frm) (n j : Nat) : List AV := [.rp false w.v 0, .sl 1 n 0 n 1, flR f, .int .i64 3, Nn j]
def rgR (w : WI) (j : Nat) : Int := if j = 0 then w.a else if j = 1 then w.b else w.c
def fgR (f : Frm) (j : Nat) : Bool := if j = 0 then f.a else if j = 1 then f.b else f.c
section
variable (G : aE) (k : Nat) (self : cU) (w : WI) (f : Frm)
theorem yF (n j : Nat) : aV 2 (rI w f n j) = true := by simp [rI, flR, aV, aP, WI.v]
theorem uH (l : List Nat) : gW (cC l) = true := jM _ (fun _ => rfl) l
theorem aFW (l : List Nat) : iN 1 (cC l) = true := kL 1 _ (fun _ => rfl) l
theorem aBk (op d a b c kk : Int) (H : aA) : cX.f G (k + 6) [WI.v ⟨op, d, a, b, c, kk⟩] [] = some (.tup [I6 (if (eA op).d = true then d else 0), .bool (eA op).d], []) := by
 rw [cX.step]
 unfold cX.c
 have r0 : ∀ H, aX (dF.f G (k + 5)) [I6 op] H = _ := fun H => cT (H := H) (tS G (k + 1) op) rfl rfl
 have b0 := aGH (⟨op, d, a, b, c, kk⟩ : WI)
 have f0 := gi0 (⟨op, d, a, b, c, kk⟩ : WI)
 have f1 := gi1 (⟨op, d, a, b, c, kk⟩ : WI)
 have v0 := aCx G (⟨op, d, a, b, c, kk⟩ : WI)
 have v1 := aGI G (⟨op, d, a, b, c, kk⟩ : WI)
 have b1 : eM 100 (.agg [(.str ⟨#[]⟩), (.bool false), (.bool false), (.bool false), (.bool false), (.bool false)]) [] = some (.ptr 0 1 0 0, [⟨100, 6, [(.agg [(.str ⟨#[]⟩), (.bool false), (.bool false), (.bool false), (.bool false), (.bool false)])]⟩]) := rfl
 obtain ⟨F, hF⟩ : ∃ F, eA op = F := ⟨_, rfl⟩
 rw [hF] at r0 ⊢
 have st : fP (aO 6 (.ptr 0 1 0 0) (fX (dA op) F) [⟨100, 6, [(.agg [(.str ⟨#[]⟩), (.bool false), (.bool false), (.bool false), (.bool false), (.bool false)])]⟩]) = some (.tup [], [⟨100, 6, [fX (dA op) F]⟩]) := rfl
 have ff : aB 1 (.ptr 0 1 0 0) = some (.ptr 0 1 0 1) := rfl
 have vf : aI G false 1 (.ptr 0 1 0 1) [⟨100, 6, [fX (dA op) F]⟩] = some (.bool F.d) := rfl
 have fin : ∀ (x : Int) (b : Bool), cQ [I6 x, .bool b] 0 [⟨100, 6, [fX (dA op) F]⟩] = some (.ret, [.tup [I6 x, .bool b]], []) := fun x b => rfl
 have fin1 := fin d true
 have fin2 := fin 0 false
 cases hd : F.d with
 | true =>
  rw [hd] at vf
  rw [if_pos rfl]
  generalize WI.v ⟨op, d, a, b, c, kk⟩ = wv at *
  generalize fX (dA op) F = fv at *
  refine iE ?_
  have fx := aKE r0 <| aKE b0 <| aKE f0 <| aKE f1 <| aKE v0 <| aKE v1 <| aKE b1 <| aKE st <| aKE ff <| vf
  refine fV ?_
  exact oF fin1
 | false =>
  rw [hd] at vf
  rw [if_neg (by decide)]
  generalize WI.v ⟨op, d, a, b, c, kk⟩ = wv at *
  generalize fX (dA op) F = fv at *
  refine iE ?_
  have fx := aKE r0 <| aKE b0 <| aKE f0 <| aKE f1 <| aKE v0 <| aKE v1 <| aKE b1 <| aKE st <| aKE ff <| vf
  refine fV ?_
  exact oF fin2
end
end Go.Proofs.YtlkgkfgkiidhdaaDoor.Mir
