/- Part 7 of the proof: what these functions do. -/
import Derived.Test.YtlkgkfgkiidhdaaDoorVn6
import Derived.Test.YtlkgkfgkiidhdaaDoorRows
import Derived.KernelRfl
import Derived.SizedLaws
namespace Go.Proofs.YtlkgkfgkiidhdaaDoor
open Go Go.ChangeShapes Go.WideShapes Go.RowKit Mir
set_option linter.unusedVariables false
set_option linter.unusedSimpArgs false
namespace Rk
theorem own : ownKnob Tryd.prog.godebug = none := by kernel_rfl
theorem laidOut : laidOutB Tryd.prog = true := by kernel_rfl
theorem aJU : "*" ++ "errors.errorString" = "*errors.errorString" := by decide
theorem row (u : TypeId) (h : Tryd.prog.typeName? 3 u = some "*errors.errorString") : u = 179 :=
 typeName_ptr_named (nm := "errors.errorString") (by rw [aJU]; kernel_rfl) (by kernel_rfl) (by decide) u (by rw [aJU]; exact h)
noncomputable def low : Nat := (World.holding Tryd.prog default ⟨#[], #[], []⟩).heap.size
end Rk
end Go.Proofs.YtlkgkfgkiidhdaaDoor
namespace Go.Proofs.YtlkgkfgkiidhdaaDoor.Mir
open Go
set_option linter.unusedSimpArgs false
set_option linter.unusedVariables false
set_option maxHeartbeats 8000000
set_option maxRecDepth 20000
abbrev I6 (n : Int) : AV := .int .i64 n
abbrev Nn (n : Nat) : AV := .int .i64 (n : Int)
abbrev Un (n : Nat) : AV := .int .u64 (n : Int)
theorem lD (a : Nat) (h : a < 18446744073709551616) : (BitVec.ofInt 64 (a : Int)).toNat = a := by
 rw [BitVec.toNat_ofInt]
 omega
theorem aEF (a b : Nat) (ha : a < 18446744073709551616) (hb : b < 18446744073709551616) : bits .and .u64 (a : Int) (b : Int) = ((a &&& b : Nat) : Int) := by
 have hx : a &&& b ≤ a := Nat.and_le_left
 show IntKind.u64.wrap ((BitVec.ofInt 64 (a : Int) &&& BitVec.ofInt 64 (b : Int)).toNat : Int) = _
 rw [BitVec.toNat_and, lD a ha, lD b hb, iL (by omega) (by omega)]
theorem aJo (a b : Nat) (ha : a < 18446744073709551616) (hb : b < 18446744073709551616) : bits .or .u64 (a : Int) (b : Int) = ((a ||| b : Nat) : Int) := by
 have hx : a ||| b < 2 ^ 64 := Nat.or_lt_two_pow (by omega) (by omega)
 show IntKind.u64.wrap ((BitVec.ofInt 64 (a : Int) ||| BitVec.ofInt 64 (b : Int)).toNat : Int) = _
 rw [BitVec.toNat_or, lD a ha, lD b hb, iL (by omega) (by omega)]
theorem aHY (a b : Nat) (ha : a < 18446744073709551616) (hb : b < 18446744073709551616) : bits .xor .u64 (a : Int) (b : Int) = ((a ^^^ b : Nat) : Int) := by
 have hx : a ^^^ b < 2 ^ 64 := Nat.xor_lt_two_pow (by omega) (by omega)
 show IntKind.u64.wrap ((BitVec.ofInt 64 (a : Int) ^^^ BitVec.ofInt 64 (b : Int)).toNat : Int) = _
 rw [BitVec.toNat_xor, lD a ha, lD b hb, iL (by omega) (by omega)]
theorem oQ (n : Nat) : IntKind.u64.wrap (n : Int) = ((n % 18446744073709551616 : Nat) : Int) := by rw [qD]; rfl
theorem aBi (P : Program) (t : Nat) (c : Bool) (a b : Nat) : bA P .add t c (Un a) (Un b) = some (Un ((a + b) % 18446744073709551616)) := by
 rw [iE, ← Int.natCast_add, oQ]
theorem aBj (P : Program) (t : Nat) (c : Bool) (a b : Nat) : bA P .mul t c (Un a) (Un b) = some (Un (a * b % 18446744073709551616)) := by
 rw [aHd, ← Int.natCast_mul, oQ]
theorem aHX (P : Program) (t : Nat) (c : Bool) (a b : Nat) (hb : b < 18446744073709551616) : bA P .sub t c (Un a) (Un b) = some (Un ((a + 18446744073709551616 - b) % 18446744073709551616)) := by
 rw [kT, qD]; congr 2; omega
theorem aEG (P : Program) (t : Nat) (c : Bool) (k : IntKind) (a n : Nat) (h : n ≤ 64) : bA P .shr t c (Un a) (.int k (n : Int)) = some (Un (a / 2 ^ n)) := by
 rw [aDY _ _ _ _ _ _ _ (Int.natCast_nonneg n)]
 have e : min ((n : Int)).toNat IntKind.u64.bits = n := by rw [Int.toNat_natCast]; exact Nat.min_eq_left h
 rw [e, aAK]
theorem aHW (P : Program) (t : Nat) (c : Bool) (k : IntKind) (a n : Nat) (h : n ≤ 64) : bA P .shl t c (Un a) (.int k (n : Int)) = some (Un (a * 2 ^ n % 18446744073709551616)) := by
 rw [aHe _ _ _ _ _ _ _ (Int.natCast_nonneg n)]
 have e : min ((n : Int)).toNat IntKind.u64.bits = n := by rw [Int.toNat_natCast]; exact Nat.min_eq_left h
 have e2 : ((a : Int) * 2 ^ n : Int) = ((a * 2 ^ n : Nat) : Int) := by push_cast; rfl
 rw [e, e2, oQ]
def s64 (a : Nat) : Int := if a ≥ 9223372036854775808 then (a : Int) - 18446744073709551616 else (a : Int)
def u64 (n : Int) : Nat := (n % 18446744073709551616).toNat
theorem aGO (n : Int) : u64 n < 18446744073709551616 := by unfold u64; omega
theorem aBN (a : Nat) (h : a < 18446744073709551616) : fH .i64 (Un a) = some (I6 (s64 a)) := by
 rw [jI, vR]; unfold s64; congr 2; split <;> split <;> omega
theorem sJ (k : IntKind) (n : Int) : fH .u64 (.int k n) = some (Un (u64 n)) := by
 rw [jI, qD]; unfold u64; congr 2; omega
theorem aHV (n : Nat) (h : n < 18446744073709551616) : u64 (n : Int) = n := by unfold u64; omega
theorem aHF (x0 x1 y0 y1 : Nat) (hx0 : x0 < 4294967296) (hx1 : x1 < 4294967296) (hy0 : y0 < 4294967296) (hy1 : y1 < 4294967296) :
  x0 * y0 ≤ 18446744065119617025 ∧ x1 * y0 ≤ 18446744065119617025 ∧ x0 * y1 ≤ 18446744065119617025 ∧ x1 * y1 ≤ 18446744065119617025 ∧
  (x1 * 4294967296 + x0) * (y1 * 4294967296 + y0) = x1 * y1 * 18446744073709551616 + (x1 * y0 + x0 * y1) * 4294967296 + x0 * y0 := by
 have b : ∀ p q : Nat, p < 4294967296 → q < 4294967296 → p * q ≤ 18446744065119617025 := fun p q hp hq => by
  have := Nat.mul_le_mul (show p ≤ 4294967295 by omega) (show q ≤ 4294967295 by omega)
  omega
 refine ⟨b _ _ hx0 hy0, b _ _ hx1 hy0, b _ _ hx0 hy1, b _ _ hx1 hy1, ?_⟩
 simp only [Nat.add_mul, Nat.mul_add]
 have e1 : x1 * 4294967296 * (y1 * 4294967296) = x1 * y1 * 18446744073709551616 := by
  rw [Nat.mul_mul_mul_comm]
 have e2 : x1 * 4294967296 * y0 = x1 * y0 * 4294967296 := by rw [Nat.mul_right_comm]
 have e3 : x0 * (y1 * 4294967296) = x0 * y1 * 4294967296 := by rw [Nat.mul_assoc]
 rw [e1, e2, e3]; omega
theorem aIW (n : Nat) : n &&& 4294967295 = n % 4294967296 := Nat.and_two_pow_sub_one_eq_mod n 32
theorem aDq (G : aE) (k : Nat) (a b : Nat) (ha : a < 18446744073709551616) (hb : b < 18446744073709551616) :
  bW.f G (k + 1) [Un a, Un b] [] = some (.tup [Un (a * b / 18446744073709551616), Un (a * b % 18446744073709551616)], []) := by
 rw [bW.step]
 unfold bW.c
 have and32 : ∀ n : Nat, n < 18446744073709551616 → bA Tryd.prog .and 30 true (Un n) (.int .u64 4294967295) = some (Un (n % 4294967296)) := fun n hn => by
  rw [aDX]; have := aEF n 4294967295 hn (by omega); rw [aIW] at this; exact congrArg (fun z => some (AV.int .u64 z)) this
 have shr32 : ∀ n : Nat, bA Tryd.prog .shr 30 true (Un n) (.int .u64 32) = some (Un (n / 4294967296)) := fun n => aEG Tryd.prog 30 true .u64 n 32 (by omega)
 obtain ⟨x0, hx0⟩ : ∃ z, z = a % 4294967296 := ⟨_, rfl⟩
 obtain ⟨x1, hx1⟩ : ∃ z, z = a / 4294967296 := ⟨_, rfl⟩
 obtain ⟨y0, hy0⟩ : ∃ z, z = b % 4294967296 := ⟨_, rfl⟩
 obtain ⟨y1, hy1⟩ : ∃ z, z = b / 4294967296 := ⟨_, rfl⟩
 have c0 := and32 a ha
 have c1 := shr32 a
 have c2 := and32 b hb
 have c3 := shr32 b
 rw [← hx0] at c0
 rw [← hx1] at c1
 rw [← hy0] at c2
 rw [← hy1] at c3
 obtain ⟨b1, b2, b3, b4, hm⟩ := aHF x0 x1 y0 y1 (by omega) (by omega) (by omega) (by omega)
 have hab : a * b = x1 * y1 * 18446744073709551616 + (x1 * y0 + x0 * y1) * 4294967296 + x0 * y0 := by
  rw [← hm]; congr 1 <;> omega
 have m : ∀ p q : Nat, p * q ≤ 18446744065119617025 → bA Tryd.prog .mul 30 false (Un p) (Un q) = some (Un (p * q)) := fun p q h => by rw [aBj, Nat.mod_eq_of_lt (by omega)]
 have ad : ∀ p q : Nat, p + q < 18446744073709551616 → bA Tryd.prog .add 30 false (Un p) (Un q) = some (Un (p + q)) := fun p q h => by rw [aBi, Nat.mod_eq_of_lt h]
 have c4 := m x0 y0 b1
 have c5 := m x1 y0 b2
 have c10 := m x0 y1 b3
 have c12 := m x1 y1 b4
 have c16 := aBj Tryd.prog 30 false a b
 rw [hab] at c16 ⊢
 generalize x0 * y0 = A at *
 generalize x1 * y0 = B at *
 generalize x0 * y1 = C at *
 generalize x1 * y1 = D at *
 have c6 := shr32 A
 have c7 := ad B (A / 4294967296) (by omega)
 obtain ⟨E, hE⟩ : ∃ z, z = B + A / 4294967296 := ⟨_, rfl⟩
 rw [← hE] at c7
 have c8 := and32 E (by omega)
 have c9 := shr32 E
 have c11 := ad (E % 4294967296) C (by omega)
 obtain ⟨F, hF⟩ : ∃ z, z = E % 4294967296 + C := ⟨_, rfl⟩
 rw [← hF] at c11
 have c13 := ad D (E / 4294967296) (by omega)
 have c14 := shr32 F
 have c15 := ad (D + E / 4294967296) (F / 4294967296) (by omega)
 have r1 : (D * 18446744073709551616 + (B + C) * 4294967296 + A) / 18446744073709551616 = D + E / 4294967296 + F / 4294967296 := by omega
 rw [r1]
 generalize (D * 18446744073709551616 + (B + C) * 4294967296 + A) % 18446744073709551616 = Z at *
 generalize D + E / 4294967296 + F / 4294967296 = Y at *
 generalize D + E / 4294967296 = X at *
 generalize F / 4294967296 = X2 at *
 generalize E / 4294967296 = X3 at *
 generalize E % 4294967296 = X4 at *
 generalize A / 4294967296 = X5 at *
 clear hE hF hab hm
 repeat first
  | refine oB (by first | (simp only [cC, bV, bU, fR, fN, fQ, fO, fP, bX, bH, eA, c0, c1, c2, c3, c4, c5, c6, c7, c8, c9, c10, c11, c12, c13, c14, c15, c16]; first | done | (with_reducible exact rfl) | (with_reducible exact ⟨rfl, rfl⟩)) | (with_reducible exact rfl)) ?_
  | refine lB (by first | (simp only [cC, bV, bU, fR, fN, fQ, fO, fP, bX, bH, eA, c0, c1, c2, c3, c4, c5, c6, c7, c8, c9, c10, c11, c12, c13, c14, c15, c16]; first | done | (with_reducible exact rfl) | (with_reducible exact ⟨rfl, rfl⟩)) | (with_reducible exact rfl)) ?_
  | refine oT ?_
  | refine oN ?_
  | refine oX ?_
  | refine mQ ?_
  | refine mR ?_
  | exact oF (cW ..)
  | apply oK
  | refine lT ?_
  | refine lN ?_
  | refine lX ?_
  | refine mO ?_
  | refine mP ?_
  | apply lK
  | refine oI ?_
  | refine oJ rfl ?_
  | refine lI ?_
  | refine lJ rfl ?_
  | (with_reducible exact rfl)
 exact oF (jO rfl rfl _)
def aHR (a n : Nat) : Nat := u64 ((s64 a).fdiv (2 ^ n))
def dF (l : List Nat) : List AV := l.map fun n => Un n
theorem hX (l : List Nat) : (dF l).length = l.length := by simp [dF]
theorem iK (n : Nat) (l : List Nat) : aY n (dF l) = true := iG n _ (fun _ => rfl) l
theorem aIL (l : List Nat) : gP (dF l) = true := iH _ (fun _ => rfl) l
theorem nI (l : List Nat) (j : Nat) (h : j < l.length) : (dF l)[j]? = some (Un (l.getD j 0)) := by
 simp [dF, List.getD, List.getElem?_eq_getElem h]
theorem aAh (l : List Nat) (j x : Nat) : dF (l.set j x) = (dF l).set j (Un x) := by simp [dF, List.map_set]
def lF (p : Int × Int) : AV := .agg [I6 p.1, I6 p.2]
def eY (l : List (Int × Int)) : List AV := l.map lF
theorem iJ (l : List (Int × Int)) : (eY l).length = l.length := by simp [eY]
theorem jR (n : Nat) (l : List (Int × Int)) : aY n (eY l) = true := iG n _ (fun _ => rfl) l
theorem aAU {l : List Nat} {j x : Nat} (h : ∀ y ∈ l, y < 18446744073709551616) (hx : x < 18446744073709551616) : ∀ y ∈ l.set j x, y < 18446744073709551616 := by
 intro y hy
 rcases List.mem_or_eq_of_mem_set hy with h1 | rfl
 ·exact h y h1
 ·exact hx
theorem aDT (l : List Nat) : iU 1 (dF l) = true := kZ 1 _ (fun _ => rfl) l
theorem aHb (l : List (Int × Int)) : iU 2 (eY l) = true := kZ 2 _ (fun _ => rfl) l
theorem aHh (l : List (Int × Int)) : gP (eY l) = true := iH _ (fun _ => rfl) l
structure WI where
 op : Int
 d : Int
 a : Int
 b : Int
 c : Int
 k : Int
def WI.v (i : WI) : AV := .agg [I6 i.op, I6 i.d, I6 i.a, I6 i.b, I6 i.c, I6 i.k]
instance : Inhabited WI := ⟨⟨0, 0, 0, 0, 0, 0⟩⟩
def cF (ws : List WI) : List AV := ws.map WI.v
theorem gQ (ws : List WI) : (cF ws).length = ws.length := by simp [cF]
section
variable (G : aE) (k : Nat) (self : cQ) (bor : Bool) (ws : List WI) (r m : Int)
def cV (bor : Bool) (ws : List WI) (r m : Int) : AV := .agg [.ro bor (cF ws), I6 r, I6 m]
theorem fK (n : Nat) (l : List WI) : aY n (cF l) = true := iG n _ (fun _ => rfl) l
end
def jG (op k : Int) (a : Nat) : Nat × Bool :=
 if k < 0 ∨ 63 < k then (0, false)
 else if op = 10 then (a * 2 ^ k.toNat % 18446744073709551616, true)
 else if op = 11 then (a / 2 ^ k.toNat, true)
 else (aHR a k.toNat, true)
def kL (op k : Int) (a b c : Nat) : Nat × Bool :=
 if op = 1 then (u64 k, true)
 else if op = 2 then (a, true)
 else if op = 3 then ((a + b) % 18446744073709551616, true)
 else if op = 4 then ((a + 18446744073709551616 - b) % 18446744073709551616, true)
 else if op = 5 then (a * b % 18446744073709551616, true)
 else if op = 6 then (a * b / 18446744073709551616, true)
 else if op = 7 then (a &&& b, true)
 else if op = 8 then (a ||| b, true)
 else if op = 9 then (a ^^^ b, true)
 else if op = 10 ∨ op = 11 ∨ op = 12 then jG op k a
 else if op = 13 then (if a < b then 1 else 0, true)
 else if op = 14 then (if a ≠ 0 then b else c, true)
 else (0, false)
structure MS where
 regs : List Nat
 at_ : Nat
 code : Int
 mem : List Nat
 leaks : List (Int × Int)
 steps : Nat
def MS.leak (s : MS) (kind at_ : Int) : MS := { s with leaks := s.leaks ++ [(kind, at_)] }
def MS.rg (s : MS) (i : Int) : Nat := s.regs.getD i.toNat 0
def MS.set (s : MS) (i : Int) (n : Nat) : MS := { s with regs := s.regs.set i.toNat n }
def MS.touch (s : MS) (i : WI) : MS × Bool :=
 let ad := (s.rg i.a + u64 i.k) % 18446744073709551616
 let s1 := s.leak 3 (s64 ad)
 if s.mem.length ≤ ad then ({ s1 with code := 3 }, false)
 else if i.op = 15 then (s1.set i.d (s.mem.getD ad 0), true)
 else ({ s1 with mem := s.mem.set ad (s.rg i.b) }, true)
def MS.branch (s : MS) (i : WI) : MS :=
 if i.op = 17 then { s with at_ := i.k.toNat }
 else if (decide (s.rg i.a = 0) == decide (i.op = 18)) = true then { s.leak 2 1 with at_ := i.k.toNat }
 else s.leak 2 0
def MS.step (s : MS) (i : WI) : MS × Bool :=
 let s := { s with at_ := s.at_ + 1 }
 if i.op = 15 ∨ i.op = 16 then s.touch i
 else if i.op = 17 ∨ i.op = 18 ∨ i.op = 19 then (s.branch i, true)
 else if i.op = 20 then ({ s with code := i.k }, false)
 else if (kL i.op i.k (s.rg i.a) (s.rg i.b) (s.rg i.c)).2 = true then (s.set i.d (kL i.op i.k (s.rg i.a) (s.rg i.b) (s.rg i.c)).1, true)
 else (s, true)
structure MS.Ok (s : MS) (R : Nat) : Prop where
 len : s.regs.length = R
 regs : ∀ x ∈ s.regs, x < 18446744073709551616
 mem : ∀ x ∈ s.mem, x < 18446744073709551616
 leaks : s.leaks.length ≤ 3 * s.steps
 big : s.mem.length ≤ 1000000
 few : s.steps ≤ 100000
theorem MS.Ok.rg {s : MS} {R : Nat} (h : s.Ok R) (i : Int) : s.rg i < 18446744073709551616 := by
 unfold MS.rg
 rw [List.getD_eq_getElem?_getD]
 cases hq : s.regs[i.toNat]? with
 | none => decide
 | some x => exact h.regs x (List.mem_of_getElem? hq)
theorem MS.Ok.mg {s : MS} {R : Nat} (h : s.Ok R) (i : Nat) : s.mem.getD i 0 < 18446744073709551616 := by
 rw [List.getD_eq_getElem?_getD]
 cases hq : s.mem[i]? with
 | none => decide
 | some x => exact h.mem x (List.mem_of_getElem? hq)
structure WI.Ok (i : WI) (R n : Nat) : Prop where
 op : 1 ≤ i.op ∧ i.op ≤ 20
 a : i.op ≠ 17 → i.op ≠ 20 → 0 ≤ i.a ∧ i.a < R
 d : i.op ≤ 16 → 0 ≤ i.d ∧ i.d < R
 b : i.op ≤ 16 → 0 ≤ i.b ∧ i.b < R
 c : i.op ≤ 16 → 0 ≤ i.c ∧ i.c < R
 k : 17 ≤ i.op → i.op ≤ 19 → 0 ≤ i.k ∧ i.k ≤ n
section
variable (G : aE) (i : WI)
theorem aGR (H : aA) : cS i.v H = some (.rp false i.v 0, H) := rfl
theorem gi0 : aB 0 (.rp false i.v 0) = some (.rp false i.v 0) := rfl
theorem gi1 : aB 1 (.rp false i.v 0) = some (.rp false i.v 1) := rfl
theorem gi2 : aB 2 (.rp false i.v 0) = some (.rp false i.v 2) := rfl
theorem gi3 : aB 3 (.rp false i.v 0) = some (.rp false i.v 3) := rfl
theorem gi4 : aB 4 (.rp false i.v 0) = some (.rp false i.v 4) := rfl
theorem gi5 : aB 5 (.rp false i.v 0) = some (.rp false i.v 5) := rfl
theorem aCN (H : aA) : aG G false 1 (.rp false i.v 0) H = some (I6 i.op) := rfl
theorem aGS (H : aA) : aG G false 1 (.rp false i.v 1) H = some (I6 i.d) := rfl
theorem aEH (H : aA) : aG G false 1 (.rp false i.v 2) H = some (I6 i.a) := rfl
theorem gl3 (H : aA) : aG G false 1 (.rp false i.v 3) H = some (I6 i.b) := rfl
theorem aID (H : aA) : aG G false 1 (.rp false i.v 4) H = some (I6 i.c) := rfl
theorem aGT (H : aA) : aG G false 1 (.rp false i.v 5) H = some (I6 i.k) := rfl
theorem aJV (H : aA) : aG G true 6 (.rp false i.v 0) H = some i.v := rfl
end
theorem aIa (op k : Int) (a b c : Nat) (ha : a < 18446744073709551616) (hb : b < 18446744073709551616) (hc : c < 18446744073709551616) : (kL op k a b c).1 < 18446744073709551616 := by
 have hm : ∀ n : Nat, n % 18446744073709551616 < 18446744073709551616 := fun n => Nat.mod_lt _ (by decide)
 have hs : (jG op k a).1 < 18446744073709551616 := by
  unfold jG
  split
  ·decide
  ·split
   ·exact hm _
   ·split
    ·exact Nat.lt_of_le_of_lt (Nat.div_le_self _ _) ha
    ·exact aGO _
 unfold kL
 by_cases e0 : op = 1
 ·rw [if_pos e0]; exact aGO _
 rw [if_neg e0]
 by_cases e1 : op = 2
 ·rw [if_pos e1]; exact ha
 rw [if_neg e1]
 by_cases e2 : op = 3
 ·rw [if_pos e2]; exact hm _
 rw [if_neg e2]
 by_cases e3 : op = 4
 ·rw [if_pos e3]; exact hm _
 rw [if_neg e3]
 by_cases e4 : op = 5
 ·rw [if_pos e4]; exact hm _
 rw [if_neg e4]
 by_cases e5 : op = 6
 ·rw [if_pos e5]; exact Nat.div_lt_of_lt_mul (Nat.mul_lt_mul'' ha hb)
 rw [if_neg e5]
 by_cases e6 : op = 7
 ·rw [if_pos e6]; exact Nat.lt_of_le_of_lt Nat.and_le_left ha
 rw [if_neg e6]
 by_cases e7 : op = 8
 ·rw [if_pos e7]; exact Nat.or_lt_two_pow (n := 64) ha hb
 rw [if_neg e7]
 by_cases e8 : op = 9
 ·rw [if_pos e8]; exact Nat.xor_lt_two_pow (n := 64) ha hb
 rw [if_neg e8]
 by_cases e9 : op = 10 ∨ op = 11 ∨ op = 12
 ·rw [if_pos e9]; exact hs
 rw [if_neg e9]
 by_cases e10 : op = 13
 ·rw [if_pos e10]; show (if a < b then 1 else 0) < 18446744073709551616; by_cases q : a < b
  ·rw [if_pos q]; decide
  ·rw [if_neg q]; decide
 rw [if_neg e10]
 by_cases e11 : op = 14
 ·rw [if_pos e11]; show (if a ≠ 0 then b else c) < 18446744073709551616; by_cases q : a ≠ 0
  ·rw [if_pos q]; exact hb
  ·rw [if_neg q]; exact hc
 rw [if_neg e11]
 decide
theorem MS.step_ok {s : MS} {R n : Nat} {i : WI} (h : s.Ok R) (hi : i.Ok R n) (hl : s.leaks.length + 1 ≤ 3 * s.steps) (hn : s.at_ < n) : (s.step i).1.Ok R ∧ (s.step i).1.at_ ≤ n ∧ (s.step i).1.steps = s.steps ∧ (s.step i).1.mem.length = s.mem.length := by
 have ok1 : ({ s with at_ := s.at_ + 1 } : MS).Ok R := ⟨h.len, h.regs, h.mem, h.leaks, h.big, h.few⟩
 unfold MS.step
 simp only
 split
 ·unfold MS.touch
  simp only [MS.leak, MS.set]
  split
  ·exact ⟨⟨h.len, h.regs, h.mem, by simpa using hl, h.big, h.few⟩, hn, rfl, rfl⟩
  ·split
   ·exact ⟨⟨by simpa using h.len, aAU h.regs (h.mg _), h.mem, by simpa using hl, h.big, h.few⟩, hn, rfl, rfl⟩
   ·exact ⟨⟨h.len, h.regs, aAU h.mem (ok1.rg _), by simpa using hl, by simpa using h.big, h.few⟩, hn, rfl, by simp⟩
 ·split
  ·rename_i h2
   have hk := hi.k (by omega) (by omega)
   unfold MS.branch
   split
   ·exact ⟨⟨h.len, h.regs, h.mem, h.leaks, h.big, h.few⟩, by simp only; omega, rfl, rfl⟩
   ·split
    ·exact ⟨⟨h.len, h.regs, h.mem, by simpa [MS.leak] using hl, h.big, h.few⟩, by simp only; omega, rfl, rfl⟩
    ·exact ⟨⟨h.len, h.regs, h.mem, by simpa [MS.leak] using hl, h.big, h.few⟩, hn, rfl, rfl⟩
  ·split
   ·exact ⟨⟨h.len, h.regs, h.mem, h.leaks, h.big, h.few⟩, hn, rfl, rfl⟩
   ·split
    ·exact ⟨⟨by simpa [MS.set] using h.len, aAU h.regs (aIa _ _ _ _ _ (ok1.rg _) (ok1.rg _) (ok1.rg _)), h.mem, h.leaks, h.big, h.few⟩, hn, rfl, rfl⟩
    ·exact ⟨ok1, hn, rfl, rfl⟩
def MS.tick (s : MS) : MS := ({ s with steps := s.steps + 1 } : MS).leak 1 s.at_
def kX (cs : List WI) (fuel : Int) : Nat → MS → Option MS
 | 0, _ => none
 | f + 1, s =>
  if cs.length ≤ s.at_ then some { s with code := 3 }
  else if (s.steps : Int) = fuel then some { s with code := 4 }
  else match s.tick.step (cs.getD s.at_ default) with
   | (s', true) => kX cs fuel f s'
   | (s', false) => some s'
section
variable (G : aE) (bor : Bool) (cs : List WI)
theorem zY (j : Nat) (h : j < cs.length) : aF 6 (.ro bor (cF cs)) (Nn j) = some (.rp bor (cs.getD j default).v 0) := by
 have h0 : (0 : Int) ≤ (j : Int) := by omega
 have e : (cF cs)[(j : Int).toNat]? = some (cs.getD j default).v := by
  rw [Int.toNat_natCast]
  simp [cF, List.getElem?_map, List.getD, List.getElem?_eq_getElem h]
 unfold aF
 simp only [e]
 rw [if_pos h0]
 rfl
theorem aCd (i : WI) (H : aA) : aG G true 6 (.rp bor i.v 0) H = some i.v := rfl
end
theorem aAm (cs : List WI) (fuel : Int) : ∀ (f : Nat) (s : MS), (s.steps : Int) ≤ fuel → fuel - s.steps < f → ∃ s', kX cs fuel f s = some s'
 | 0, s, h, h2 => by omega
 | f + 1, s, h, h2 => by
  simp only [kX]
  by_cases h1 : cs.length ≤ s.at_
  ·rw [if_pos h1]; exact ⟨_, rfl⟩
  rw [if_neg h1]
  by_cases h3 : (s.steps : Int) = fuel
  ·rw [if_pos h3]; exact ⟨_, rfl⟩
  rw [if_neg h3]
  have e : ∀ i, (s.tick.step i).1.steps = s.steps + 1 := fun i => by
   unfold MS.step MS.touch MS.branch
   simp only
   repeat' split
   all_goals rfl
  have e' := e (cs.getD s.at_ default)
  obtain ⟨s2, b, hsb⟩ : ∃ s2 b, s.tick.step (cs.getD s.at_ default) = (s2, b) := ⟨_, _, rfl⟩
  rw [hsb] at e' ⊢
  cases b
  ·exact ⟨_, rfl⟩
  ·exact aAm cs fuel f s2 (by simp only at e'; omega) (by simp only at e'; omega)
def s0 (R : Nat) (mem : List Nat) : MS := ⟨List.replicate R 0, 0, 0, mem, [], 0⟩
theorem aIw (R : Nat) (mem : List Nat) (hm : ∀ x ∈ mem, x < 18446744073709551616) (hl : mem.length ≤ 1000000) : (s0 R mem).Ok R :=
 ⟨by simp [s0], fun x hx => by simp [s0] at hx; omega, hm, by simp [s0], hl, by simp [s0]⟩
theorem aDS (l : List WI) : iU 6 (cF l) = true := kZ 6 _ (fun _ => rfl) l
theorem lH (l : List WI) : fA (cF l) = true := kD _ (fun _ => rfl) l
section
variable {cs : List WI} {fuel : Int} {f : Nat} {s s2 : MS} {i : WI}
end
def ro (e : Nat) : Nat := if e = 0 then 1 else if e = 1 then 2 else if e = 2 then 0 else if e = 3 then 4 else if e = 4 then 3 else 5
structure Frm where
 d : Bool
 a : Bool
 b : Bool
 c : Bool
 k : Bool
def gT (op : Int) : Option Frm :=
 if op = 1 then some ⟨true, false, false, false, true⟩
 else if op = 2 then some ⟨true, true, false, false, false⟩
 else if (3 ≤ op ∧ op ≤ 9) ∨ op = 13 then some ⟨true, true, true, false, false⟩
 else if (10 ≤ op ∧ op ≤ 12) ∨ op = 15 then some ⟨true, true, false, false, true⟩
 else if op = 14 then some ⟨true, true, true, true, false⟩
 else if op = 16 then some ⟨false, true, true, false, true⟩
 else if op = 17 ∨ op = 20 then some ⟨false, false, false, false, true⟩
 else if op = 18 ∨ op = 19 then some ⟨false, true, false, false, true⟩
 else none
def dJ (op : Int) : ByteArray :=
 if op = 1 then ⟨#[99, 111, 110, 115, 116]⟩ else if op = 2 then ⟨#[109, 111, 118]⟩ else if op = 3 then ⟨#[97, 100, 100]⟩ else if op = 4 then ⟨#[115, 117, 98]⟩ else if op = 5 then ⟨#[109, 117, 108]⟩
 else if op = 6 then ⟨#[104, 105, 103, 104]⟩ else if op = 7 then ⟨#[97, 110, 100]⟩ else if op = 8 then ⟨#[111, 114]⟩ else if op = 9 then ⟨#[120, 111, 114]⟩ else if op = 10 then ⟨#[115, 104, 108]⟩
 else if op = 11 then ⟨#[115, 104, 114]⟩ else if op = 12 then ⟨#[115, 97, 114]⟩ else if op = 13 then ⟨#[108, 101, 115, 115]⟩ else if op = 14 then ⟨#[115, 101, 108]⟩ else if op = 15 then ⟨#[108, 100]⟩
 else if op = 16 then ⟨#[115, 116]⟩ else if op = 17 then ⟨#[98, 114]⟩ else if op = 18 then ⟨#[98, 122]⟩ else if op = 19 then ⟨#[98, 110, 122]⟩ else if op = 20 then ⟨#[104, 97, 108, 116]⟩ else ⟨#[110, 111, 110, 101]⟩
def gH (w : ByteArray) (f : Frm) : AV := .agg [.str w, .bool f.d, .bool f.a, .bool f.b, .bool f.c, .bool f.k]
def eW (op : Int) : Frm := match gT op with | some f => f | none => ⟨false, false, false, false, false⟩
theorem aHM {op : Int} (h : 1 ≤ op ∧ op ≤ 20) : op = 1 ∨ op = 2 ∨ op = 3 ∨ op = 4 ∨ op = 5 ∨ op = 6 ∨ op = 7 ∨ op = 8 ∨ op = 9 ∨ op = 10 ∨ op = 11 ∨ op = 12 ∨ op = 13 ∨ op = 14 ∨ op = 15 ∨ op = 16 ∨ op = 17 ∨ op = 18 ∨ op = 19 ∨ op = 20 := by omega
theorem tP {op : Int} (h : ¬ (1 ≤ op ∧ op ≤ 20)) : gT op = none := by
 unfold gT
 repeat rw [if_neg (by omega)]
theorem aDL {op : Int} (h : ¬ (1 ≤ op ∧ op ≤ 20)) : dJ op = ⟨#[110, 111, 110, 101]⟩ := by
 unfold dJ
 repeat rw [if_neg (by omega)]
theorem uJ (G : aE) (k : Nat) (op : Int) : dO.f G (k + 4) [I6 op] [] = some (.tup [gH (dJ op) (eW op), .bool (gT op).isSome], []) := by
 by_cases h : 1 ≤ op ∧ op ≤ 20
 ·rcases aHM h with rfl | rfl | rfl | rfl | rfl | rfl | rfl | rfl | rfl | rfl | rfl | rfl | rfl | rfl | rfl | rfl | rfl | rfl | rfl | rfl <;> kernel_rfl
 ·rw [dO.step]
  unfold dO.c
  unfold eW
  rw [tP h, aDL h]
  refine gY ?_
  have fx := True.intro
  refine uK ?_
  refine gJ ?_
  rfl
def bsV (f : Frm) : AV := .ro false [.bool f.d, .bool f.a, .bool f.b, .bool f.c, .bool f.k]
def isV (i : WI) : AV := .ro false [I6 i.d, I6 i.a, I6 i.b, I6 i.c, I6 i.k]
theorem aFO (G : aE) (k : Nat) (i : WI) (w : ByteArray) (f : Frm) : fG.f G (k + 1) [i.v, gH w f] [] = some (.tup [bsV f, isV i], []) := by kernel_rfl
abbrev eV (g : Nat) : AV := .iface 179 (.gp (ro g))
def lY (is : Bool) (r R : Int) : Bool := is && (decide (r < 0) || decide (R ≤ r))
section
variable (G : aE) (k : Nat) (self : cQ) (c1 : AV) (R : Int) (hR0 : 0 ≤ R)
abbrev bxC (cv : AV) (R M : Int) : AV := .rp false (.agg [cv, I6 R, I6 M]) 0
abbrev xs6 (cv : AV) (R M : Int) (i : WI) (f : Frm) (j : Int) : List AV := [bxC cv R M, .rp false i.v 0, .nili, bsV f, isV i, I6 j]
theorem rQ {bor : Bool} {xs : List AV} {k' : IntKind} {j : Nat} {y : AV} (h : xs[j]? = some y) (h1 : y.cells.length = 1) : aF 1 (.ro bor xs) (.int k' (j : Int)) = some (.rp bor y 0) := by
 unfold aF
 simp [h, h1]
theorem aIk {b bor : Bool} {H : aA} : aG G false 1 (.rp bor (.bool b) 0) H = some (.bool b) := rfl
theorem aIl {n : Int} {bor : Bool} {H : aA} : aG G false 1 (.rp bor (I6 n) 0) H = some (I6 n) := rfl
theorem sV (cv : AV) (M : Int) (i : WI) (f : Frm) (j : Nat) (hj : j < 4) (t : Bool) (p : Int) (ht : [AV.bool f.d, .bool f.a, .bool f.b, .bool f.c, .bool f.k][j]? = some (.bool t)) (hp : [I6 i.d, I6 i.a, I6 i.b, I6 i.c, I6 i.k][j]? = some (I6 p))
  (hG : G 0 = some (eV 2)) (hcl : aT 0 cv = true) (n : Nat) :
  cM (cK.l6 G k 1 self) (n + 1) (xs6 cv R M i f j) [⟨100, 6, [gH (dJ i.op) f]⟩] =
   if lY t p R = true then some (.ret, [bxC cv R M, .rp false i.v 0, eV 2, bsV f, isV i, I6 j], [⟨100, 6, [gH (dJ i.op) f]⟩])
   else cM (cK.l6 G k 1 self) n (xs6 cv R M i f (j + 1 : Nat)) [⟨100, 6, [gH (dJ i.op) f]⟩] := by
 rw [aX, cK.l6]
 have hc : fD 1 (xs6 cv R M i f j) [⟨100, 6, [gH (dJ i.op) f]⟩] = some [⟨100, 6, [gH (dJ i.op) f]⟩] := by
  have := fB (Nat.zero_le 1) hcl
  simp [fD, aY, aT, bI, this, bsV, isV, WI.v, gH]
 have d1 : aF 1 (bsV f) (I6 j) = some (.rp false (.bool t) 0) := rQ ht rfl
 have d2 : aF 1 (isV i) (I6 j) = some (.rp false (I6 p) 0) := rQ hp rfl
 have l1 := fun (b bor : Bool) (H : aA) => @aIk G b bor H
 have l2 := fun (n : Int) (bor : Bool) (H : aA) => @aIl G n bor H
 have l3 : ∀ H, aG G false 1 (.gl 0) H = some (eV 2) := fun H => hG
 refine fT ?_
 refine eC hc ?_
 cases t
 ·rw [show lY false p R = false from rfl, if_neg (by simp)]
  have fx := aKM d1 <| aKM d2 <| aKM l1 <| l2
  refine uK ?_
  rfl
 ·by_cases ho : p < 0 ∨ R ≤ p
  ·have e : lY true p R = true := by unfold lY; rcases ho with h | h <;> simp [h]
   rw [if_pos e]
   have fx := aKM d1 <| aKM d2 <| aKM l1 <| aKM l2 <| l3
   refine uK ?_
   rfl
  ·have e : lY true p R = false := by unfold lY; simp; omega
   rw [if_neg (by simp [e])]
   have fx := aKM d1 <| aKM d2 <| aKM l1 <| aKM l2 <| l3
   refine uK ?_
   rfl
theorem aIT (cv : AV) (M : Int) (i : WI) (f : Frm) (hcl : aT 0 cv = true) (n : Nat) :
  cM (cK.l6 G k 1 self) (n + 1) (xs6 cv R M i f (4 : Nat)) [⟨100, 6, [gH (dJ i.op) f]⟩] = some (.exit 0, xs6 cv R M i f (4 : Nat), [⟨100, 6, [gH (dJ i.op) f]⟩]) := by
 rw [aX, cK.l6]
 have hc : fD 1 (xs6 cv R M i f (4 : Nat)) [⟨100, 6, [gH (dJ i.op) f]⟩] = some [⟨100, 6, [gH (dJ i.op) f]⟩] := by
  have := fB (Nat.zero_le 1) hcl
  simp [fD, aY, aT, bI, this, bsV, isV, WI.v, gH]
 refine fT ?_
 refine eC hc ?_
 have fx := True.intro
 refine uK ?_
 rfl
def qV (f : Frm) (i : WI) (R : Int) : Bool := lY f.d i.d R || lY f.a i.a R || lY f.b i.b R || lY f.c i.c R
def vU (f : Frm) (i : WI) : Bool := (!f.d && decide (i.d ≠ 0)) || (!f.a && decide (i.a ≠ 0)) || (!f.b && decide (i.b ≠ 0)) || (!f.c && decide (i.c ≠ 0)) || (!f.k && decide (i.k ≠ 0))
theorem aIS (cv : AV) (M : Int) (i : WI) (f : Frm) (hG : G 0 = some (eV 2)) (hcl : aT 0 cv = true) (n : Nat) :
  (qV f i R = true → ∃ j, cM (cK.l6 G k 1 self) (n + 5) (xs6 cv R M i f (0 : Nat)) [⟨100, 6, [gH (dJ i.op) f]⟩] = some (.ret, [bxC cv R M, .rp false i.v 0, eV 2, bsV f, isV i, j], [⟨100, 6, [gH (dJ i.op) f]⟩])) ∧
  (qV f i R = false → cM (cK.l6 G k 1 self) (n + 5) (xs6 cv R M i f (0 : Nat)) [⟨100, 6, [gH (dJ i.op) f]⟩] = some (.exit 0, xs6 cv R M i f (4 : Nat), [⟨100, 6, [gH (dJ i.op) f]⟩])) := by
 rw [sV G k self R cv M i f 0 (by omega) f.d i.d rfl rfl hG hcl]
 rw [sV G k self R cv M i f 1 (by omega) f.a i.a rfl rfl hG hcl]
 rw [sV G k self R cv M i f 2 (by omega) f.b i.b rfl rfl hG hcl]
 rw [sV G k self R cv M i f 3 (by omega) f.c i.c rfl rfl hG hcl]
 rw [aIT G k self R cv M i f hcl]
 unfold qV
 generalize lY f.d i.d R = o1
 generalize lY f.a i.a R = o2
 generalize lY f.b i.b R = o3
 generalize lY f.c i.c R = o4
 cases o1 <;> cases o2 <;> cases o3 <;> cases o4 <;> simp
abbrev aBp (cv : AV) (R M : Int) (i : WI) (f : Frm) (j : Int) : List AV := [bxC cv R M, .rp false i.v 0, .nili, isV i, bsV f, .int .i64 5, I6 j]
theorem nD (cv : AV) (M : Int) (i : WI) (f : Frm) (j : Nat) (hj : j < 5) (t : Bool) (p : Int) (ht : [AV.bool f.d, .bool f.a, .bool f.b, .bool f.c, .bool f.k][j]? = some (.bool t)) (hp : [I6 i.d, I6 i.a, I6 i.b, I6 i.c, I6 i.k][j]? = some (I6 p))
  (hG : G 4 = some (eV 3)) (hcl : aT 0 cv = true) (n : Nat) :
  cM (cK.l12 G k 1 self) (n + 1) (aBp cv R M i f j) [⟨100, 6, [gH (dJ i.op) f]⟩] =
   if (!t && decide (p ≠ 0)) = true then some (.ret, [bxC cv R M, .rp false i.v 0, eV 3, isV i, bsV f, .int .i64 5, I6 j], [⟨100, 6, [gH (dJ i.op) f]⟩])
   else cM (cK.l12 G k 1 self) n (aBp cv R M i f (j + 1 : Nat)) [⟨100, 6, [gH (dJ i.op) f]⟩] := by
 rw [aX, cK.l12]
 have hc : fD 1 (aBp cv R M i f j) [⟨100, 6, [gH (dJ i.op) f]⟩] = some [⟨100, 6, [gH (dJ i.op) f]⟩] := by
  have := fB (Nat.zero_le 1) hcl
  simp [fD, aY, aT, bI, this, bsV, isV, WI.v, gH]
 have d1 : aF 1 (bsV f) (I6 j) = some (.rp false (.bool t) 0) := rQ ht rfl
 have d2 : aF 1 (isV i) (I6 j) = some (.rp false (I6 p) 0) := rQ hp rfl
 have l1 := fun (b bor : Bool) (H : aA) => @aIk G b bor H
 have l2 := fun (n : Int) (bor : Bool) (H : aA) => @aIl G n bor H
 have l3 : ∀ H, aG G false 1 (.gl 4) H = some (eV 3) := fun H => hG
 refine fT ?_
 refine eC hc ?_
 cases t
 ·by_cases ho : p ≠ 0
  ·rw [if_pos (by simp [ho])]
   have fx := aKM d1 <| aKM d2 <| aKM l1 <| aKM l2 <| l3
   refine uK ?_
   rfl
  ·rw [if_neg (by simp [ho])]
   have fx := aKM d1 <| aKM d2 <| aKM l1 <| aKM l2 <| l3
   refine uK ?_
   rfl
 ·rw [if_neg (by simp)]
  have fx := aKM d1 <| aKM d2 <| aKM l1 <| l2
  refine uK ?_
  rfl
theorem aHy (cv : AV) (M : Int) (i : WI) (f : Frm) (hcl : aT 0 cv = true) (n : Nat) :
  cM (cK.l12 G k 1 self) (n + 1) (aBp cv R M i f (5 : Nat)) [⟨100, 6, [gH (dJ i.op) f]⟩] = some (.exit 2, aBp cv R M i f (5 : Nat), [⟨100, 6, [gH (dJ i.op) f]⟩]) := by
 rw [aX, cK.l12]
 have hc : fD 1 (aBp cv R M i f (5 : Nat)) [⟨100, 6, [gH (dJ i.op) f]⟩] = some [⟨100, 6, [gH (dJ i.op) f]⟩] := by
  have := fB (Nat.zero_le 1) hcl
  simp [fD, aY, aT, bI, this, bsV, isV, WI.v, gH]
 refine fT ?_
 refine eC hc ?_
 have fx := True.intro
 refine uK ?_
 rfl
theorem aHx (cv : AV) (M : Int) (i : WI) (f : Frm) (hG : G 4 = some (eV 3)) (hcl : aT 0 cv = true) (n : Nat) :
  (vU f i = true → ∃ j, cM (cK.l12 G k 1 self) (n + 6) (aBp cv R M i f (0 : Nat)) [⟨100, 6, [gH (dJ i.op) f]⟩] = some (.ret, [bxC cv R M, .rp false i.v 0, eV 3, isV i, bsV f, .int .i64 5, j], [⟨100, 6, [gH (dJ i.op) f]⟩])) ∧
  (vU f i = false → cM (cK.l12 G k 1 self) (n + 6) (aBp cv R M i f (0 : Nat)) [⟨100, 6, [gH (dJ i.op) f]⟩] = some (.exit 2, aBp cv R M i f (5 : Nat), [⟨100, 6, [gH (dJ i.op) f]⟩])) := by
 rw [nD G k self R cv M i f 0 (by omega) f.d i.d rfl rfl hG hcl]
 rw [nD G k self R cv M i f 1 (by omega) f.a i.a rfl rfl hG hcl]
 rw [nD G k self R cv M i f 2 (by omega) f.b i.b rfl rfl hG hcl]
 rw [nD G k self R cv M i f 3 (by omega) f.c i.c rfl rfl hG hcl]
 rw [nD G k self R cv M i f 4 (by omega) f.k i.k rfl rfl hG hcl]
 rw [aHy G k self R cv M i f hcl]
 unfold vU
 generalize (!f.d && decide (i.d ≠ 0)) = o1
 generalize (!f.a && decide (i.a ≠ 0)) = o2
 generalize (!f.b && decide (i.b ≠ 0)) = o3
 generalize (!f.c && decide (i.c ≠ 0)) = o4
 generalize (!f.k && decide (i.k ≠ 0)) = o5
 cases o1 <;> cases o2 <;> cases o3 <;> cases o4 <;> cases o5 <;> simp
end
def gM (i : WI) (R n : Int) : Option Nat :=
 if (gT i.op).isSome = false then some 4
 else if qV (eW i.op) i R = true then some 2
 else if vU (eW i.op) i = true then some 3
 else if i.op = 10 ∨ i.op = 11 ∨ i.op = 12 then (if i.k < 0 ∨ 63 < i.k then some 2 else none)
 else if i.op = 20 then (if i.k < 0 ∨ 2 < i.k then some 2 else none)
 else if i.op = 15 ∨ i.op = 16 then (if i.k < 0 ∨ 65535 < i.k then some 2 else none)
 else if i.op = 17 ∨ i.op = 18 ∨ i.op = 19 then (if i.k < 0 ∨ n < i.k then some 5 else none)
 else none
def aEQ (o : Option Nat) : AV := match o with | some g => eV g | none => .nili
structure GOk (G : aE) : Prop where
 g0 : G 1 = some (eV 0)
 g2 : G 0 = some (eV 2)
 g3 : G 4 = some (eV 3)
 g4 : G 3 = some (eV 4)
 g5 : G 5 = some (eV 5)
theorem w1e {x : AV} {o : Option Nat} {H : aA} (e : aEQ o = x) (hx : aT 0 x = true) : E fJ [] (cP [x] 0 H) (some (aEQ o, [])) := by subst e; exact oF (kB hx H)
theorem aDI {bor : Bool} (G : aE) (hg : GOk G) (k : Nat) (cs : List WI) (R M : Int) (i : WI) :
  cK.f G (k + 7) [cV bor cs R M, i.v] [] = some (aEQ (gM i R cs.length), []) := by
 rw [cK.step]
 unfold cK.c cV
 have r1 : ∀ H, aW (dO.f G (k + 6)) [I6 i.op] H = _ := fun H => cJ (H := H) (uJ G (k + 2) i.op) rfl rfl
 have r2 : ∀ H, aW (fG.f G (k + 6)) [i.v, gH (dJ i.op) (eW i.op)] H = _ := fun H => cJ (H := H) (aFO G (k + 5) i _ _) rfl rfl
 have b1 : ∀ H, cS i.v H = some (.rp false i.v 0, H) := fun H => rfl
 have g0 : aB 0 (.rp false i.v 0) = some (.rp false i.v 0) := rfl
 have g5 : aB 5 (.rp false i.v 0) = some (.rp false i.v 5) := rfl
 have l0 : ∀ H, aG G false 1 (.rp false i.v 0) H = some (I6 i.op) := fun H => rfl
 have l5 : ∀ H, aG G false 1 (.rp false i.v 5) H = some (I6 i.k) := fun H => rfl
 have l6 : ∀ H, aG G true 6 (.rp false i.v 0) H = some i.v := fun H => rfl
 have e2 : ∀ H, aG G false 1 (.gl 0) H = some (eV 2) := fun H => hg.g2
 have e4 : ∀ H, aG G false 1 (.gl 3) H = some (eV 4) := fun H => hg.g4
 have e5 : ∀ H, aG G false 1 (.gl 5) H = some (eV 5) := fun H => hg.g5
 have st : gB (aV 6 (.ptr 0 1 0 0) (gH (dJ i.op) (eW i.op)) [⟨100, 6, [.agg [(.str ⟨#[]⟩), (.bool false), (.bool false), (.bool false), (.bool false), (.bool false)]]⟩]) = some (.tup [], [⟨100, 6, [gH (dJ i.op) (eW i.op)]⟩]) := rfl
 have ld : aG G true 6 (.ptr 0 1 0 0) [⟨100, 6, [gH (dJ i.op) (eW i.op)]⟩] = some (gH (dJ i.op) (eW i.op)) := rfl
 have lc : bE (.ro bor (cF cs)) = some (I6 cs.length) := by simp [bE, gQ]
 have lb : bE (bsV (eW i.op)) = some (.int .i64 5) := rfl
 have hcl : aT 0 (.ro bor (cF cs)) = true := by simp [aT, fK]
 obtain ⟨p1, p2⟩ := aIS G (k + 6) (cK.f G (k + 6)) R (.ro bor (cF cs)) M i (eW i.op) hg.g2 hcl (k + 1)
 obtain ⟨p3, p4⟩ := aHx G (k + 6) (cK.f G (k + 6)) R (.ro bor (cF cs)) M i (eW i.op) hg.g3 hcl k
 refine gY ?_
 by_cases h0 : (gT i.op).isSome = false
 ·have e : gM i R cs.length = some 4 := by unfold gM; rw [if_pos h0]
  rw [e]
  rw [h0] at r1
  have fx := aKM r1 <| aKM b1 <| aKM g0 <| aKM l0 <| aKM st <| e4
  refine uK ?_
  exact w1e (by rfl) (by rfl)
 have h0' : (gT i.op).isSome = true := by
  cases hh : (gT i.op).isSome
  ·exact absurd hh h0
  ·rfl
 rw [h0'] at r1
 by_cases h1 : qV (eW i.op) i R = true
 ·have e : gM i R cs.length = some 2 := by unfold gM; rw [if_neg h0, if_pos h1]
  rw [e]
  obtain ⟨j, p1⟩ := p1 h1
  clear p2 p3 p4
  unfold bxC at p1
  have fx := aKM r1 <| aKM r2 <| aKM b1 <| aKM g0 <| aKM l0 <| aKM l6 <| aKM st <| aKM ld <| e2
  have lx1 := p1
  refine uK ?_
  exact w1e (by rfl) (by rfl)
 replace p2 := p2 (by simpa using h1)
 clear p1
 by_cases h2 : vU (eW i.op) i = true
 ·have e : gM i R cs.length = some 3 := by unfold gM; rw [if_neg h0, if_neg h1, if_pos h2]
  rw [e]
  obtain ⟨j, p3⟩ := p3 h2
  clear p4
  have fx := aKM r1 <| aKM r2 <| aKM b1 <| aKM g0 <| aKM l0 <| aKM l6 <| aKM st <| aKM ld <| aKM e2 <| lb
  have lx1 := p2
  have lx2 := p3
  refine uK ?_
  exact w1e (by rfl) (by rfl)
 replace p4 := p4 (by simpa using h2)
 clear p3
 have e : gM i R cs.length = (if i.op = 10 ∨ i.op = 11 ∨ i.op = 12 then (if i.k < 0 ∨ 63 < i.k then some 2 else none)
 else if i.op = 20 then (if i.k < 0 ∨ 2 < i.k then some 2 else none)
 else if i.op = 15 ∨ i.op = 16 then (if i.k < 0 ∨ 65535 < i.k then some 2 else none)
 else if i.op = 17 ∨ i.op = 18 ∨ i.op = 19 then (if i.k < 0 ∨ (cs.length : Int) < i.k then some 5 else none)
 else none) := by unfold gM; rw [if_neg h0, if_neg h1, if_neg h2]
 rw [e]
 clear e
 repeat' first
  | (with_reducible first | refine eT ?_ | refine eN ?_ | refine eS ?_ | refine eXn ?_ | refine eXr ?_ | refine eX ?_ | refine eI ?_ | refine eK ?_ | refine eV0 ?_ | refine aDf ?_ | refine aHm ?_ | refine aHi ?_ | refine aHl ?_ | refine aHj ?_ | refine aHk ?_)
  | ((with_reducible apply eCn); (simp only [bV, bU]; first | done | (with_reducible exact rfl)))
  | ((with_reducible apply eJ); (rfl))
  | ((with_reducible apply aDg); (first | rfl | (simp only [bV, bU]; rfl)))
  | ((with_reducible apply eL); (first | exact p2 | exact p4))
  | ((with_reducible apply eB); (first | (with_reducible exact rfl) | (simp (disch := omega) only [qf, r1, r2, b1, g0, g5, l0, l5, l6, st, ld, e2, e5, lb, lc]; first | done | (with_reducible exact rfl) | (with_reducible exact ⟨rfl, rfl⟩)) | (simp (disch := omega) only [qa, fX, AV.cells, bY, cH, fC, bN, cL, eH, Nat.reduceLeDiff, Nat.reduceLT, Nat.reduceAdd, ↓reduceIte, r1, r2, b1, g0, g5, l0, l5, l6, st, ld, e2, e5, lb, lc]; first | done | (with_reducible exact rfl) | (with_reducible exact ⟨rfl, rfl⟩))))
  | ((with_reducible apply eR); (simp only [bV, bU]; (with_reducible exact rfl)))
  | ((with_reducible first | refine aJf ?_ ?_ | refine aJk ?_ ?_ | refine aJj ?_ ?_ | refine aJi ?_ ?_ | refine aJh ?_ ?_ | refine aJg ?_ ?_ | refine aJl ?_ ?_ | refine aGJ ?_ ?_ | refine sGd ?_ ?_ | refine aFJ ?_ ?_) <;> intro hq <;> try subst hq)
 all_goals (refine w1e ?_ (by rfl); (first | (with_reducible rfl) | ((try simp (disch := omega) only [if_pos, if_neg, if_true, if_false, ↓reduceIte, aEQ]) <;> first | done | rfl | omega)))
inductive VE where
 | ok
 | bare (e : Nat)
 | at_ (j e : Nat)
def veV : VE → AV
 | .ok => .nili
 | .bare e => eV e
 | .at_ j e => .iface 126 (.rp false (.agg [Nn j, eV e]) 0)
def pE (R n : Int) : List WI → Nat → VE
 | [], _ => .ok
 | i :: l, j => match gM i R n with
  | some e => .at_ j e
  | none => pE R n l (j + 1)
def fV (cs : List WI) (R M : Int) : VE :=
 if 262144 < cs.length then .bare 0
 else if R < 0 ∨ 65536 < R ∨ M < 0 ∨ 65536 < M then .bare 0
 else pE R cs.length cs 0
theorem nO (v : VE) : fE (veV v) = true := by cases v <;> rfl
theorem aIb (v : VE) : aT 0 (veV v) = true := by cases v <;> rfl
section
variable {bor : Bool} (G : aE) (hg : GOk G) (k : Nat) (self : cQ) (cs : List WI) (R M : Int)
abbrev xsV (bor : Bool) (cs : List WI) (R M : Int) (x : AV) (j : Nat) : List AV := [bxC (.ro bor (cF cs)) R M, x, .ro bor (cF cs), I6 cs.length, Nn j]
include hg in
theorem wM (hcl : cs.length ≤ 1000000) : ∀ (l pre : List WI) (f : Nat) (H : aA), cs = pre ++ l → l.length < f →
  ∃ o, cM (cG.l6 G (k + 7) 0 self) f (xsV bor cs R M .nili pre.length) H = some o ∧
   (match pE R cs.length l pre.length with
    | .ok => o = (.exit 1, xsV bor cs R M .nili cs.length, [])
    | v => ∃ j H', o = (.ret, xsV bor cs R M (veV v) j, H'))
 | l, pre, 0, H, hcs, hf => by omega
 | [], pre, f + 1, H, hcs, hf => by
  rw [aX, cG.l6]
  have hl : cs.length = pre.length := by rw [hcs]; simp
  refine ⟨_, ?_, rfl⟩
  have hc : fD 0 (xsV bor cs R M .nili pre.length) H = some [] := by simp [fD, aY, aT, bI, fK]
  refine lC hc ?_
  refine fT ?_
  have hge : ¬ (pre.length : Int) < (cs.length : Int) := by omega
  have q : bA Tryd.prog .lss 3 false (Nn pre.length) (Nn cs.length) = some (.bool false) := by rw [iB, decide_eq_false hge]
  have fx := q
  refine uK ?_
  rw [hl]
  rfl
 | i :: l, pre, f + 1, H, hcs, hf => by
  rw [aX, cG.l6]
  have hl : cs.length = pre.length + (l.length + 1) := by rw [hcs]; simp
  have hc : fD 0 (xsV bor cs R M .nili pre.length) H = some [] := by simp [fD, aY, aT, bI, fK]
  have hi : cs.getD pre.length default = i := by rw [hcs]; simp [List.getD]
  have q : bA Tryd.prog .lss 3 false (Nn pre.length) (Nn cs.length) = some (.bool true) := by rw [iB, decide_eq_true (by omega)]
  have d1 := zY bor cs pre.length (by omega)
  rw [hi] at d1
  have d2 : ∀ H, aG G true 6 (.rp bor i.v 0) H = some i.v := fun H => rfl
  have d3 : gB (aV 6 (.ptr 0 1 0 0) i.v [⟨29, 6, [.agg [.int .i64 0, .int .i64 0, .int .i64 0, .int .i64 0, .int .i64 0, .int .i64 0]]⟩]) = some (.tup [], [⟨29, 6, [i.v]⟩]) := rfl
  have d4 : aG G true 6 (.ptr 0 1 0 0) [⟨29, 6, [i.v]⟩] = some i.v := rfl
  have d5 : ∀ H, aW (cK.f G (k + 7)) [.agg [.ro bor (cF cs), I6 R, I6 M], i.v] H = _ := fun H => cJ (H := H) (aDI G hg k cs R M i) (by simp [fA, bJ, lH, WI.v]) (by cases gM i R cs.length <;> rfl)
  cases ho : gM i R cs.length with
  | some e =>
   have hb : pE R cs.length (i :: l) pre.length = .at_ pre.length e := by simp only [pE, ho]
   rw [hb]
   rw [ho] at d5
   have q2 : bA Tryd.prog .neq 33 true (eV e) .nili = some (.bool true) := by kernel_rfl
   refine ⟨_, ?_, pre.length, [⟨29, 6, [i.v]⟩], rfl⟩
   refine lC hc ?_
   refine fT ?_
   simp only [aEQ] at d5
   have fx := aKM q <| aKM d1 <| aKM d2 <| aKM d3 <| aKM d4 <| aKM d5 <| q2
   refine uK ?_
   rfl
  | none =>
   rw [ho] at d5
   have q2 : bA Tryd.prog .neq 33 true .nili .nili = some (.bool false) := by kernel_rfl
   obtain ⟨o, h1, h2⟩ := wM hcl l (pre ++ [i]) f [⟨29, 6, [i.v]⟩] (by rw [hcs]; simp) (by simp at hf; omega)
   have hlen : (pre ++ [i]).length = pre.length + 1 := by simp
   rw [hlen] at h1 h2
   have hb : pE R cs.length (i :: l) pre.length = pE R cs.length l (pre.length + 1) := by simp only [pE, ho]
   rw [hb]
   refine ⟨o, ?_, h2⟩
   refine lC hc ?_
   refine fT ?_
   simp only [aEQ] at d5
   have q3 : bA Tryd.prog .add 3 true (Nn pre.length) (.int .i64 1) = some (Nn (pre.length + 1)) := by
    rw [iE, dY (by omega) (by omega)]; congr 2
   have fx := aKM q <| aKM d1 <| aKM d2 <| aKM d3 <| aKM d4 <| aKM d5 <| aKM q2 <| q3
   refine uK ?_
   exact h1
include hg in
theorem rI (hk : cs.length < k + 7) (hcl : cs.length ≤ 1000000) : cG.f G (k + 8) [cV bor cs R M] [] = some (veV (fV cs R M), []) := by
 rw [cG.step]
 unfold cG.c cV
 obtain ⟨o, h1, h2⟩ := wM (bor := bor) G hg k (cG.f G (k + 7)) cs R M hcl cs [] (k + 7) [] rfl hk
 have e0 : ∀ H, aG G false 1 (.gl 1) H = some (eV 0) := fun H => hg.g0
 have lc : bE (.ro bor (cF cs)) = some (I6 cs.length) := by simp [bE, gQ]
 refine gY ?_
 unfold fV
 by_cases hb : 262144 < cs.length
 ·rw [if_pos hb]
  have fx := aKM lc <| e0
  refine uK ?_
  exact w1 rfl rfl
 rw [if_neg hb]
 by_cases hr : R < 0 ∨ 65536 < R ∨ M < 0 ∨ 65536 < M
 ·rw [if_pos hr]
  have fx := aKM lc <| e0
  refine uK ?_
  exact w1 rfl rfl
 rw [if_neg hr]
 cases hv : pE R cs.length cs 0 with
 | ok =>
  simp only [List.length_nil, hv] at h2
  rw [h2] at h1
  have fx := aKM lc <| e0
  have lx1 := h1
  refine uK ?_
  exact w1 rfl rfl
 | bare e =>
  simp only [List.length_nil, hv] at h2
  obtain ⟨j, H', h2⟩ := h2
  rw [h2] at h1
  have fx := aKM lc <| e0
  have lx1 := h1
  refine uK ?_
  exact w1 rfl rfl
 | at_ j e =>
  simp only [List.length_nil, hv] at h2
  obtain ⟨j', H', h2⟩ := h2
  rw [h2] at h1
  have fx := aKM lc <| e0
  have lx1 := h1
  refine uK ?_
  exact w1 rfl rfl
end
theorem aEo {i : WI} {R n : Int} (h : gM i R n = none) (hR : 0 ≤ R) : i.Ok R.toNat n.toNat := by
 unfold gM at h
 have out : ∀ {t : Bool} {r : Int}, lY t r R = false → t = true → 0 ≤ r ∧ r < R := fun {t r} ho ht => by
  subst ht; simp [lY] at ho; omega
 by_cases h20 : 1 ≤ i.op ∧ i.op ≤ 20
 ·by_cases h1 : qV (eW i.op) i R = true
  ·rw [if_pos h1] at h; split at h <;> cases h
  rw [if_neg h1] at h
  by_cases h2 : vU (eW i.op) i = true
  ·rw [if_pos h2] at h; split at h <;> cases h
  rw [if_neg h2] at h
  obtain ⟨op, d, a, b, c, kk⟩ := i
  simp only at h h1 h2 h20
  simp only [qV, vU, Bool.or_eq_true, not_or, Bool.and_eq_true, Bool.not_eq_true', decide_eq_true_eq, not_and, Bool.not_eq_true] at h1 h2
  rcases aHM h20 with rfl | rfl | rfl | rfl | rfl | rfl | rfl | rfl | rfl | rfl | rfl | rfl | rfl | rfl | rfl | rfl | rfl | rfl | rfl | rfl
  all_goals (
   simp [eW, gT, lY] at h1 h2
   simp [gT] at h
   constructor <;> simp <;> omega)
 ·rw [tP h20] at h; simp at h
theorem aDW {R n : Int} (hR : 0 ≤ R) : ∀ {l : List WI} {j : Nat}, pE R n l j = .ok → ∀ i ∈ l, i.Ok R.toNat n.toNat
 | [], _, _, i, hi => by cases hi
 | x :: l, j, h, i, hi => by
  unfold pE at h
  split at h
  ·cases h
  ·rename_i ho
   rcases List.mem_cons.1 hi with rfl | hi
   ·exact aEo ho hR
   ·exact aDW hR h i hi
theorem nN {cs : List WI} {R M : Int} (h : fV cs R M = .ok) : (0 ≤ R ∧ R ≤ 65536 ∧ 0 ≤ M ∧ M ≤ 65536 ∧ cs.length ≤ 262144) ∧ ∀ j, j < cs.length → (cs.getD j default).Ok R.toNat cs.length := by
 unfold fV at h
 by_cases h1 : 262144 < cs.length
 ·rw [if_pos h1] at h; cases h
 rw [if_neg h1] at h
 by_cases h2 : R < 0 ∨ 65536 < R ∨ M < 0 ∨ 65536 < M
 ·rw [if_pos h2] at h; cases h
 rw [if_neg h2] at h
 refine ⟨by omega, fun j hj => ?_⟩
 have := aDW (by omega) h (cs.getD j default) (by simp [List.getD, List.getElem?_eq_getElem hj])
 rwa [Int.toNat_natCast] at this
def ftV (c : Int) (p : Bool) (j : Int) : AV := .agg [I6 c, .bool p, I6 j]
inductive Cls : Frm → Int → Prop
 | c1 : Cls ⟨true, false, false, false, true⟩ 1
 | c2 : Cls ⟨true, true, false, false, false⟩ 0
 | c3 : Cls ⟨true, true, true, false, false⟩ 0
 | c4 : Cls ⟨true, true, false, false, true⟩ 2
 | c5 : Cls ⟨true, true, true, true, false⟩ 0
 | c6 : Cls ⟨true, true, false, false, true⟩ 3
 | c7 : Cls ⟨false, true, true, false, true⟩ 3
 | c8 : Cls ⟨false, false, false, false, true⟩ 4
 | c9 : Cls ⟨false, true, false, false, true⟩ 4
 | c10 : Cls ⟨false, false, false, false, true⟩ 5
section
variable (G : aE) (k : Nat) (self : cQ) (cs : List WI) (R M : Int)
abbrev f0 : AV := ftV 0 false 0
end
section
variable (G : aE) (k : Nat) (self : cQ) (cs : List WI) (R M : Int)
end
def VE.low : VE → Prop
 | .ok => True
 | .bare e => e < 6
 | .at_ j e => e < 6
section
variable (G : aE) (s : MS) (wr : Int) (x : AV)
end
structure WI.Ok2 (i : WI) (R n : Nat) : Prop where
 ok : i.Ok R n
 sh : 10 ≤ i.op → i.op ≤ 12 → 0 ≤ i.k ∧ i.k ≤ 63
 ha : 0 ≤ i.a ∧ i.a ≤ R
 hb : 0 ≤ i.b ∧ i.b ≤ R
theorem aBk {op n : Int} {a b c : Nat} (h : 1 ≤ op ∧ op ≤ 14) (hs : 10 ≤ op → op ≤ 12 → 0 ≤ n ∧ n ≤ 63) : (kL op n a b c).2 = true := by
 by_cases e : op = 10 ∨ op = 11 ∨ op = 12
 ·have := hs (by omega) (by omega)
  have e2 : kL op n a b c = jG op n a := by
   unfold kL
   simp (disch := omega) only [if_neg, if_pos]
  rw [e2]
  unfold jG
  rw [if_neg (by omega)]
  split
  ·rfl
  ·split <;> rfl
 ·have : op = 1 ∨ op = 2 ∨ op = 3 ∨ op = 4 ∨ op = 5 ∨ op = 6 ∨ op = 7 ∨ op = 8 ∨ op = 9 ∨ op = 13 ∨ op = 14 := by omega
  rcases this with rfl | rfl | rfl | rfl | rfl | rfl | rfl | rfl | rfl | rfl | rfl <;> simp [kL]
theorem aGg {i : WI} {R n : Int} (h : gM i R n = none) (hR : 0 ≤ R) : i.Ok2 R.toNat n.toNat := by
 have h0 := aEo h hR
 unfold gM at h
 have h20 := h0.op
 by_cases h1 : qV (eW i.op) i R = true
 ·rw [if_pos h1] at h; split at h <;> cases h
 rw [if_neg h1] at h
 by_cases h2 : vU (eW i.op) i = true
 ·rw [if_pos h2] at h; split at h <;> cases h
 rw [if_neg h2] at h
 obtain ⟨op, d, a, b, c, kk⟩ := i
 simp only at h h1 h2 h20
 simp only [qV, vU, Bool.or_eq_true, not_or, Bool.and_eq_true, Bool.not_eq_true', decide_eq_true_eq, not_and, Bool.not_eq_true] at h1 h2
 rcases aHM h20 with rfl | rfl | rfl | rfl | rfl | rfl | rfl | rfl | rfl | rfl | rfl | rfl | rfl | rfl | rfl | rfl | rfl | rfl | rfl | rfl
 all_goals (
  simp [eW, gT, lY] at h1 h2
  simp [gT] at h
  exact ⟨h0, by simp; try omega, by simp; omega, by simp; omega⟩)
section
variable (G : aE) (k : Nat) (self : cQ) (fuel : Int) (bc bor : Bool) (cs : List WI) (R : Nat) (s : MS) (wr : Int)
end
section
variable (G : aE) (k : Nat) (self : cQ) (fuel : Int) (bc bor : Bool) (cs : List WI) (R : Nat) (wr : Int)
end
theorem nQ (G : aE) (k : Nat) (self : cQ) (p q : Bool) (a : List Nat) (hla : a.length ≤ 1000000) : ∀ (suf pre : List Nat) (f : Nat), a = pre ++ suf → suf.length < f →
  cM (aQ.l4 G k 0 self) f [.ro p (dF a), .ro q (dF a), .bool false, Nn pre.length] [] = some (.exit 0, [.ro p (dF a), .ro q (dF a), .bool false, Nn a.length], [])
 | suf, pre, 0, hm, hf => by omega
 | [], pre, f + 1, hm, hf => by
  rw [aX, aQ.l4]
  have hl : a = pre := by rw [hm]; simp
  have hc : fD 0 [.ro p (dF a), .ro q (dF a), .bool false, Nn pre.length] [] = some [] := by simp [fD, aY, aT, bI, iK]
  have lc : bE (.ro p (dF a)) = some (I6 a.length) := by simp [bE, hX]
  have qq : bA Tryd.prog .lss 3 false (Nn pre.length) (Nn a.length) = some (.bool false) := by rw [iB, decide_eq_false (by rw [hl]; omega)]
  refine fT ?_
  refine eC hc ?_
  have fx := aKM lc <| qq
  refine uK ?_
  rw [hl]
  refine gJ ?_; rfl
 | x :: suf, pre, f + 1, hm, hf => by
  rw [aX, aQ.l4]
  have hl : a.length = pre.length + (suf.length + 1) := by rw [hm]; simp
  have hc : fD 0 [.ro p (dF a), .ro q (dF a), .bool false, Nn pre.length] [] = some [] := by simp [fD, aY, aT, bI, iK]
  have lc : bE (.ro p (dF a)) = some (I6 a.length) := by simp [bE, hX]
  have qq : bA Tryd.prog .lss 3 false (Nn pre.length) (Nn a.length) = some (.bool true) := by rw [iB, decide_eq_true (by omega)]
  have ha : a.getD pre.length 0 = x := by rw [hm]; simp [List.getD]
  have d1 : ∀ b, aF 1 (.ro b (dF a)) (Nn pre.length) = some (.rp b (Un x) 0) := fun b => by
   have := nI a pre.length (by omega)
   rw [ha] at this
   exact rQ this rfl
  have d2 : ∀ b H, aG G false 1 (.rp b (Un x) 0) H = some (Un x) := fun b H => rfl
  have d4 : bA Tryd.prog .add 3 true (Nn pre.length) (.int .i64 1) = some (Nn (pre ++ [x]).length) := by
   rw [iE, dY (by omega) (by omega)]; congr 2; simp
  have d5 : bA Tryd.prog .eql 30 false (Un x) (Un x) = some (.bool true) := iO rfl
  have ih := nQ G k self p q a hla suf (pre ++ [x]) f (by rw [hm]; simp) (by simp at hf; omega)
  refine fT ?_
  refine eC hc ?_
  have fx := aKM lc <| aKM qq <| aKM d1 <| aKM d2 <| aKM d4 <| d5
  refine uK ?_
  exact ih
theorem uI (G : aE) (k : Nat) (p q : Bool) (a : List Nat) (hla : a.length ≤ 1000000) (hk : a.length < k) : aQ.f G (k + 1) [.ro p (dF a), .ro q (dF a)] [] = some (.bool true, []) := by
 rw [aQ.step]
 unfold aQ.c
 have lc : ∀ b, bE (.ro b (dF a)) = some (I6 a.length) := fun b => by simp [bE, hX]
 have lp : cM (aQ.l4 G k 0 (aQ.f G k)) k [.ro p (dF a), .ro q (dF a), .bool false, .int .i64 0] [] = _ := nQ G k (aQ.f G k) p q a hla a [] k rfl hk
 refine gY ?_
 have fx := lc
 have lx1 := lp
 refine uK ?_
 exact w1b rfl
theorem nP (G : aE) (k : Nat) (self : cQ) (p q : Bool) (a : List (Int × Int)) (hla : a.length ≤ 1000000) : ∀ (suf pre : List (Int × Int)) (f : Nat), a = pre ++ suf → suf.length < f →
  cM (aP.l4 G (k + 1) 0 self) f [.ro p (eY a), .ro q (eY a), .bool false, Nn pre.length] [] = some (.exit 0, [.ro p (eY a), .ro q (eY a), .bool false, Nn a.length], [])
 | suf, pre, 0, hm, hf => by omega
 | [], pre, f + 1, hm, hf => by
  rw [aX, aP.l4]
  have hl : a = pre := by rw [hm]; simp
  have hc : fD 0 [.ro p (eY a), .ro q (eY a), .bool false, Nn pre.length] [] = some [] := by simp [fD, aY, aT, bI, jR]
  have lc : bE (.ro p (eY a)) = some (I6 a.length) := by simp [bE, iJ]
  have qq : bA Tryd.prog .lss 3 false (Nn pre.length) (Nn a.length) = some (.bool false) := by rw [iB, decide_eq_false (by rw [hl]; omega)]
  refine fT ?_
  refine eC hc ?_
  have fx := aKM lc <| qq
  refine uK ?_
  rw [hl]
  refine gJ ?_; rfl
 | x :: suf, pre, f + 1, hm, hf => by
  rw [aX, aP.l4]
  have hl : a.length = pre.length + (suf.length + 1) := by rw [hm]; simp
  have hc : fD 0 [.ro p (eY a), .ro q (eY a), .bool false, Nn pre.length] [] = some [] := by simp [fD, aY, aT, bI, jR]
  have lc : bE (.ro p (eY a)) = some (I6 a.length) := by simp [bE, iJ]
  have qq : bA Tryd.prog .lss 3 false (Nn pre.length) (Nn a.length) = some (.bool true) := by rw [iB, decide_eq_true (by omega)]
  have ha : (eY a)[pre.length]? = some (lF x) := by rw [hm]; simp [eY]
  have d1 : ∀ b, aF 2 (.ro b (eY a)) (Nn pre.length) = some (.rp b (lF x) 0) := fun b => by
   unfold aF
   have h0 : (0 : Int) ≤ (pre.length : Int) := by omega
   simp only [h0, if_true, Int.toNat_natCast, ha]
   rfl
  have d2 : ∀ b H, aG G true 2 (.rp b (lF x) 0) H = some (lF x) := fun b H => rfl
  have d4 : bA Tryd.prog .add 3 true (Nn pre.length) (.int .i64 1) = some (Nn (pre ++ [x]).length) := by
   rw [iE, dY (by omega) (by omega)]; congr 2; simp
  have s1 : bC.f G (k + 1) [lF x, lF x] [] = some (.bool true, []) := by
   rw [bC.step]
   unfold bC.c lF
   refine gY ?_
   have fx := True.intro
   refine uK ?_
   exact w1b rfl
  have d5 : ∀ H, aW (bC.f G (k + 1)) [lF x, lF x] H = _ := fun H => cJ (H := H) s1 rfl rfl
  have ih := nP G k self p q a hla suf (pre ++ [x]) f (by rw [hm]; simp) (by simp at hf; omega)
  refine fT ?_
  refine eC hc ?_
  have fx := aKM lc <| aKM qq <| aKM d1 <| aKM d2 <| aKM d4 <| d5
  refine uK ?_
  exact ih
theorem uH (G : aE) (k : Nat) (p q : Bool) (a : List (Int × Int)) (hla : a.length ≤ 1000000) (hk : a.length < k + 1) : aP.f G (k + 2) [.ro p (eY a), .ro q (eY a)] [] = some (.bool true, []) := by
 rw [aP.step]
 unfold aP.c
 have lc : ∀ b, bE (.ro b (eY a)) = some (I6 a.length) := fun b => by simp [bE, iJ]
 have lp : cM (aP.l4 G (k + 1) 0 (aP.f G (k + 1))) (k + 1) [.ro p (eY a), .ro q (eY a), .bool false, .int .i64 0] [] = _ := nP G k (aP.f G (k + 1)) p q a hla a [] (k + 1) rfl hk
 refine gY ?_
 have fx := lc
 have lx1 := lp
 refine uK ?_
 exact w1b rfl
theorem aGf {x : AV} {t e : TypeId} (hu : Tryd.prog.underlying t = some (.slice e)) (he : Tryd.prog.underlying e = some (.int .u64)) (h : IsT Tryd.prog t x) :
  ∃ l : List Nat, x = .ro false (dF l) ∧ (∀ n ∈ l, n < 18446744073709551616) := by
 obtain ⟨l, rfl, hw, hl⟩ := h.of_ints hu he
 refine ⟨l.map Int.toNat, ?_, ?_⟩
 ·unfold dF
  rw [List.map_map]
  congr 1
  apply List.map_congr_left
  intro n hn
  obtain ⟨h1, h2⟩ := aGU (hw n hn)
  show AV.int .u64 n = AV.int .u64 ((n.toNat : Nat) : Int)
  rw [Int.toNat_of_nonneg h1]
 ·intro n hn
  obtain ⟨z, hz, rfl⟩ := List.mem_map.1 hn
  have := aGU (hw z hz)
  omega
theorem aJb {x : AV} (h : IsT Tryd.prog 29 x) : ∃ i : WI, x = i.v ∧ (-9223372036854775808 ≤ i.k ∧ i.k < 9223372036854775808) := by
 obtain ⟨cs, rfl, hf⟩ := h.of_struct Tryd.underlying29
 cases hf with
 | cons h1 hf =>
 cases hf with
 | cons h2 hf =>
 cases hf with
 | cons h3 hf =>
 cases hf with
 | cons h4 hf =>
 cases hf with
 | cons h5 hf =>
 cases hf with
 | cons h6 hf =>
 cases hf with
 | nil =>
 obtain ⟨a, rfl, _⟩ := h1.of_int (k := .i64) Tryd.underlying3
 obtain ⟨b, rfl, _⟩ := h2.of_int (k := .i64) Tryd.underlying3
 obtain ⟨c, rfl, _⟩ := h3.of_int (k := .i64) Tryd.underlying3
 obtain ⟨d, rfl, _⟩ := h4.of_int (k := .i64) Tryd.underlying3
 obtain ⟨e, rfl, _⟩ := h5.of_int (k := .i64) Tryd.underlying3
 obtain ⟨f, rfl, hw⟩ := h6.of_int (k := .i64) Tryd.underlying2
 exact ⟨⟨a, b, c, d, e, f⟩, rfl, aDK hw⟩
theorem aEn {α : Type} {P : AV → Prop} {e : α → AV} {Q : α → Prop} (h : ∀ x, P x → ∃ a, x = e a ∧ Q a) : ∀ xs : List AV, (∀ x ∈ xs, P x) → ∃ l : List α, xs = l.map e ∧ ∀ a ∈ l, Q a
 | [], _ => ⟨[], rfl, fun a h => by cases h⟩
 | x :: xs, hx => by
  obtain ⟨a, rfl, ha⟩ := h x (hx x (by simp))
  obtain ⟨l, rfl, hl⟩ := aEn h xs (fun y hy => hx y (by simp [hy]))
  refine ⟨a :: l, rfl, fun b hb => ?_⟩
  rcases List.mem_cons.1 hb with rfl | hb
  ·exact ha
  ·exact hl b hb
theorem aHL {x : AV} (h : IsT Tryd.prog 27 x) : ∃ (cs : List WI) (R M : Int), x = cV false cs R M ∧ (-9223372036854775808 ≤ R ∧ R < 9223372036854775808) ∧ (-9223372036854775808 ≤ M ∧ M < 9223372036854775808) := by
 obtain ⟨cs, rfl, hf⟩ := h.of_struct Tryd.underlying27
 cases hf with
 | cons h1 hf =>
 cases hf with
 | cons h2 hf =>
 cases hf with
 | cons h3 hf =>
 cases hf with
 | nil =>
 obtain ⟨xs, rfl, hx, _⟩ := h1.of_slice Tryd.underlying25
 obtain ⟨l, rfl, _⟩ := aEn (e := WI.v) (fun x hx => aJb hx) xs hx
 obtain ⟨R, rfl, hR⟩ := h2.of_int (k := .i64) Tryd.underlying3
 obtain ⟨M, rfl, hM⟩ := h3.of_int (k := .i64) Tryd.underlying3
 exact ⟨l, R, M, rfl, aDK hR, aDK hM⟩
theorem uD (cs : List WI) (fuel : Int) : ∀ (f : Nat) (s s' : MS), kX cs fuel f s = some s' → ∀ d, kX cs fuel (f + d) s = some s'
 | 0, s, s', h, d => by simp [kX] at h
 | f + 1, s, s', h, d => by
  rw [show f + 1 + d = (f + d) + 1 by omega]
  simp only [kX] at h ⊢
  by_cases h1 : cs.length ≤ s.at_
  ·rw [if_pos h1] at h ⊢; exact h
  rw [if_neg h1] at h ⊢
  by_cases h2 : (s.steps : Int) = fuel
  ·rw [if_pos h2] at h ⊢; exact h
  rw [if_neg h2] at h ⊢
  obtain ⟨s2, b, hsb⟩ : ∃ s2 b, s.tick.step (cs.getD s.at_ default) = (s2, b) := ⟨_, _, rfl⟩
  rw [hsb] at h ⊢
  cases b
  ·exact h
  ·exact uD cs fuel f s2 s' h d
theorem aEB (cs : List WI) (fuel : Int) (R : Nat) (hf : fuel ≤ 99999) (hcs : ∀ j, j < cs.length → (cs.getD j default).Ok R cs.length) : ∀ (f : Nat) (s s' : MS), kX cs fuel f s = some s' → s.Ok R → s.at_ ≤ cs.length → (s.steps : Int) ≤ fuel →
  s'.Ok R ∧ (s'.steps : Int) ≤ fuel ∧ s'.mem.length = s.mem.length
 | 0, s, s', h, _, _, _ => by simp [kX] at h
 | f + 1, s, s', h, hs, hat, hst => by
  simp only [kX] at h
  by_cases h1 : cs.length ≤ s.at_
  ·rw [if_pos h1] at h; simp only [Option.some.injEq] at h; subst h
   exact ⟨⟨hs.len, hs.regs, hs.mem, hs.leaks, hs.big, hs.few⟩, hst, rfl⟩
  rw [if_neg h1] at h
  by_cases h2 : (s.steps : Int) = fuel
  ·rw [if_pos h2] at h; simp only [Option.some.injEq] at h; subst h
   exact ⟨⟨hs.len, hs.regs, hs.mem, hs.leaks, hs.big, hs.few⟩, hst, rfl⟩
  rw [if_neg h2] at h
  have okt : s.tick.Ok R := ⟨hs.len, hs.regs, hs.mem, by have := hs.leaks; simp [MS.tick, MS.leak]; omega, hs.big, by simp [MS.tick, MS.leak]; omega⟩
  obtain ⟨o1, o2, o3, o4⟩ := MS.step_ok okt (hcs s.at_ (by omega)) (by have := hs.leaks; simp [MS.tick, MS.leak]; omega) (show s.tick.at_ < cs.length from by show s.at_ < _; omega)
  have tst : s.tick.steps = s.steps + 1 := rfl
  have tm : s.tick.mem = s.mem := rfl
  obtain ⟨s2, b, hsb⟩ : ∃ s2 b, s.tick.step (cs.getD s.at_ default) = (s2, b) := ⟨_, _, rfl⟩
  rw [hsb] at h o1 o2 o3 o4
  simp only at h o1 o2 o3 o4
  cases b
  ·simp only [Option.some.injEq] at h
   subst h
   exact ⟨o1, by rw [o3, tst]; omega, by rw [o4, tm]⟩
  ·obtain ⟨r1, r2, r3⟩ := aEB cs fuel R hf hcs f s2 s' h o1 o2 (by rw [o3, tst]; omega)
   exact ⟨r1, r2, by rw [r3, o4, tm]⟩
def bF (l : List Nat) : List AV := l.map fun n => Nn n
theorem dM (l : List Nat) : (bF l).length = l.length := by simp [bF]
theorem dX (n : Nat) (l : List Nat) : aY n (bF l) = true := iG n _ (fun _ => rfl) l
theorem kC (l : List Nat) (j : Nat) (h : j < l.length) : (bF l)[j]? = some (Nn (l.getD j 0)) := by
 unfold bF
 rw [List.getElem?_map, List.getElem?_eq_getElem h, List.getD_eq_getElem?_getD, List.getElem?_eq_getElem h]; rfl
theorem aFf (l : List Nat) (j x : Nat) : (bF l).set j (Nn x) = bF (l.set j x) := by
 unfold bF
 rw [List.map_set]
structure SH (H : aA) (p q r n : Nat) (us : List Int) : Prop where
 hp : p < H.length
 pq : p ≠ q
 pr : p ≠ r
 hq : H[q]? = some ⟨49, 1, [.sl r n 0 n 1]⟩
 hr : H[r]? = some ⟨3, 1, us.map fun u => I6 u⟩
 hu : us.length = n
 hb : bI H.length H = true
def SO (H : aA) (p : Nat) (l : List Nat) : aA := H.set p ⟨3, 1, bF l⟩
theorem mJ (H : aA) (p : Nat) (l : List Nat) : (SO H p l).length = H.length := by simp [SO]
theorem aFB (H : aA) (p : Nat) (l m : List Nat) : (SO H p l).set p ⟨3, 1, bF m⟩ = SO H p m := by simp [SO]
theorem aIG {H : aA} {p : Nat} (hp : p < H.length) (l : List Nat) : (SO H p l)[p]? = some ⟨3, 1, bF l⟩ := by simp [SO, hp]
theorem mM {n : Nat} {b : ABlk} (hb : aY n b.elems = true) : ∀ (H : aA) (p : Nat), bI n H = true → bI n (H.set p b) = true
 | [], p, h => by simp [bI]
 | x :: H, 0, h => by
  simp only [bI, Bool.and_eq_true] at h
  simp only [List.set_cons_zero, bI, hb, h.2, Bool.and_self]
 | x :: H, p + 1, h => by
  simp only [bI, Bool.and_eq_true] at h
  simp only [List.set_cons_succ, bI, h.1, mM hb H p h.2, Bool.and_self]
theorem mI {H : aA} {p : Nat} (hb : bI H.length H = true) (l : List Nat) (xs : List AV) (hx : aY H.length xs = true) : fD H.length xs (SO H p l) = some (SO H p l) := by
 unfold fD
 have e : (SO H p l).take H.length = SO H p l := List.take_of_length_le (by rw [mJ]; exact Nat.le_refl _)
 rw [e, hx]
 have : bI H.length (SO H p l) = true := mM (b := ⟨3, 1, bF l⟩) (dX _ l) H p hb
 rw [this]; rfl
section
variable (G : aE) (k : Nat) (self : cQ) {H : aA} {p q r n : Nat} {us : List Int} (hS : SH H p q r n us)
theorem kI {i : Nat} (h : i < n) : aF 1 (.sl p n 0 n 1) (Nn i) = some (.ptr p n i 0) := by
 unfold aF
 simp only [Int.toNat_natCast, Nat.zero_add]
 rw [if_pos (by omega), if_pos trivial]
abbrev dS (p n : Nat) : AV := .sl p n 0 n 1
def yM (l : List Nat) (i j : Nat) : List Nat := (l.set i (l.getD j 0)).set j (l.getD i 0)
theorem aFp (l : List Nat) (i j : Nat) : (yM l i j).length = l.length := by simp [yM]
theorem aDD (l : List Nat) (i j : Nat) (hi : i < l.length) (hj : j < l.length) : (yM l i j).Perm l := by
 unfold yM
 rw [List.getD_eq_getElem?_getD, List.getD_eq_getElem?_getD, List.getElem?_eq_getElem hi, List.getElem?_eq_getElem hj]
 exact List.set_set_perm hi hj
end
section
variable (G : aE) (k : Nat) (self : cQ) {H : aA} {p q r n : Nat} {us : List Int} (hS : SH H p q r n us)
theorem aDl {g : cQ} {args : List AV} {l l' : List Nat} (h : g args (SO H p l) = some (.tup [], SO H p l')) : cZ g args (SO H p l) = some (.tup [], SO H p l') := by
 unfold cZ; rw [h]; simp only [mJ, Nat.le_refl, if_true]
end
section
variable (G : aE) (k : Nat) (self : cQ) {H : aA} {p q r n : Nat} {us : List Int} (hS : SH H p q r n us)
theorem aEk {c : Bool} {a b : Nat} (h : b ≤ a) (h2 : a ≤ 100000) : bA Tryd.prog .sub 3 c (Nn a) (Nn b) = some (Nn (a - b : Nat)) := by
 rw [kT, dY (by omega) (by omega)]; congr 2; omega
theorem jS {c : Bool} {a : Nat} (h : a ≤ 100000) : bA Tryd.prog .add 3 c (Nn a) (.int .i64 1) = some (Nn (a + 1 : Nat)) := by
 rw [iE, dY (by omega) (by omega)]; congr 2
theorem aHI {c : Bool} {a b : Nat} (h : a ≠ b) : bA Tryd.prog .neq 3 c (Nn a) (Nn b) = some (.bool true) := tH (by omega)
theorem aHH {c : Bool} {a b : Nat} (h : a = b) : bA Tryd.prog .neq 3 c (Nn a) (Nn b) = some (.bool false) := mD (by omega)
end
section
variable (G : aE) (k : Nat) (self : cQ) {H : aA} {p q r n : Nat} {us : List Int} (hS : SH H p q r n us)
end
section
variable (G : aE) {H : aA} {p q r n : Nat} {us : List Int} (hS : SH H p q r n us)
theorem aGe {c : Bool} {a b : Nat} (h : a = b) : bA Tryd.prog .eql 3 c (Nn a) (Nn b) = some (.bool true) := iO (by omega)
theorem aGd {c : Bool} {a b : Nat} (h : a ≠ b) : bA Tryd.prog .eql 3 c (Nn a) (Nn b) = some (.bool false) := jB (by omega)
end
section
variable (G : aE) (k : Nat) (self : cQ) {H : aA} {p q r n : Nat} {us : List Int} (hS : SH H p q r n us)
end
structure SB (H : aA) (p : Nat) : Prop where
 hp : p < H.length
 hb : bI H.length H = true
section
variable (G : aE) (k : Nat) (self : cQ) {H : aA} {p n : Nat} (hS : SB H p)
include hS in
theorem jW {l : List Nat} (hl : l.length = n) {i : Nat} (h : i < n) : aG G false 1 (.ptr p n i 0) (SO H p l) = some (Nn (l.getD i 0)) := by
 unfold aG
 simp only [aIG hS.hp l, dM, hl, if_true, kC l i (by omega)]
 rfl
include hS in
theorem nT {l : List Nat} (hl : l.length = n) {i : Nat} (h : i < n) (x : Nat) : gB (aV 1 (.ptr p n i 0) (Nn x) (SO H p l)) = some (.tup [], SO H p (l.set i x)) := by
 have e : aV 1 (.ptr p n i 0) (Nn x) (SO H p l) = some (SO H p (l.set i x)) := by
  unfold aV
  simp only [aIG hS.hp l, dM, hl]
  rw [if_pos ⟨trivial, rfl, rfl⟩]
  simp only [kC l i (by omega)]
  rw [if_pos (by show 0 + 1 ≤ 1; omega)]
  have : dQ (Nn (l.getD i 0)) (fX (Nn (l.getD i 0)).cells 0 (Nn x).cells) = Nn x := rfl
  rw [this, aFf, aFB]
 rw [e]; rfl
theorem rT (x : Nat) : bL.f G (k + 1) [Nn x] [] = some (.bool false, []) := by
 have g : bA Tryd.prog .neq 3 false (Nn x) (Nn x) = some (.bool false) := mD rfl
 rw [bL.step]
 unfold bL.c
 refine gY ?_
 have fx := g
 refine fZ ?_
 exact w1b rfl
theorem tV (x y : Nat) : bS.f G (k + 2) [Nn x, Nn y] [] = some (.bool (decide (x < y)), []) := by
 have r1 : ∀ H, aW (bL.f G (k + 1)) [Nn x] H = _ := fun H => cJ (H := H) (rT G k x) rfl rfl
 have g : bA Tryd.prog .lss 3 false (Nn x) (Nn y) = some (.bool (decide (x < y))) := by
  rw [iB]
  congr 2
  exact decide_eq_decide.2 (by omega)
 rw [bS.step]
 unfold bS.c
 refine gY ?_
 generalize decide (x < y) = b at *
 have fx := aKM r1 <| g
 refine fZ ?_
 exact w1b rfl
def zH (p n a b i j : Nat) : List AV := [dS p n, Nn a, Nn b, Nn i, Nn j]
def ys1 (p n a b i : Nat) : List AV := [dS p n, Nn a, Nn b, Nn i]
include hS in
theorem qT (n a b i j : Nat) : aY H.length (zH p n a b i j) = true := by
 have h1 : decide (p < H.length) = true := decide_eq_true hS.hp
 simp only [zH, dS, aY, aT, h1, Bool.and_self]
include hS in
theorem nR (n a b i : Nat) : aY H.length (ys1 p n a b i) = true := by
 have h1 : decide (p < H.length) = true := decide_eq_true hS.hp
 simp only [ys1, dS, aY, aT, h1, Bool.and_self]
include hS in
theorem xF (hn : n ≤ 1000) (a b i : Nat) : ∀ (j f : Nat) (l : List Nat), l.length = n → j < n → j < f →
  ∃ (j' : Nat) (l' : List Nat), cM (aD.l4 G (k + 2) H.length self) f (zH p n a b i j) (SO H p l) = some (.exit 2, zH p n a b i j', SO H p l') ∧ l'.Perm l
 | j, 0, l, _, _, h => by omega
 | j, f + 1, l, hl, hj, hf => by
  have hc : fD H.length (zH p n a b i j) (SO H p l) = some (SO H p l) := mI hS.hb l _ (qT hS n a b i j)
  by_cases ha : a < j
  ·have g1 : bA Tryd.prog .gtr 3 false (Nn j) (Nn a) = some (.bool true) := oH (by omega)
   have d1 : aF 1 (.sl p n 0 n 1) (Nn j) = some (.ptr p n j 0) := kI hj
   have d2 : aF 1 (.sl p n 0 n 1) (Nn (j - 1 : Nat)) = some (.ptr p n (j - 1) 0) := kI (by omega)
   have l1 := jW G hS hl hj
   have l2 := jW G hS hl (i := j - 1) (by omega)
   have m1 : bA Tryd.prog .sub 3 true (Nn j) (.int .i64 1) = some (Nn (j - 1 : Nat)) := by
    rw [kT, dY (by omega) (by omega)]; congr 2; omega
   have r1 : ∀ H, aW (bS.f G (k + 2)) [Nn (l.getD j 0), Nn (l.getD (j - 1) 0)] H = _ := fun H => cJ (H := H) (tV G k (l.getD j 0) (l.getD (j - 1) 0)) rfl rfl
   by_cases hcn : l.getD j 0 < l.getD (j - 1) 0
   ·rw [decide_eq_true hcn] at r1
    have s1 := nT hS hl hj (l.getD (j - 1) 0)
    have hl2 : (l.set j (l.getD (j - 1) 0)).length = n := by simp [hl]
    have s2 := nT hS hl2 (i := j - 1) (by omega) (l.getD j 0)
    have hsw : (l.set j (l.getD (j - 1) 0)).set (j - 1) (l.getD j 0) = yM l j (j - 1) := rfl
    rw [hsw] at s2
    have hp := aDD l j (j - 1) (by omega) (by omega)
    obtain ⟨j', l', h1, h2⟩ := xF hn a b i (j - 1) f (yM l j (j - 1)) (by rw [aFp]; exact hl) (by omega) (by omega)
    refine ⟨j', l', ?_, h2.trans hp⟩
    rw [aX, aD.l4]
    refine fT ?_
    refine eC hc ?_
    unfold zH at h1 ⊢
    generalize yM l j (j - 1) = ls at *
    generalize l.getD j 0 = y1 at *
    generalize l.getD (j - 1) 0 = y2 at *
    have fx := aKM g1 <| aKM d1 <| aKM d2 <| aKM l1 <| aKM l2 <| aKM m1 <| aKM r1 <| aKM s1 <| s2
    refine fZ ?_
    exact h1
   ·rw [decide_eq_false hcn] at r1
    refine ⟨j, l, ?_, List.Perm.refl _⟩
    rw [aX, aD.l4]
    refine fT ?_
    refine eC hc ?_
    unfold zH
    clear hcn
    generalize l.getD j 0 = y1 at *
    generalize l.getD (j - 1) 0 = y2 at *
    have fx := aKM g1 <| aKM d1 <| aKM d2 <| aKM l1 <| aKM l2 <| aKM m1 <| r1
    refine fZ ?_
    refine gJ ?_; rfl
  ·have g1 : bA Tryd.prog .gtr 3 false (Nn j) (Nn a) = some (.bool false) := kF (by omega)
   refine ⟨j, l, ?_, List.Perm.refl _⟩
   rw [aX, aD.l4]
   refine fT ?_
   refine eC hc ?_
   unfold zH
   have fx := g1
   refine fZ ?_
   refine gJ ?_; rfl
include hS in
theorem aDj (l : List Nat) : cP [] H.length (SO H p l) = some (.ret, [.tup []], SO H p l) := by
 unfold cP
 rw [mI hS.hb l _ rfl]; rfl
include hS in
theorem xE (hn : n ≤ 1000) (hk : n < k) (a b : Nat) (hb : b ≤ n) : ∀ (d i f : Nat) (l : List Nat), i + d = max i b → l.length = n → d < f →
  ∃ (i' : Nat) (l' : List Nat), cM (aD.l1 G (k + 2) H.length self) f (ys1 p n a b i) (SO H p l) = some (.exit 0, ys1 p n a b i', SO H p l') ∧ l'.Perm l
 | d, i, 0, l, _, _, h => by omega
 | 0, i, f + 1, l, hd, hl, hf => by
  have hc : fD H.length (ys1 p n a b i) (SO H p l) = some (SO H p l) := mI hS.hb l _ (nR hS n a b i)
  have g1 : bA Tryd.prog .lss 3 false (Nn i) (Nn b) = some (.bool false) := fM (by omega)
  refine ⟨i, l, ?_, List.Perm.refl _⟩
  rw [aX, aD.l1]
  refine fT ?_
  refine eC hc ?_
  unfold ys1
  have fx := g1
  refine fZ ?_
  refine gJ ?_; rfl
 | d + 1, i, f + 1, l, hd, hl, hf => by
  have hc : fD H.length (ys1 p n a b i) (SO H p l) = some (SO H p l) := mI hS.hb l _ (nR hS n a b i)
  have hib : i < b := by omega
  have g1 : bA Tryd.prog .lss 3 false (Nn i) (Nn b) = some (.bool true) := gA (by omega)
  obtain ⟨j', l1, hl4, hp⟩ := xF G k self hS hn a b i i (k + 2) l hl (by omega) (by omega)
  obtain ⟨i', l', h1, h2⟩ := xE hn hk a b hb d (i + 1) f l1 (by omega) (by rw [hp.length_eq]; exact hl) (by omega)
  refine ⟨i', l', ?_, h2.trans hp⟩
  have q2 : bA Tryd.prog .add 3 true (Nn i) (.int .i64 1) = some (Nn (i + 1)) := by
   rw [iE, dY (by omega) (by omega)]; congr 2
  have hlen := mJ H p l
  rw [aX, aD.l1]
  refine fT ?_
  refine eC hc ?_
  rw [← hlen] at hl4
  unfold ys1 at h1 ⊢
  unfold zH at hl4
  have fx := aKM g1 <| q2
  have lx1 := hl4
  refine fZ ?_
  exact h1
include hS in
theorem xG (hn : n ≤ 1000) (hk : n < k) (a b : Nat) (ha : a ≤ b) (hb : b ≤ n) (l : List Nat) (hl : l.length = n) :
  ∃ l' : List Nat, cZ (aD.f G (k + 3)) [dS p n, Nn a, Nn b] (SO H p l) = some (.tup [], SO H p l') ∧ l'.Perm l := by
 obtain ⟨i', l', h1, h2⟩ := xE G k (aD.f G (k + 2)) hS hn hk a b hb (b - (a + 1)) (a + 1) (k + 2) l (by omega) hl (by omega)
 refine ⟨l', aDl ?_, h2⟩
 rw [aD.step]
 unfold aD.c
 rw [mJ]
 have q1 : bA Tryd.prog .add 3 true (Nn a) (.int .i64 1) = some (Nn (a + 1 : Nat)) := by
  rw [iE, dY (by omega) (by omega)]; congr 2
 have fin := aDj hS l'
 unfold ys1 at h1
 have hlen := mJ H p l
 refine gY ?_
 rw [← hlen] at h1
 have fx := q1
 have lx1 := h1
 refine fZ ?_
 exact oF fin
end
section
variable (G : aE) (k : Nat) (self : cQ) {H : aA} {p n : Nat} (hS : SB H p)
theorem aKp : cY.f G (k + 3) [.int .u64 0] [] = some (.int .i64 0, []) := by kernel_rfl
theorem aKq : cY.f G (k + 3) [.int .u64 1] [] = some (.int .i64 1, []) := by kernel_rfl
theorem len2 : cY.f G (k + 3) [.int .u64 2] [] = some (.int .i64 2, []) := by kernel_rfl
theorem aKr : cY.f G (k + 3) [.int .u64 3] [] = some (.int .i64 2, []) := by kernel_rfl
theorem aBx (n : Nat) (h : n ≤ 3) : ∃ z : Int, cY.f G (k + 3) [.int .u64 (n : Int)] [] = some (.int .i64 z, []) := by
 have : n = 0 ∨ n = 1 ∨ n = 2 ∨ n = 3 := by omega
 rcases this with rfl | rfl | rfl | rfl
 ·exact ⟨0, aKp G k⟩
 ·exact ⟨1, aKq G k⟩
 ·exact ⟨2, len2 G k⟩
 ·exact ⟨2, aKr G k⟩
include hS in
theorem uL (a b : Nat) (z : Int) : aY H.length [dS p n, Nn a, Nn b, I6 z, .bool true, .bool true] = true := by
 have h1 : decide (p < H.length) = true := decide_eq_true hS.hp
 simp only [dS, aY, aT, h1, Bool.and_self]
include hS in
theorem xV (hn : n ≤ 12) (hk : n < k) (z : Int) (l : List Nat) (hl : l.length = n) :
  ∃ l' : List Nat, cZ (aK.f G (k + 4)) [dS p n, .int .i64 0, Nn n, I6 z] (SO H p l) = some (.tup [], SO H p l') ∧ l'.Perm l := by
 have hlen := mJ H p l
 obtain ⟨l', w, pm⟩ := xG G k hS (by omega) hk 0 n (by omega) (Nat.le_refl _) l hl
 refine ⟨l', aDl ?_, pm⟩
 have w' : cZ (aD.f G (k + 3)) [dS p n, .int .i64 0, Nn n] (SO H p l) = some (.tup [], SO H p l') := w
 have hc : fD H.length [dS p n, Nn 0, Nn n, I6 z, .bool true, .bool true] (SO H p l) = some (SO H p l) := mI hS.hb l _ (uL hS 0 n z)
 have hc' : fD H.length [dS p n, .int .i64 0, Nn n, I6 z, .bool true, .bool true] (SO H p l) = some (SO H p l) := hc
 have e1 : bA Tryd.prog .sub 3 false (Nn n) (.int .i64 0) = some (Nn n) := by
  rw [kT, dY (by omega) (by omega), Int.sub_zero]
 have g1 : bA Tryd.prog .leq 3 true (Nn n) (.int .i64 12) = some (.bool true) := wD (by omega)
 have lw : cM (aK.l2 G (k + 3) H.length (aK.f G (k + 3))) (k + 3) [dS p n, .int .i64 0, Nn n, I6 z, .bool true, .bool true] (SO H p l) = some (.ret, [dS p n, .int .i64 0, Nn n, I6 z, .bool true, .bool true], SO H p l') := by
  rw [aX, aK.l2]
  refine fT ?_
  refine eC hc' ?_
  have fx := aKM e1 <| aKM g1 <| w'
  refine fZ ?_
  refine gJ ?_; rfl
 rw [aK.step]
 unfold aK.c
 have fin := aDj hS l'
 rw [← hlen] at lw fin
 refine gY ?_
 have fx := True.intro
 have lx1 := lw
 refine fZ ?_
 exact oF fin
include hS in
theorem few_spec (hn : n ≤ 3) (hk : n < k) (l : List Nat) (hl : l.length = n) :
  ∃ l' : List Nat, cZ (aS.f G (k + 5)) [dS p n] (SO H p l) = some (.tup [], SO H p l') ∧ l'.Perm l := by
 have hlen := mJ H p l
 obtain ⟨z, hz⟩ := aBx G (k + 1) n hn
 obtain ⟨l', w, pm⟩ := xV G k hS (by omega) hk z l hl
 refine ⟨l', aDl ?_, pm⟩
 have ln : bE (dS p n) = some (Nn n) := rfl
 have c1 : fH .u64 (Nn n) = some (.int .u64 (n : Int)) := by
  have : IntKind.u64.wrap (n : Int) = (n : Int) := iL (by omega) (by omega)
  simp only [fH, this]
 have r1 : ∀ H, aW (cY.f G (k + 4)) [.int .u64 (n : Int)] H = _ := fun H => cJ (H := H) hz rfl rfl
 rw [aS.step]
 unfold aS.c
 have fin := aDj hS l'
 rw [← hlen] at fin
 refine gY ?_
 have fx := aKM ln <| aKM c1 <| aKM r1 <| w
 refine fZ ?_
 exact oF fin
end
section
variable (G : aE) (k : Nat) (self : cQ) {H : aA} {p n : Nat} (hS : SB H p) {P : Nat → Prop}
theorem aDQ {o m i : Nat} (h : i < m) : aF 1 (.sl p n o m 1) (Nn i) = some (.ptr p n (o + i) 0) := by
 unfold aF
 simp only [Int.toNat_natCast]
 rw [if_pos (by omega), if_pos trivial]
theorem aAL {l : List Nat} (hl : ∀ x ∈ l, P x) {i : Nat} (h : i < l.length) : P (l.getD i 0) := by
 rw [List.getD_eq_getElem?_getD, List.getElem?_eq_getElem h]
 exact hl _ (List.getElem_mem h)
theorem aJT {l : List Nat} (hl : ∀ x ∈ l, P x) (i : Nat) {y : Nat} (hy : P y) : ∀ x ∈ l.set i y, P x := fun x hx => by
 rcases List.mem_or_eq_of_mem_set hx with h | h
 ·exact hl x h
 ·subst h; exact hy
include hS in
theorem lU (kk kb m i : Nat) : aY H.length [dS p n, Nn kk, .sl p n kb m 1, Nn i] = true := by
 have h1 : decide (p < H.length) = true := decide_eq_true hS.hp
 simp only [dS, aY, aT, h1, Bool.and_self]
include hS in
theorem rM (hn : n ≤ 1000) (kb : Nat) (h0 : 1 ≤ kb) (hb : kb < n) : ∀ (d i kk f : Nat) (l : List Nat), i + d = n - kb → 1 ≤ i → kb ≤ kk → kk < kb + i → l.length = n → (∀ x ∈ l, P x) → d < f →
  ∃ (i' kk' : Nat) (l' : List Nat), cM (aC.l9 G k H.length self) f [dS p n, Nn kk, .sl p n kb (n - kb) 1, Nn i] (SO H p l) = some (.exit 2, [dS p n, Nn kk', .sl p n kb (n - kb) 1, Nn i'], SO H p l') ∧ l'.length = n ∧ (∀ x ∈ l', P x) ∧ kb ≤ kk' ∧ kk' ≤ n
 | d, i, kk, 0, l, _, _, _, _, _, _, h => by omega
 | 0, i, kk, f + 1, l, hd, h1, h2, h3, hl, hP, hf => by
  have hc : fD H.length [dS p n, Nn kk, .sl p n kb (n - kb) 1, Nn i] (SO H p l) = some (SO H p l) := mI hS.hb l _ (lU hS kk kb (n - kb) i)
  have ln : bE (.sl p n kb (n - kb) 1) = some (Nn (n - kb : Nat)) := rfl
  have g1 : bA Tryd.prog .lss 3 false (Nn i) (Nn (n - kb : Nat)) = some (.bool false) := fM (by omega)
  refine ⟨i, kk, l, ?_, hl, hP, h2, by omega⟩
  rw [aX, aC.l9]
  refine fT ?_
  refine eC hc ?_
  have fx := aKM ln <| g1
  refine fZ ?_
  refine gJ ?_; rfl
 | d + 1, i, kk, f + 1, l, hd, h1, h2, h3, hl, hP, hf => by
  have hc : fD H.length [dS p n, Nn kk, .sl p n kb (n - kb) 1, Nn i] (SO H p l) = some (SO H p l) := mI hS.hb l _ (lU hS kk kb (n - kb) i)
  have ln : bE (.sl p n kb (n - kb) 1) = some (Nn (n - kb : Nat)) := rfl
  have g1 : bA Tryd.prog .lss 3 false (Nn i) (Nn (n - kb : Nat)) = some (.bool true) := gA (by omega)
  have d1 : aF 1 (.sl p n kb (n - kb) 1) (Nn i) = some (.ptr p n (kb + i) 0) := aDQ (by omega)
  have e1 : bA Tryd.prog .sub 3 true (Nn i) (.int .i64 1) = some (Nn (i - 1 : Nat)) := aEk (b := 1) (by omega) (by omega)
  have e2 : bA Tryd.prog .add 3 true (Nn i) (.int .i64 1) = some (Nn (i + 1 : Nat)) := jS (by omega)
  have e3 : bA Tryd.prog .add 3 true (Nn kk) (.int .i64 1) = some (Nn (kk + 1 : Nat)) := jS (by omega)
  have d2 : aF 1 (.sl p n kb (n - kb) 1) (Nn (i - 1 : Nat)) = some (.ptr p n (kb + (i - 1)) 0) := aDQ (by omega)
  have d3 : aF 1 (dS p n) (Nn kk) = some (.ptr p n kk 0) := kI (by omega)
  have l1 := jW G hS hl (i := kb + i) (by omega)
  have l2 := jW G hS hl (i := kb + (i - 1)) (by omega)
  have s1 := nT hS hl (i := kk) (by omega) (l.getD (kb + i) 0)
  by_cases hne : l.getD (kb + i) 0 = l.getD (kb + (i - 1)) 0
  ·have g2 : bA Tryd.prog .neq 3 false (Nn (l.getD (kb + i) 0)) (Nn (l.getD (kb + (i - 1)) 0)) = some (.bool false) := aHH hne
   obtain ⟨i', kk', l', w, r1, r2, r3, r4⟩ := rM hn kb h0 hb d (i + 1) kk f l (by omega) (by omega) h2 (by omega) hl hP (by omega)
   refine ⟨i', kk', l', ?_, r1, r2, r3, r4⟩
   rw [aX, aC.l9]
   refine fT ?_
   refine eC hc ?_
   clear hne
   generalize l.getD (kb + i) 0 = y1 at *
   generalize l.getD (kb + (i - 1)) 0 = y2 at *
   have fx := aKM ln <| aKM g1 <| aKM d1 <| aKM e1 <| aKM e2 <| aKM d2 <| aKM l1 <| aKM l2 <| g2
   refine fZ ?_
   exact w
  ·have g2 : bA Tryd.prog .neq 3 false (Nn (l.getD (kb + i) 0)) (Nn (l.getD (kb + (i - 1)) 0)) = some (.bool true) := aHI hne
   obtain ⟨i', kk', l', w, r1, r2, r3, r4⟩ := rM hn kb h0 hb d (i + 1) (kk + 1) f (l.set kk (l.getD (kb + i) 0)) (by omega) (by omega) (by omega) (by omega) (by simp [hl]) (aJT hP kk (aAL hP (by omega))) (by omega)
   refine ⟨i', kk', l', ?_, r1, r2, r3, r4⟩
   rw [aX, aC.l9]
   refine fT ?_
   refine eC hc ?_
   clear hne
   generalize l.set kk (l.getD (kb + i) 0) = ls at *
   generalize l.getD (kb + i) 0 = y1 at *
   generalize l.getD (kb + (i - 1)) 0 = y2 at *
   have fx := aKM ln <| aKM g1 <| aKM d1 <| aKM e1 <| aKM e2 <| aKM e3 <| aKM d2 <| aKM d3 <| aKM l1 <| aKM l2 <| aKM g2 <| s1
   refine fZ ?_
   exact w
include hS in
theorem lS (i : Nat) : aY H.length [dS p n, .nils, Nn i] = true := by
 have h1 : decide (p < H.length) = true := decide_eq_true hS.hp
 simp only [dS, aY, aT, h1, Bool.and_self]
theorem nZ (d i : Nat) : jC d (some (Nn i)) = some i := by simp [jC]
theorem nY (d : Nat) : jC d none = some d := rfl
include hS in
theorem rL {l : List Nat} (hl : l.length = n) {kk : Nat} (h : kk ≤ n) : pG (.int .i64 0) (.sl p n kk (n - kk) 1) (SO H p l) = some (.tup [], SO H p (l.take kk ++ List.replicate (n - kk) 0)) := by
 unfold pG
 simp only [aIG hS.hp l, dM, hl]
 rw [if_pos ⟨trivial, trivial, by omega⟩]
 have e1 : (bF l).take kk ++ (List.replicate (n - kk) (AV.int .i64 0) ++ (bF l).drop (kk + (List.replicate (n - kk) (AV.int .i64 0)).length)) = bF (l.take kk ++ List.replicate (n - kk) 0) := by
  rw [List.length_replicate, List.drop_of_length_le (by rw [dM]; omega), List.append_nil]
  unfold bF
  rw [List.map_append, List.map_take, List.map_replicate]; rfl
 rw [e1, aFB]
include hS in
theorem wX (hn : n ≤ 1000) (hk : n < k) : ∀ (d i f : Nat) (l : List Nat), i + d = n → 1 ≤ i → l.length = n → (∀ x ∈ l, P x) → d < f →
  (cM (aC.l4 G k H.length self) f [dS p n, .nils, Nn i] (SO H p l) = some (.exit 0, [dS p n, .nils, Nn n], SO H p l))
  ∨ ∃ (z : AV) (m : Nat) (l' : List Nat), cM (aC.l4 G k H.length self) f [dS p n, .nils, Nn i] (SO H p l) = some (.ret, [dS p n, .sl p n 0 m 1, z], SO H p l') ∧ m ≤ n ∧ l'.length = n ∧ ∀ j, j < m → P (l'.getD j 0)
 | d, i, 0, l, _, _, _, _, h => by omega
 | 0, i, f + 1, l, hd, h1, hl, hP, hf => by
  have hi : i = n := by omega
  subst hi
  have hc : fD H.length [dS p i, .nils, Nn i] (SO H p l) = some (SO H p l) := mI hS.hb l _ (lS hS i)
  have ln : bE (dS p i) = some (Nn i) := rfl
  have g1 : bA Tryd.prog .lss 3 false (Nn i) (Nn i) = some (.bool false) := fM (by omega)
  refine .inl ?_
  rw [aX, aC.l4]
  refine fT ?_
  refine eC hc ?_
  have fx := aKM ln <| g1
  refine fZ ?_
  refine gJ ?_; rfl
 | d + 1, i, f + 1, l, hd, h1, hl, hP, hf => by
  have hlen := mJ H p l
  have hc : fD H.length [dS p n, .nils, Nn i] (SO H p l) = some (SO H p l) := mI hS.hb l _ (lS hS i)
  have ln : bE (dS p n) = some (Nn n) := rfl
  have g1 : bA Tryd.prog .lss 3 false (Nn i) (Nn n) = some (.bool true) := gA (by omega)
  have d1 : aF 1 (dS p n) (Nn i) = some (.ptr p n i 0) := kI (by omega)
  have e1 : bA Tryd.prog .sub 3 true (Nn i) (.int .i64 1) = some (Nn (i - 1 : Nat)) := aEk (b := 1) (by omega) (by omega)
  have e2 : bA Tryd.prog .add 3 true (Nn i) (.int .i64 1) = some (Nn (i + 1 : Nat)) := jS (by omega)
  have d2 : aF 1 (dS p n) (Nn (i - 1 : Nat)) = some (.ptr p n (i - 1) 0) := kI (by omega)
  have l1 := jW G hS hl (i := i) (by omega)
  have l2 := jW G hS hl (i := i - 1) (by omega)
  by_cases hne : l.getD i 0 = l.getD (i - 1) 0
  ·have g2 : bA Tryd.prog .eql 3 false (Nn (l.getD i 0)) (Nn (l.getD (i - 1) 0)) = some (.bool true) := aGe hne
   obtain ⟨i', kk', l', w, r1, r2, r3, r4⟩ := rM G k self hS hn i h1 (by omega) (n - i - 1) 1 i k l (by omega) (by omega) (by omega) (by omega) hl hP (by omega)
   have w' : cM (aC.l9 G k (SO H p l).length self) k [dS p n, Nn i, .sl p n i (n - i) 1, .int .i64 1] (SO H p l) = some (.exit 2, [dS p n, Nn kk', .sl p n i (n - i) 1, Nn i'], SO H p l') := by
    rw [hlen]; exact w
   have s1 : gK 1 (dS p n) (some (Nn i)) none = some (.sl p n i (n - i) 1) := by
    simp only [gK, nZ, nY, dS, Nat.zero_add]
    rw [if_pos (by refine ⟨?_, ?_, trivial⟩ <;> omega)]
   have s2 : gK 1 (dS p n) (some (Nn kk')) none = some (.sl p n kk' (n - kk') 1) := by
    simp only [gK, nZ, nY, dS, Nat.zero_add]
    rw [if_pos (by refine ⟨?_, ?_, trivial⟩ <;> omega)]
   have s3 : gK 1 (dS p n) none (some (Nn kk')) = some (.sl p n 0 kk' 1) := by
    simp only [gK, nZ, nY, dS, Nat.zero_add, Nat.sub_zero]
    rw [if_pos (by refine ⟨?_, ?_, trivial⟩ <;> omega)]
   have c1 := rL hS r1 r4
   refine .inr ⟨Nn kk', kk', l'.take kk' ++ List.replicate (n - kk') 0, ?_, r4, by simp [r1]; omega, fun j hj => ?_⟩
   ·rw [aX, aC.l4]
    refine fT ?_
    refine eC hc ?_
    clear hne
    generalize l.getD i 0 = y1 at *
    generalize l.getD (i - 1) 0 = y2 at *
    generalize l'.take kk' ++ List.replicate (n - kk') 0 = lz at *
    have fx := aKM ln <| aKM g1 <| aKM d1 <| aKM d2 <| aKM e1 <| aKM e2 <| aKM l1 <| aKM l2 <| aKM g2 <| aKM s1 <| aKM s2 <| aKM s3 <| c1
    have lx1 := w'
    refine fZ ?_
    refine gJ ?_; rfl
   ·rw [List.getD_eq_getElem?_getD, List.getElem?_append_left (by simp [r1]; omega), List.getElem?_take_of_lt hj, ← List.getD_eq_getElem?_getD]
    exact aAL r2 (by omega)
  ·have g2 : bA Tryd.prog .eql 3 false (Nn (l.getD i 0)) (Nn (l.getD (i - 1) 0)) = some (.bool false) := aGd hne
   have ih := wX hn hk d (i + 1) f l (by omega) (by omega) hl hP (by omega)
   have st : cM (aC.l4 G k H.length self) (f + 1) [dS p n, .nils, Nn i] (SO H p l) = cM (aC.l4 G k H.length self) f [dS p n, .nils, Nn (i + 1 : Nat)] (SO H p l) := by
    generalize hgen : cM (aC.l4 G k H.length self) f [dS p n, .nils, Nn (i + 1 : Nat)] (SO H p l) = rr
    rw [aX, aC.l4]
    refine fT ?_
    refine eC hc ?_
    clear hne ih
    generalize l.getD i 0 = y1 at *
    generalize l.getD (i - 1) 0 = y2 at *
    have fx := aKM ln <| aKM g1 <| aKM d1 <| aKM d2 <| aKM e1 <| aKM e2 <| aKM l1 <| aKM l2 <| g2
    refine fZ ?_
    exact hgen
   rw [st]; exact ih
include hS in
theorem cpt_spec (hn : n ≤ 1000) (hk : n < k) (l : List Nat) (hl : l.length = n) (hP : ∀ x ∈ l, P x) :
  ∃ (m : Nat) (l' : List Nat), cZ (aC.f G (k + 1)) [dS p n] (SO H p l) = some (.sl p n 0 m 1, SO H p l') ∧ m ≤ n ∧ l'.length = n ∧ ∀ j, j < m → P (l'.getD j 0) := by
 have hlen := mJ H p l
 have ln : bE (dS p n) = some (Nn n) := rfl
 have hp : decide (p < H.length) = true := decide_eq_true hS.hp
 have fin : ∀ (m : Nat) (l' : List Nat), cP [.sl p n 0 m 1] H.length (SO H p l') = some (.ret, [.sl p n 0 m 1], SO H p l') := fun m l' => by
  unfold cP
  rw [mI hS.hb l' _ (by simp only [aY, aT, hp, Bool.and_self])]
  have e : lA (SO H p l') H.length 6 (iQ [.sl p n 0 m 1]) = some (.sl p n 0 m 1) := by
   simp only [iQ, lA, aT, hp]
  simp only [e]
 have hc : ∀ {r : AV} {l' : List Nat}, aC.f G (k + 1) [dS p n] (SO H p l) = some (r, SO H p l') → cZ (aC.f G (k + 1)) [dS p n] (SO H p l) = some (r, SO H p l') := fun h => by
  unfold cZ; rw [h]; simp only [mJ, Nat.le_refl, if_true]
 by_cases h2 : n < 2
 ·have g1 : bA Tryd.prog .lss 3 true (Nn n) (.int .i64 2) = some (.bool true) := gA (by omega)
  refine ⟨n, l, hc ?_, Nat.le_refl _, hl, fun j hj => aAL hP (by omega)⟩
  have fin' := fin n l
  rw [aC.step]
  unfold aC.c
  rw [← hlen] at fin'
  refine gY ?_
  have fx := aKM ln <| g1
  refine fZ ?_
  exact oF fin'
 ·have g1 : bA Tryd.prog .lss 3 true (Nn n) (.int .i64 2) = some (.bool false) := fM (by omega)
  rcases wX G k (aC.f G k) hS (P := P) hn hk (n - 1) 1 k l (by omega) (by omega) hl hP (by omega) with w | ⟨z, m, l', w, r1, r2, r3⟩
  ·have w' : cM (aC.l4 G k (SO H p l).length (aC.f G k)) k [dS p n, .nils, .int .i64 1] (SO H p l) = some (.exit 0, [dS p n, .nils, Nn n], SO H p l) := by
    rw [hlen]; exact w
   refine ⟨n, l, hc ?_, Nat.le_refl _, hl, fun j hj => aAL hP (by omega)⟩
   have fin' := fin n l
   rw [aC.step]
   unfold aC.c
   rw [← hlen] at fin'
   refine gY ?_
   have fx := aKM ln <| g1
   have lx1 := w'
   refine fZ ?_
   exact oF fin'
  ·have w' : cM (aC.l4 G k (SO H p l).length (aC.f G k)) k [dS p n, .nils, .int .i64 1] (SO H p l) = some (.ret, [dS p n, .sl p n 0 m 1, z], SO H p l') := by
    rw [hlen]; exact w
   refine ⟨m, l', hc ?_, r1, r2, r3⟩
   have fin' := fin m l'
   rw [aC.step]
   unfold aC.c
   rw [← hlen] at fin'
   refine gY ?_
   have fx := aKM ln <| g1
   have lx1 := w'
   refine fZ ?_
   exact oF fin'
end
end Go.Proofs.YtlkgkfgkiidhdaaDoor.Mir
namespace Go.Proofs.YtlkgkfgkiidhdaaDoor.Mir.I3
open Go Go.Proofs.YtlkgkfgkiidhdaaDoor.Mir
set_option linter.unusedVariables false
set_option linter.unusedSimpArgs false
set_option maxHeartbeats 8000000
set_option maxRecDepth 20000
def intsI (l : List Int) : List AV := l.map fun n => I6 n
theorem intsI_len (l : List Int) : (intsI l).length = l.length := by simp [intsI]
theorem intsI_below (n : Nat) (l : List Int) : aY n (intsI l) = true := iG n _ (fun _ => rfl) l
theorem intsI_sz (l : List Int) : iU 1 (intsI l) = true := kZ 1 _ (fun _ => rfl) l
theorem intsI_get (l : List Int) (j : Nat) (h : j < l.length) : (intsI l)[j]? = some (I6 (l.getD j 0)) := by
 unfold intsI
 rw [List.getElem?_map, List.getElem?_eq_getElem h, List.getD_eq_getElem?_getD, List.getElem?_eq_getElem h]; rfl
theorem aEZ (l : List Int) (j : Nat) (x : Int) : (intsI l).set j (I6 x) = intsI (l.set j x) := by
 unfold intsI
 rw [List.map_set]
def TO (H : aA) (p : Nat) (l : List Int) : aA := H.set p ⟨3, 1, intsI l⟩
theorem nU (H : aA) (p : Nat) (l : List Int) : (TO H p l).length = H.length := by simp [TO]
theorem TO_set (H : aA) (p : Nat) (l m : List Int) : (TO H p l).set p ⟨3, 1, intsI m⟩ = TO H p m := by simp [TO]
theorem TO_p {H : aA} {p : Nat} (hp : p < H.length) (l : List Int) : (TO H p l)[p]? = some ⟨3, 1, intsI l⟩ := by simp [TO, hp]
theorem TO_cut {H : aA} {p : Nat} (hb : bI H.length H = true) (l : List Int) (xs : List AV) (hx : aY H.length xs = true) : fD H.length xs (TO H p l) = some (TO H p l) := by
 unfold fD
 have e : (TO H p l).take H.length = TO H p l := List.take_of_length_le (by rw [nU]; exact Nat.le_refl _)
 rw [e, hx]
 have : bI H.length (TO H p l) = true := mM (b := ⟨3, 1, intsI l⟩) (intsI_below _ l) H p hb
 rw [this]; rfl
def swI (l : List Int) (i j : Nat) : List Int := (l.set i (l.getD j 0)).set j (l.getD i 0)
theorem aEE (l : List Int) (i j : Nat) : (swI l i j).length = l.length := by simp [swI]
def dnI (a : Nat) : Nat → List Int → List Int
 | 0, l => l
 | j + 1, l => if a < j + 1 ∧ l.getD (j + 1) 0 < l.getD j 0 then dnI a j (swI l (j + 1) j) else l
theorem aAI (a : Nat) : ∀ (j : Nat) (l : List Int), (dnI a j l).length = l.length
 | 0, l => rfl
 | j + 1, l => by
  unfold dnI
  split
  ·rw [aAI a j]; exact aEE ..
  ·rfl
def inI (a : Nat) : Nat → Nat → List Int → List Int
 | 0, i, l => l
 | d + 1, i, l => inI a d (i + 1) (dnI a i l)
theorem inI_len (a : Nat) : ∀ (d i : Nat) (l : List Int), (inI a d i l).length = l.length
 | 0, i, l => rfl
 | d + 1, i, l => by unfold inI; rw [inI_len a d]; exact aAI ..
theorem tT {g : cQ} {args : List AV} {H : aA} {p : Nat} {l l' : List Int} {r : AV} (h : g args (TO H p l) = some (r, TO H p l')) : cZ g args (TO H p l) = some (r, TO H p l') := by
 unfold cZ
 rw [h]
 simp only [nU, Nat.le_refl, if_true]
section
variable (G : aE) (k : Nat) (self : cQ) {H : aA} {p n : Nat} (hS : SB H p)
include hS in
theorem jW {l : List Int} (hl : l.length = n) {i : Nat} (h : i < n) : aG G false 1 (.ptr p n i 0) (TO H p l) = some (I6 (l.getD i 0)) := by
 unfold aG
 simp only [TO_p hS.hp l, intsI_len, hl, if_true, intsI_get l i (by omega)]
 rfl
include hS in
theorem nT {l : List Int} (hl : l.length = n) {i : Nat} (h : i < n) (x : Int) : gB (aV 1 (.ptr p n i 0) (I6 x) (TO H p l)) = some (.tup [], TO H p (l.set i x)) := by
 have e : aV 1 (.ptr p n i 0) (I6 x) (TO H p l) = some (TO H p (l.set i x)) := by
  unfold aV
  simp only [TO_p hS.hp l, intsI_len, hl]
  rw [if_pos ⟨trivial, rfl, rfl⟩]
  simp only [intsI_get l i (by omega)]
  rw [if_pos (by show 0 + 1 ≤ 1; omega)]
  have : dQ (I6 (l.getD i 0)) (fX (I6 (l.getD i 0)).cells 0 (I6 x).cells) = I6 x := rfl
  rw [this, aEZ, TO_set]
 rw [e]; rfl
theorem rT (x : Int) : bL.f G (k + 1) [I6 x] [] = some (.bool false, []) := by
 have g : bA Tryd.prog .neq 3 false (I6 x) (I6 x) = some (.bool false) := mD rfl
 rw [bL.step]
 unfold bL.c
 refine gY ?_
 have fx := g
 refine fZ ?_
 exact w1b rfl
theorem tV (x y : Int) : bS.f G (k + 2) [I6 x, I6 y] [] = some (.bool (decide (x < y)), []) := by
 have r1 : ∀ H, aW (bL.f G (k + 1)) [I6 x] H = _ := fun H => cJ (H := H) (rT G k x) rfl rfl
 have g : bA Tryd.prog .lss 3 false (I6 x) (I6 y) = some (.bool (decide (x < y))) := iB ..
 rw [bS.step]
 unfold bS.c
 refine gY ?_
 generalize decide (x < y) = b at *
 have fx := aKM r1 <| g
 refine fZ ?_
 exact w1b rfl
def zH (p n a b i j : Nat) : List AV := [dS p n, Nn a, Nn b, Nn i, Nn j]
def ys1 (p n a b i : Nat) : List AV := [dS p n, Nn a, Nn b, Nn i]
include hS in
theorem qT (n a b i j : Nat) : aY H.length (zH p n a b i j) = true := by
 have h1 : decide (p < H.length) = true := decide_eq_true hS.hp
 simp only [zH, dS, aY, aT, h1, Bool.and_self]
include hS in
theorem nR (n a b i : Nat) : aY H.length (ys1 p n a b i) = true := by
 have h1 : decide (p < H.length) = true := decide_eq_true hS.hp
 simp only [ys1, dS, aY, aT, h1, Bool.and_self]
include hS in
theorem xF (hn : n ≤ 1000) (a b i : Nat) : ∀ (j f : Nat) (l : List Int), l.length = n → j < n → j < f →
  ∃ j' : Nat, cM (aD.l4 G (k + 2) H.length self) f (zH p n a b i j) (TO H p l) = some (.exit 2, zH p n a b i j', TO H p (dnI a j l))
 | j, 0, l, _, _, h => by omega
 | 0, f + 1, l, hl, hj, hf => by
  have hc : fD H.length (zH p n a b i 0) (TO H p l) = some (TO H p l) := TO_cut hS.hb l _ (qT hS n a b i 0)
  have g1 : bA Tryd.prog .gtr 3 false (Nn 0) (Nn a) = some (.bool false) := kF (by omega)
  refine ⟨0, ?_⟩
  rw [aX, aD.l4]
  refine fT ?_
  refine eC hc ?_
  unfold zH dnI
  have fx := g1
  refine fZ ?_
  refine gJ ?_; rfl
 | j + 1, f + 1, l, hl, hj, hf => by
  have hc : fD H.length (zH p n a b i (j + 1)) (TO H p l) = some (TO H p l) := TO_cut hS.hb l _ (qT hS n a b i (j + 1))
  by_cases ha : a < j + 1
  ·have g1 : bA Tryd.prog .gtr 3 false (Nn (j + 1 : Nat)) (Nn a) = some (.bool true) := oH (by omega)
   have d1 : aF 1 (.sl p n 0 n 1) (Nn (j + 1 : Nat)) = some (.ptr p n (j + 1) 0) := kI hj
   have d2 : aF 1 (.sl p n 0 n 1) (Nn j) = some (.ptr p n j 0) := kI (by omega)
   have l1 := jW G hS hl hj
   have l2 := jW G hS hl (i := j) (by omega)
   have m1 : bA Tryd.prog .sub 3 true (Nn (j + 1 : Nat)) (.int .i64 1) = some (Nn j) := by
    rw [kT, dY (by omega) (by omega)]; congr 2; omega
   have r1 : ∀ H, aW (bS.f G (k + 2)) [I6 (l.getD (j + 1) 0), I6 (l.getD j 0)] H = _ := fun H => cJ (H := H) (tV G k (l.getD (j + 1) 0) (l.getD j 0)) rfl rfl
   by_cases hcn : l.getD (j + 1) 0 < l.getD j 0
   ·rw [decide_eq_true hcn] at r1
    have s1 := nT hS hl hj (l.getD j 0)
    have hl2 : (l.set (j + 1) (l.getD j 0)).length = n := by simp [hl]
    have s2 := nT hS hl2 (i := j) (by omega) (l.getD (j + 1) 0)
    have hsw : (l.set (j + 1) (l.getD j 0)).set j (l.getD (j + 1) 0) = swI l (j + 1) j := rfl
    rw [hsw] at s2
    obtain ⟨j', h1⟩ := xF hn a b i j f (swI l (j + 1) j) (by rw [aEE]; exact hl) (by omega) (by omega)
    refine ⟨j', ?_⟩
    rw [dnI, if_pos ⟨ha, hcn⟩]
    rw [aX, aD.l4]
    refine fT ?_
    refine eC hc ?_
    unfold zH at h1 ⊢
    clear hcn hsw
    generalize dnI a j (swI l (j + 1) j) = ld at *
    generalize swI l (j + 1) j = ls at *
    generalize l.getD (j + 1) 0 = y1 at *
    generalize l.getD j 0 = y2 at *
    have fx := aKM g1 <| aKM d1 <| aKM d2 <| aKM l1 <| aKM l2 <| aKM m1 <| aKM r1 <| aKM s1 <| s2
    refine fZ ?_
    exact h1
   ·rw [decide_eq_false hcn] at r1
    refine ⟨j + 1, ?_⟩
    rw [dnI, if_neg (fun h => hcn h.2)]
    rw [aX, aD.l4]
    refine fT ?_
    refine eC hc ?_
    unfold zH
    clear hcn
    generalize l.getD (j + 1) 0 = y1 at *
    generalize l.getD j 0 = y2 at *
    have fx := aKM g1 <| aKM d1 <| aKM d2 <| aKM l1 <| aKM l2 <| aKM m1 <| r1
    refine fZ ?_
    refine gJ ?_; rfl
  ·have g1 : bA Tryd.prog .gtr 3 false (Nn (j + 1 : Nat)) (Nn a) = some (.bool false) := kF (by omega)
   refine ⟨j + 1, ?_⟩
   rw [dnI, if_neg (fun h => ha h.1)]
   rw [aX, aD.l4]
   refine fT ?_
   refine eC hc ?_
   unfold zH
   have fx := g1
   refine fZ ?_
   refine gJ ?_; rfl
include hS in
theorem aDj (l : List Int) : cP [] H.length (TO H p l) = some (.ret, [.tup []], TO H p l) := by
 unfold cP
 rw [TO_cut hS.hb l _ rfl]; rfl
include hS in
theorem xE (hn : n ≤ 1000) (hk : n < k) (a b : Nat) (hb : b ≤ n) : ∀ (d i f : Nat) (l : List Int), i + d = max i b → l.length = n → d < f →
  ∃ i' : Nat, cM (aD.l1 G (k + 2) H.length self) f (ys1 p n a b i) (TO H p l) = some (.exit 0, ys1 p n a b i', TO H p (inI a d i l))
 | d, i, 0, l, _, _, h => by omega
 | 0, i, f + 1, l, hd, hl, hf => by
  have hc : fD H.length (ys1 p n a b i) (TO H p l) = some (TO H p l) := TO_cut hS.hb l _ (nR hS n a b i)
  have g1 : bA Tryd.prog .lss 3 false (Nn i) (Nn b) = some (.bool false) := fM (by omega)
  refine ⟨i, ?_⟩
  rw [aX, aD.l1]
  refine fT ?_
  refine eC hc ?_
  unfold ys1 inI
  have fx := g1
  refine fZ ?_
  refine gJ ?_; rfl
 | d + 1, i, f + 1, l, hd, hl, hf => by
  have hc : fD H.length (ys1 p n a b i) (TO H p l) = some (TO H p l) := TO_cut hS.hb l _ (nR hS n a b i)
  have hib : i < b := by omega
  have g1 : bA Tryd.prog .lss 3 false (Nn i) (Nn b) = some (.bool true) := gA (by omega)
  obtain ⟨j', hl4⟩ := xF G k self hS hn a b i i (k + 2) l hl (by omega) (by omega)
  obtain ⟨i', h1⟩ := xE hn hk a b hb d (i + 1) f (dnI a i l) (by omega) (by rw [aAI]; exact hl) (by omega)
  refine ⟨i', ?_⟩
  have q2 : bA Tryd.prog .add 3 true (Nn i) (.int .i64 1) = some (Nn (i + 1)) := by
   rw [iE, dY (by omega) (by omega)]; congr 2
  have hlen := nU H p l
  rw [aX, aD.l1]
  refine fT ?_
  refine eC hc ?_
  rw [← hlen] at hl4
  rw [inI]
  unfold ys1 at h1 ⊢
  unfold zH at hl4
  generalize inI a d (i + 1) (dnI a i l) = l2 at *
  generalize dnI a i l = l1 at *
  have fx := aKM g1 <| q2
  have lx1 := hl4
  refine fZ ?_
  exact h1
include hS in
theorem xG (hn : n ≤ 1000) (hk : n < k) (a b : Nat) (ha : a ≤ b) (hb : b ≤ n) (l : List Int) (hl : l.length = n) :
  cZ (aD.f G (k + 3)) [dS p n, Nn a, Nn b] (TO H p l) = some (.tup [], TO H p (inI a (b - (a + 1)) (a + 1) l)) := by
 obtain ⟨i', h1⟩ := xE G k (aD.f G (k + 2)) hS hn hk a b hb (b - (a + 1)) (a + 1) (k + 2) l (by omega) hl (by omega)
 generalize inI a (b - (a + 1)) (a + 1) l = l' at *
 refine tT ?_
 rw [aD.step]
 unfold aD.c
 rw [nU]
 have q1 : bA Tryd.prog .add 3 true (Nn a) (.int .i64 1) = some (Nn (a + 1 : Nat)) := by
  rw [iE, dY (by omega) (by omega)]; congr 2
 have fin := aDj hS l'
 unfold ys1 at h1
 have hlen := nU H p l
 refine gY ?_
 rw [← hlen] at h1
 have fx := q1
 have lx1 := h1
 refine fZ ?_
 exact oF fin
include hS in
theorem uL (a b : Nat) (z : Int) : aY H.length [dS p n, Nn a, Nn b, I6 z, .bool true, .bool true] = true := by
 have h1 : decide (p < H.length) = true := decide_eq_true hS.hp
 simp only [dS, aY, aT, h1, Bool.and_self]
include hS in
theorem xV (hn : n ≤ 12) (hk : n < k) (z : Int) (l : List Int) (hl : l.length = n) :
  cZ (aK.f G (k + 4)) [dS p n, .int .i64 0, Nn n, I6 z] (TO H p l) = some (.tup [], TO H p (inI 0 (n - 1) 1 l)) := by
 have hlen := nU H p l
 have w := xG G k hS (by omega) hk 0 n (by omega) (Nat.le_refl _) l hl
 simp only [Nat.zero_add] at w
 generalize inI 0 (n - 1) 1 l = l' at *
 refine tT ?_
 have w' : cZ (aD.f G (k + 3)) [dS p n, .int .i64 0, Nn n] (TO H p l) = some (.tup [], TO H p l') := w
 have hc : fD H.length [dS p n, Nn 0, Nn n, I6 z, .bool true, .bool true] (TO H p l) = some (TO H p l) := TO_cut hS.hb l _ (uL hS 0 n z)
 have hc' : fD H.length [dS p n, .int .i64 0, Nn n, I6 z, .bool true, .bool true] (TO H p l) = some (TO H p l) := hc
 have e1 : bA Tryd.prog .sub 3 false (Nn n) (.int .i64 0) = some (Nn n) := by
  rw [kT, dY (by omega) (by omega), Int.sub_zero]
 have g1 : bA Tryd.prog .leq 3 true (Nn n) (.int .i64 12) = some (.bool true) := wD (by omega)
 have lw : cM (aK.l2 G (k + 3) H.length (aK.f G (k + 3))) (k + 3) [dS p n, .int .i64 0, Nn n, I6 z, .bool true, .bool true] (TO H p l) = some (.ret, [dS p n, .int .i64 0, Nn n, I6 z, .bool true, .bool true], TO H p l') := by
  rw [aX, aK.l2]
  refine fT ?_
  refine eC hc' ?_
  have fx := aKM e1 <| aKM g1 <| w'
  refine fZ ?_
  refine gJ ?_; rfl
 rw [aK.step]
 unfold aK.c
 have fin := aDj hS l'
 rw [← hlen] at lw fin
 refine gY ?_
 have fx := True.intro
 have lx1 := lw
 refine fZ ?_
 exact oF fin
include hS in
theorem few_spec (hn : n ≤ 3) (hk : n < k) (l : List Int) (hl : l.length = n) :
  cZ (aS.f G (k + 5)) [dS p n] (TO H p l) = some (.tup [], TO H p (inI 0 (n - 1) 1 l)) := by
 have hlen := nU H p l
 obtain ⟨z, hz⟩ := aBx G (k + 1) n hn
 have w := xV G k hS (by omega) hk z l hl
 generalize inI 0 (n - 1) 1 l = l' at *
 refine tT ?_
 have ln : bE (dS p n) = some (Nn n) := rfl
 have c1 : fH .u64 (Nn n) = some (.int .u64 (n : Int)) := by
  have : IntKind.u64.wrap (n : Int) = (n : Int) := iL (by omega) (by omega)
  simp only [fH, this]
 have r1 : ∀ H, aW (cY.f G (k + 4)) [.int .u64 (n : Int)] H = _ := fun H => cJ (H := H) hz rfl rfl
 rw [aS.step]
 unfold aS.c
 have fin := aDj hS l'
 rw [← hlen] at fin
 refine gY ?_
 have fx := aKM ln <| aKM c1 <| aKM r1 <| w
 refine fZ ?_
 exact oF fin
end
theorem lW {a b x : Int} : x ∈ [a, b] ↔ x = a ∨ x = b := by simp
theorem inI_sorted (l : List Int) (h : l.length ≤ 3) : (inI 0 (l.length - 1) 1 l).Pairwise (· ≤ ·) ∧ ∀ x, x ∈ inI 0 (l.length - 1) 1 l ↔ x ∈ l := by
 match l, h with
 | [], _ => simp [inI]
 | [a], _ => simp [inI]
 | [a, b], _ =>
  simp only [List.length_cons, List.length_nil, Nat.zero_add, Nat.reduceAdd, Nat.add_one_sub_one, inI, dnI, swI, List.getD_cons_zero, List.getD_cons_succ, List.set_cons_zero, List.set_cons_succ]
  split
  ·rename_i hq
   refine ⟨by simp; omega, fun x => ?_⟩
   simp only [List.mem_cons, List.not_mem_nil, or_false]; omega
  ·rename_i hq
   exact ⟨by simp at hq ⊢; omega, fun x => Iff.rfl⟩
 | [a, b, c], _ =>
  simp only [List.length_cons, List.length_nil, Nat.zero_add, Nat.reduceAdd, Nat.reduceSub, inI, dnI, swI, List.getD_cons_zero, List.getD_cons_succ, List.set_cons_zero, List.set_cons_succ]
  by_cases h1 : b < a
  ·simp only [h1, and_true, Nat.zero_lt_one, if_true, List.getD_cons_zero, List.getD_cons_succ, List.set_cons_zero, List.set_cons_succ]
   repeat' split
   all_goals (rename_i hq; refine ⟨?_, fun x => ?_⟩)
   all_goals first
    | (simp only [List.pairwise_cons, List.mem_cons, List.not_mem_nil, or_false, forall_eq_or_imp, forall_eq, false_implies, implies_true, and_true, List.Pairwise.nil]; simp at *; omega)
    | (simp only [List.mem_cons, List.not_mem_nil, or_false]; omega)
  ·simp only [h1, and_false, if_false, List.getD_cons_zero, List.getD_cons_succ, List.set_cons_zero, List.set_cons_succ]
   repeat' split
   all_goals (refine ⟨?_, fun x => ?_⟩)
   all_goals first
    | exact Iff.rfl
    | (simp only [List.pairwise_cons, List.mem_cons, List.not_mem_nil, or_false, forall_eq_or_imp, forall_eq, false_implies, implies_true, and_true, List.Pairwise.nil]; simp at *; omega)
    | (simp only [List.mem_cons, List.not_mem_nil, or_false]; omega)
end Go.Proofs.YtlkgkfgkiidhdaaDoor.Mir.I3
namespace Go.Proofs.YtlkgkfgkiidhdaaDoor.Mir.I3
open Go Go.Proofs.YtlkgkfgkiidhdaaDoor.Mir
set_option linter.unusedVariables false
set_option linter.unusedSimpArgs false
set_option maxHeartbeats 8000000
set_option maxRecDepth 20000
section
variable (G : aE) (k : Nat) (self : cQ) {H : aA} {p n : Nat} (hS : SB H p)
def uW (kb : Nat) : Nat → Nat → Nat → List Int → Nat × List Int
 | 0, i, kk, l => (kk, l)
 | d + 1, i, kk, l => if l.getD (kb + i) 0 = l.getD (kb + (i - 1)) 0 then uW kb d (i + 1) kk l else uW kb d (i + 1) (kk + 1) (l.set kk (l.getD (kb + i) 0))
def l4F (n : Nat) : Nat → Nat → List Int → Option (Nat × List Int)
 | 0, i, l => none
 | d + 1, i, l => if l.getD i 0 = l.getD (i - 1) 0 then some ((uW i (n - i - 1) 1 i l).1, (uW i (n - i - 1) 1 i l).2.take (uW i (n - i - 1) 1 i l).1 ++ List.replicate (n - (uW i (n - i - 1) 1 i l).1) 0) else l4F n d (i + 1) l
def cpF (l : List Int) : Nat × List Int :=
 if l.length < 2 then (l.length, l) else match l4F l.length (l.length - 1) 1 l with
  | none => (l.length, l)
  | some r => r
theorem vZ (kb : Nat) : ∀ (d i kk : Nat) (l : List Int), (uW kb d i kk l).2.length = l.length
 | 0, i, kk, l => rfl
 | d + 1, i, kk, l => by
  unfold uW
  split
  ·exact vZ kb d ..
  ·rw [vZ kb d]; simp
theorem aAS (kb : Nat) : ∀ (d i kk : Nat) (l : List Int), kk ≤ (uW kb d i kk l).1 ∧ (uW kb d i kk l).1 ≤ kk + d
 | 0, i, kk, l => ⟨Nat.le_refl _, Nat.le_refl _⟩
 | d + 1, i, kk, l => by
  unfold uW
  split
  ·have := aAS kb d (i + 1) kk l; omega
  ·have := aAS kb d (i + 1) (kk + 1) (l.set kk (l.getD (kb + i) 0)); omega
theorem aEi (n : Nat) : ∀ (d i : Nat) (l : List Int) (r : Nat × List Int), l.length = n → 1 ≤ i → i + d = n → l4F n d i l = some r → r.2.length = n
 | 0, i, l, r, _, _, _, h => by simp [l4F] at h
 | d + 1, i, l, r, hl, h1, hd, h => by
  rw [l4F] at h
  split at h
  ·simp only [Option.some.injEq] at h
   subst h
   have a1 := vZ i (n - i - 1) 1 i l
   have a2 := (aAS i (n - i - 1) 1 i l).2
   simp only [List.length_append, List.length_take, List.length_replicate, a1, hl]
   omega
  ·exact aEi n d (i + 1) l r hl (by omega) (by omega) h
theorem cpF_len (l : List Int) : (cpF l).2.length = l.length := by
 unfold cpF
 split
 ·rfl
 ·split
  ·rfl
  ·rename_i r hr
   exact aEi l.length _ _ l r rfl (by omega) (by omega) hr
include hS in
theorem lU (kk kb m i : Nat) : aY H.length [dS p n, Nn kk, .sl p n kb m 1, Nn i] = true := by
 have h1 : decide (p < H.length) = true := decide_eq_true hS.hp
 simp only [dS, aY, aT, h1, Bool.and_self]
include hS in
theorem rM (hn : n ≤ 1000) (kb : Nat) (h0 : 1 ≤ kb) (hb : kb < n) : ∀ (d i kk f : Nat) (l : List Int), i + d = n - kb → 1 ≤ i → kb ≤ kk → kk < kb + i → l.length = n → d < f →
  ∃ i' : Nat, cM (aC.l9 G k H.length self) f [dS p n, Nn kk, .sl p n kb (n - kb) 1, Nn i] (TO H p l) = some (.exit 2, [dS p n, Nn (uW kb d i kk l).1, .sl p n kb (n - kb) 1, Nn i'], TO H p (uW kb d i kk l).2)
 | d, i, kk, 0, l, _, _, _, _, _, h => by omega
 | 0, i, kk, f + 1, l, hd, h1, h2, h3, hl, hf => by
  have hc : fD H.length [dS p n, Nn kk, .sl p n kb (n - kb) 1, Nn i] (TO H p l) = some (TO H p l) := TO_cut hS.hb l _ (lU hS kk kb (n - kb) i)
  have ln : bE (.sl p n kb (n - kb) 1) = some (Nn (n - kb : Nat)) := rfl
  have g1 : bA Tryd.prog .lss 3 false (Nn i) (Nn (n - kb : Nat)) = some (.bool false) := fM (by omega)
  refine ⟨i, ?_⟩
  rw [aX, aC.l9, uW]
  refine fT ?_
  refine eC hc ?_
  have fx := aKM ln <| g1
  refine fZ ?_
  refine gJ ?_; rfl
 | d + 1, i, kk, f + 1, l, hd, h1, h2, h3, hl, hf => by
  have hc : fD H.length [dS p n, Nn kk, .sl p n kb (n - kb) 1, Nn i] (TO H p l) = some (TO H p l) := TO_cut hS.hb l _ (lU hS kk kb (n - kb) i)
  have ln : bE (.sl p n kb (n - kb) 1) = some (Nn (n - kb : Nat)) := rfl
  have g1 : bA Tryd.prog .lss 3 false (Nn i) (Nn (n - kb : Nat)) = some (.bool true) := gA (by omega)
  have d1 : aF 1 (.sl p n kb (n - kb) 1) (Nn i) = some (.ptr p n (kb + i) 0) := aDQ (by omega)
  have e1 : bA Tryd.prog .sub 3 true (Nn i) (.int .i64 1) = some (Nn (i - 1 : Nat)) := aEk (b := 1) (by omega) (by omega)
  have e2 : bA Tryd.prog .add 3 true (Nn i) (.int .i64 1) = some (Nn (i + 1 : Nat)) := jS (by omega)
  have e3 : bA Tryd.prog .add 3 true (Nn kk) (.int .i64 1) = some (Nn (kk + 1 : Nat)) := jS (by omega)
  have d2 : aF 1 (.sl p n kb (n - kb) 1) (Nn (i - 1 : Nat)) = some (.ptr p n (kb + (i - 1)) 0) := aDQ (by omega)
  have d3 : aF 1 (dS p n) (Nn kk) = some (.ptr p n kk 0) := kI (by omega)
  have l1 := jW G hS hl (i := kb + i) (by omega)
  have l2 := jW G hS hl (i := kb + (i - 1)) (by omega)
  have s1 := nT hS hl (i := kk) (by omega) (l.getD (kb + i) 0)
  by_cases hne : l.getD (kb + i) 0 = l.getD (kb + (i - 1)) 0
  ·have g2 : bA Tryd.prog .neq 3 false (I6 (l.getD (kb + i) 0)) (I6 (l.getD (kb + (i - 1)) 0)) = some (.bool false) := mD hne
   obtain ⟨i', w⟩ := rM hn kb h0 hb d (i + 1) kk f l (by omega) (by omega) h2 (by omega) hl (by omega)
   refine ⟨i', ?_⟩
   rw [aX, aC.l9, uW, if_pos hne]
   refine fT ?_
   refine eC hc ?_
   clear hne
   generalize uW kb d (i + 1) kk l = r at *
   generalize l.getD (kb + i) 0 = y1 at *
   generalize l.getD (kb + (i - 1)) 0 = y2 at *
   have fx := aKM ln <| aKM g1 <| aKM d1 <| aKM e1 <| aKM e2 <| aKM d2 <| aKM l1 <| aKM l2 <| g2
   refine fZ ?_
   exact w
  ·have g2 : bA Tryd.prog .neq 3 false (I6 (l.getD (kb + i) 0)) (I6 (l.getD (kb + (i - 1)) 0)) = some (.bool true) := tH hne
   obtain ⟨i', w⟩ := rM hn kb h0 hb d (i + 1) (kk + 1) f (l.set kk (l.getD (kb + i) 0)) (by omega) (by omega) (by omega) (by omega) (by simp [hl]) (by omega)
   refine ⟨i', ?_⟩
   rw [aX, aC.l9, uW, if_neg hne]
   refine fT ?_
   refine eC hc ?_
   clear hne
   generalize uW kb d (i + 1) (kk + 1) (l.set kk (l.getD (kb + i) 0)) = r at *
   generalize l.set kk (l.getD (kb + i) 0) = ls at *
   generalize l.getD (kb + i) 0 = y1 at *
   generalize l.getD (kb + (i - 1)) 0 = y2 at *
   have fx := aKM ln <| aKM g1 <| aKM d1 <| aKM e1 <| aKM e2 <| aKM e3 <| aKM d2 <| aKM d3 <| aKM l1 <| aKM l2 <| aKM g2 <| s1
   refine fZ ?_
   exact w
include hS in
theorem lS (i : Nat) : aY H.length [dS p n, .nils, Nn i] = true := by
 have h1 : decide (p < H.length) = true := decide_eq_true hS.hp
 simp only [dS, aY, aT, h1, Bool.and_self]
include hS in
theorem rL {l : List Int} (hl : l.length = n) {kk : Nat} (h : kk ≤ n) : pG (.int .i64 0) (.sl p n kk (n - kk) 1) (TO H p l) = some (.tup [], TO H p (l.take kk ++ List.replicate (n - kk) 0)) := by
 unfold pG
 simp only [TO_p hS.hp l, intsI_len, hl]
 rw [if_pos ⟨trivial, trivial, by omega⟩]
 have e1 : (intsI l).take kk ++ (List.replicate (n - kk) (AV.int .i64 0) ++ (intsI l).drop (kk + (List.replicate (n - kk) (AV.int .i64 0)).length)) = intsI (l.take kk ++ List.replicate (n - kk) 0) := by
  rw [List.length_replicate, List.drop_of_length_le (by rw [intsI_len]; omega), List.append_nil]
  unfold intsI
  rw [List.map_append, List.map_take, List.map_replicate]
 rw [e1, TO_set]
include hS in
theorem wX (hn : n ≤ 1000) (hk : n < k) : ∀ (d i f : Nat) (l : List Int), i + d = n → 1 ≤ i → l.length = n → d < f →
  (l4F n d i l = none ∧ cM (aC.l4 G k H.length self) f [dS p n, .nils, Nn i] (TO H p l) = some (.exit 0, [dS p n, .nils, Nn n], TO H p l))
  ∨ ∃ (z : AV) (m : Nat) (l' : List Int), l4F n d i l = some (m, l') ∧ cM (aC.l4 G k H.length self) f [dS p n, .nils, Nn i] (TO H p l) = some (.ret, [dS p n, .sl p n 0 m 1, z], TO H p l') ∧ m ≤ n ∧ l'.length = n
 | d, i, 0, l, _, _, _, h => by omega
 | 0, i, f + 1, l, hd, h1, hl, hf => by
  have hi : i = n := by omega
  subst hi
  have hc : fD H.length [dS p i, .nils, Nn i] (TO H p l) = some (TO H p l) := TO_cut hS.hb l _ (lS hS i)
  have ln : bE (dS p i) = some (Nn i) := rfl
  have g1 : bA Tryd.prog .lss 3 false (Nn i) (Nn i) = some (.bool false) := fM (by omega)
  refine .inl ⟨rfl, ?_⟩
  rw [aX, aC.l4]
  refine fT ?_
  refine eC hc ?_
  have fx := aKM ln <| g1
  refine fZ ?_
  refine gJ ?_; rfl
 | d + 1, i, f + 1, l, hd, h1, hl, hf => by
  have hlen := nU H p l
  have hc : fD H.length [dS p n, .nils, Nn i] (TO H p l) = some (TO H p l) := TO_cut hS.hb l _ (lS hS i)
  have ln : bE (dS p n) = some (Nn n) := rfl
  have g1 : bA Tryd.prog .lss 3 false (Nn i) (Nn n) = some (.bool true) := gA (by omega)
  have d1 : aF 1 (dS p n) (Nn i) = some (.ptr p n i 0) := kI (by omega)
  have e1 : bA Tryd.prog .sub 3 true (Nn i) (.int .i64 1) = some (Nn (i - 1 : Nat)) := aEk (b := 1) (by omega) (by omega)
  have e2 : bA Tryd.prog .add 3 true (Nn i) (.int .i64 1) = some (Nn (i + 1 : Nat)) := jS (by omega)
  have d2 : aF 1 (dS p n) (Nn (i - 1 : Nat)) = some (.ptr p n (i - 1) 0) := kI (by omega)
  have l1 := jW G hS hl (i := i) (by omega)
  have l2 := jW G hS hl (i := i - 1) (by omega)
  by_cases hne : l.getD i 0 = l.getD (i - 1) 0
  ·have g2 : bA Tryd.prog .eql 3 false (I6 (l.getD i 0)) (I6 (l.getD (i - 1) 0)) = some (.bool true) := iO hne
   obtain ⟨i', w⟩ := rM G k self hS hn i h1 (by omega) (n - i - 1) 1 i k l (by omega) (by omega) (by omega) (by omega) hl (by omega)
   have r1 := vZ i (n - i - 1) 1 i l
   have r4 := (aAS i (n - i - 1) 1 i l).2
   have h4 : l4F n (d + 1) i l = some ((uW i (n - i - 1) 1 i l).1, (uW i (n - i - 1) 1 i l).2.take (uW i (n - i - 1) 1 i l).1 ++ List.replicate (n - (uW i (n - i - 1) 1 i l).1) 0) := by rw [l4F, if_pos hne]
   obtain ⟨kk', hkk⟩ : ∃ z, z = (uW i (n - i - 1) 1 i l).1 := ⟨_, rfl⟩
   obtain ⟨l', hl'⟩ : ∃ z, z = (uW i (n - i - 1) 1 i l).2 := ⟨_, rfl⟩
   rw [← hkk, ← hl'] at h4
   rw [← hkk] at r4
   rw [← hl'] at r1
   rw [← hkk, ← hl'] at w
   have w' : cM (aC.l9 G k (TO H p l).length self) k [dS p n, Nn i, .sl p n i (n - i) 1, .int .i64 1] (TO H p l) = some (.exit 2, [dS p n, Nn kk', .sl p n i (n - i) 1, Nn i'], TO H p l') := by
    rw [hlen]; exact w
   have s1 : gK 1 (dS p n) (some (Nn i)) none = some (.sl p n i (n - i) 1) := by
    simp only [gK, nZ, nY, dS, Nat.zero_add]
    rw [if_pos (by refine ⟨?_, ?_, trivial⟩ <;> omega)]
   have s2 : gK 1 (dS p n) (some (Nn kk')) none = some (.sl p n kk' (n - kk') 1) := by
    simp only [gK, nZ, nY, dS, Nat.zero_add]
    rw [if_pos (by refine ⟨?_, ?_, trivial⟩ <;> omega)]
   have s3 : gK 1 (dS p n) none (some (Nn kk')) = some (.sl p n 0 kk' 1) := by
    simp only [gK, nZ, nY, dS, Nat.zero_add, Nat.sub_zero]
    rw [if_pos (by refine ⟨?_, ?_, trivial⟩ <;> omega)]
   have c1 := rL hS (r1.trans hl) (kk := kk') (by omega)
   refine .inr ⟨Nn kk', kk', l'.take kk' ++ List.replicate (n - kk') 0, h4, ?_, by omega, by simp [r1, hl]; omega⟩
   rw [aX, aC.l4]
   refine fT ?_
   refine eC hc ?_
   clear hne h4 hkk hl'
   generalize l.getD i 0 = y1 at *
   generalize l.getD (i - 1) 0 = y2 at *
   generalize l'.take kk' ++ List.replicate (n - kk') 0 = lz at *
   have fx := aKM ln <| aKM g1 <| aKM d1 <| aKM d2 <| aKM e1 <| aKM e2 <| aKM l1 <| aKM l2 <| aKM g2 <| aKM s1 <| aKM s2 <| aKM s3 <| c1
   have lx1 := w'
   refine fZ ?_
   refine gJ ?_; rfl
  ·have g2 : bA Tryd.prog .eql 3 false (I6 (l.getD i 0)) (I6 (l.getD (i - 1) 0)) = some (.bool false) := jB hne
   have ih := wX hn hk d (i + 1) f l (by omega) (by omega) hl (by omega)
   have st : cM (aC.l4 G k H.length self) (f + 1) [dS p n, .nils, Nn i] (TO H p l) = cM (aC.l4 G k H.length self) f [dS p n, .nils, Nn (i + 1 : Nat)] (TO H p l) := by
    generalize hgen : cM (aC.l4 G k H.length self) f [dS p n, .nils, Nn (i + 1 : Nat)] (TO H p l) = rr
    rw [aX, aC.l4]
    refine fT ?_
    refine eC hc ?_
    clear hne ih
    generalize l.getD i 0 = y1 at *
    generalize l.getD (i - 1) 0 = y2 at *
    have fx := aKM ln <| aKM g1 <| aKM d1 <| aKM d2 <| aKM e1 <| aKM e2 <| aKM l1 <| aKM l2 <| g2
    refine fZ ?_
    exact hgen
   rw [st, l4F, if_neg hne]; exact ih
include hS in
theorem cpt_spec (hn : n ≤ 1000) (hk : n < k) (l : List Int) (hl : l.length = n) :
  cZ (aC.f G (k + 1)) [dS p n] (TO H p l) = some (.sl p n 0 (cpF l).1 1, TO H p (cpF l).2) ∧ (cpF l).1 ≤ n ∧ (cpF l).2.length = n := by
 have hlen := nU H p l
 have ln : bE (dS p n) = some (Nn n) := rfl
 have hp : decide (p < H.length) = true := decide_eq_true hS.hp
 have fin : ∀ (m : Nat) (l' : List Int), cP [.sl p n 0 m 1] H.length (TO H p l') = some (.ret, [.sl p n 0 m 1], TO H p l') := fun m l' => by
  unfold cP
  rw [TO_cut hS.hb l' _ (by simp only [aY, aT, hp, Bool.and_self])]
  have e : lA (TO H p l') H.length 6 (iQ [.sl p n 0 m 1]) = some (.sl p n 0 m 1) := by
   simp only [iQ, lA, aT, hp]
  simp only [e]
 by_cases h2 : n < 2
 ·have g1 : bA Tryd.prog .lss 3 true (Nn n) (.int .i64 2) = some (.bool true) := gA (by omega)
  have e : cpF l = (n, l) := by unfold cpF; rw [if_pos (by omega), hl]
  rw [e]
  refine ⟨tT ?_, Nat.le_refl _, hl⟩
  have fin' := fin n l
  rw [aC.step]
  unfold aC.c
  rw [← hlen] at fin'
  refine gY ?_
  have fx := aKM ln <| g1
  refine fZ ?_
  exact oF fin'
 ·have g1 : bA Tryd.prog .lss 3 true (Nn n) (.int .i64 2) = some (.bool false) := fM (by omega)
  rcases wX G k (aC.f G k) hS hn hk (n - 1) 1 k l (by omega) (by omega) hl (by omega) with ⟨e4, w⟩ | ⟨z, m, l', e4, w, r1, r2⟩
  ·have w' : cM (aC.l4 G k (TO H p l).length (aC.f G k)) k [dS p n, .nils, .int .i64 1] (TO H p l) = some (.exit 0, [dS p n, .nils, Nn n], TO H p l) := by
    rw [hlen]; exact w
   have e : cpF l = (n, l) := by unfold cpF; rw [if_neg (by omega), hl, e4]
   rw [e]
   refine ⟨tT ?_, Nat.le_refl _, hl⟩
   have fin' := fin n l
   rw [aC.step]
   unfold aC.c
   rw [← hlen] at fin'
   refine gY ?_
   have fx := aKM ln <| g1
   have lx1 := w'
   refine fZ ?_
   exact oF fin'
  ·have w' : cM (aC.l4 G k (TO H p l).length (aC.f G k)) k [dS p n, .nils, .int .i64 1] (TO H p l) = some (.ret, [dS p n, .sl p n 0 m 1, z], TO H p l') := by
    rw [hlen]; exact w
   have e : cpF l = (m, l') := by unfold cpF; rw [if_neg (by omega), hl, e4]
   rw [e]
   refine ⟨tT ?_, r1, r2⟩
   have fin' := fin m l'
   rw [aC.step]
   unfold aC.c
   rw [← hlen] at fin'
   refine gY ?_
   have fx := aKM ln <| g1
   have lx1 := w'
   refine fZ ?_
   exact oF fin'
end
theorem cpF_sorted (l : List Int) (h : l.length ≤ 3) (hs : l.Pairwise (· ≤ ·)) : ((cpF l).2.take (cpF l).1).Pairwise (· < ·) ∧ ∀ x, x ∈ (cpF l).2.take (cpF l).1 ↔ x ∈ l := by
 match l, h, hs with
 | [], _, _ => simp [cpF]
 | [a], _, _ => simp [cpF]
 | [a, b], _, hs =>
  simp only [List.pairwise_cons, List.mem_cons, List.not_mem_nil, or_false, forall_eq, false_implies, implies_true, and_true, List.Pairwise.nil] at hs
  simp only [cpF, List.length_cons, List.length_nil, Nat.zero_add, Nat.reduceAdd, Nat.reduceSub, Nat.reduceLT, if_false, l4F, uW, List.getD_cons_zero, List.getD_cons_succ]
  by_cases h1 : b = a
  ·subst h1
   simp
  ·rw [if_neg h1]
   refine ⟨?_, fun x => by simp⟩
   simp; omega
 | [a, b, c], _, hs =>
  simp only [List.pairwise_cons, List.mem_cons, List.not_mem_nil, or_false, forall_eq, false_implies, implies_true, and_true, List.Pairwise.nil, forall_eq_or_imp] at hs
  simp only [cpF, List.length_cons, List.length_nil, Nat.zero_add, Nat.reduceAdd, Nat.reduceSub, Nat.reduceLT, if_false, l4F, uW, List.getD_cons_zero, List.getD_cons_succ]
  by_cases h1 : b = a
  ·subst h1
   by_cases h2 : c = b
   ·subst h2; simp
   ·simp [h2]; omega
  ·by_cases h2 : c = b
   ·subst h2; simp [h1]; omega
   ·simp [h1, h2]; omega
end Go.Proofs.YtlkgkfgkiidhdaaDoor.Mir.I3
namespace Go.Proofs.YtlkgkfgkiidhdaaDoor.Mir
open Go
set_option linter.unusedSimpArgs false
set_option linter.unusedVariables false
set_option maxHeartbeats 8000000
set_option maxRecDepth 20000
structure LY where
 slot : List Nat
 word : List Nat
 M : Nat
def LY.sl (L : LY) (r : Int) : Nat := L.slot.getD r.toNat 0
def LY.wd (L : LY) (r : Int) : Nat := L.word.getD r.toNat 0
def LY.rdC (L : LY) (r into : Int) : List WI := if L.sl r = 0 then [⟨15, into, 0, 0, 0, L.wd r⟩] else []
def LY.rdR (L : LY) (r into : Int) : Int := if L.sl r = 0 then into else L.sl r
def LY.wrR (L : LY) (r : Int) : Int := if L.sl r = 0 then 1 else L.sl r
def LY.wrC (L : LY) (r : Int) : List WI := if L.sl r = 0 then [⟨16, 0, 0, 1, 0, L.wd r⟩] else []
def LY.adC (L : LY) (i : WI) : List WI := L.rdC i.a 1 ++ [⟨1, 2, 0, 0, 0, i.k⟩, ⟨3, 2, L.rdR i.a 1, 2, 0, 0⟩, ⟨1, 3, 0, 0, 0, (L.M : Int)⟩, ⟨13, 3, 2, 3, 0, 0⟩, ⟨18, 0, 3, 0, 0, -1⟩]
def LY.rC (L : LY) (f : Bool) (r into : Int) : List WI := if f = true then L.rdC r into else []
def LY.rR (L : LY) (f : Bool) (r into : Int) : Int := if f = true then L.rdR r into else r
def LY.rds (L : LY) (i : WI) : List WI := L.rC (eW i.op).a i.a 1 ++ (L.rC (eW i.op).b i.b 2 ++ L.rC (eW i.op).c i.c 3)
def LY.ins (L : LY) (i : WI) : WI := ⟨i.op, if (eW i.op).d = true then L.wrR i.d else i.d, L.rR (eW i.op).a i.a 1, L.rR (eW i.op).b i.b 2, L.rR (eW i.op).c i.c 3, i.k⟩
def LY.wrs (L : LY) (i : WI) : List WI := if (eW i.op).d = true then L.wrC i.d else []
def LY.one (L : LY) (i : WI) : List WI :=
 if i.op = 15 then L.adC i ++ ([⟨15, L.wrR i.d, 2, 0, 0, 0⟩] ++ L.wrC i.d)
 else if i.op = 16 then L.adC i ++ (L.rdC i.b 1 ++ [⟨16, 0, 2, L.rdR i.b 1, 0, 0⟩])
 else L.rds i ++ ([L.ins i] ++ L.wrs i)
def LY.flat (L : LY) : List WI → List WI
 | [] => []
 | w :: ws => L.one w ++ L.flat ws
def LY.at_ (L : LY) (ws : List WI) (j : Nat) : Nat := (L.flat (ws.take j)).length
def LY.pos (L : LY) (b : Nat) : List WI → List Nat
 | [] => []
 | w :: ws => b :: L.pos (b + (L.one w).length) ws
def LY.place (L : LY) (ws : List WI) : List Nat := L.pos 0 ws ++ [(L.flat ws).length]
def aIP (P : List Nat) (n : Nat) (i : WI) : WI := if i.op = 17 ∨ i.op = 18 ∨ i.op = 19 then (if i.k = -1 then { i with k := n } else { i with k := (P.getD i.k.toNat 0 : Nat) }) else i
def LY.out (L : LY) (ws : List WI) : List WI := (L.flat ws).map (aIP (L.place ws) (L.flat ws).length)
structure AX where
 bor : Bool
 ws : List WI
 R : Nat
 L : LY
 us : List Int
 o : List Nat
structure LS where
 out : List WI
 place : List Nat
def LS.put (s : LS) (l : List WI) : LS := { s with out := s.out ++ l }
def AX.cv (A : AX) : AV := cV A.bor A.ws A.R A.L.M
def AX.box (A : AX) (s : LS) : AV := .agg [.ro A.bor (cF A.ws), Nn A.R, Nn A.L.M, .sl 6 A.R 0 A.R 1, .sl 7 A.R 0 A.R 1, .sl 8 s.out.length 0 s.out.length 6, .sl 9 s.place.length 0 s.place.length 1]
def AX.hp (A : AX) (s : LS) (T : aA) : aA :=
 ⟨27, 3, [A.cv]⟩ :: ⟨27, 3, [.agg [.nils, .int .i64 0, .int .i64 0]]⟩ :: ⟨86, 7, [A.box s]⟩ :: ⟨3, 1, A.us.map fun u => I6 u⟩ :: ⟨49, 1, [.sl 3 A.R 0 A.R 1]⟩ :: ⟨3, 1, bF A.o⟩ :: ⟨3, 1, bF A.L.slot⟩ :: ⟨3, 1, bF A.L.word⟩ :: ⟨29, 6, cF s.out⟩ :: ⟨3, 1, bF s.place⟩ :: T
structure AX.W (A : AX) : Prop where
 sl : A.L.slot.length = A.R
 wd : A.L.word.length = A.R
abbrev BX : AV := .ptr 2 1 0 0
theorem intsI_below (n : Nat) (l : List Int) : aY n (l.map fun u => I6 u) = true := iG n _ (fun _ => rfl) l
section
variable (A : AX) (s : LS) (T : aA)
variable (G : aE) (k : Nat)
end
theorem gC (l : List Nat) (i j x : Nat) (hi : i < l.length) : (l.set i x).getD j 0 = if i = j then x else l.getD j 0 := by
 rw [List.getD_eq_getElem?_getD, List.getD_eq_getElem?_getD, List.getElem?_set]
 by_cases h : i = j
 ·rw [if_pos h, if_pos h, if_pos hi]; rfl
 ·rw [if_neg h, if_neg h]
section
variable {r : List Nat} {p : Nat} {cd : Int} {mem : List Nat} {lk : List (Int × Int)} {st : Nat} {d a b c k op : Int} {y : Nat}
abbrev yD (r : List Nat) (a : Int) : Nat := r.getD a.toNat 0
theorem aBg (ho : 1 ≤ op ∧ op ≤ 14) (hv : (kL op k (yD r a) (yD r b) (yD r c)).2 = true) : MS.step (MS.tick ⟨r, p, cd, mem, lk, st⟩) ⟨op, d, a, b, c, k⟩ = (⟨r.set d.toNat (kL op k (yD r a) (yD r b) (yD r c)).1, p + 1, cd, mem, lk ++ [(1, (p : Int))], st + 1⟩, true) := by
 unfold MS.step
 simp only
 rw [if_neg (by omega), if_neg (by omega), if_neg (by omega)]
 exact if_pos hv
theorem aGL (ho : op = 15 ∨ op = 16) (hy : (yD r a + u64 k) % 18446744073709551616 = y) (hm : mem.length ≤ y) : MS.step (MS.tick ⟨r, p, cd, mem, lk, st⟩) ⟨op, d, a, b, c, k⟩ = (⟨r, p + 1, 3, mem, lk ++ [(1, (p : Int))] ++ [(3, s64 y)], st + 1⟩, false) := by
 subst hy
 unfold MS.step
 simp only
 rw [if_pos ho]
 unfold MS.touch
 exact if_pos hm
theorem aIA (hy : (yD r a + u64 k) % 18446744073709551616 = y) (hm : y < mem.length) : MS.step (MS.tick ⟨r, p, cd, mem, lk, st⟩) ⟨15, d, a, b, c, k⟩ = (⟨r.set d.toNat (mem.getD y 0), p + 1, cd, mem, lk ++ [(1, (p : Int))] ++ [(3, s64 y)], st + 1⟩, true) := by
 subst hy
 unfold MS.step
 simp only
 rw [if_pos (by decide)]
 unfold MS.touch
 exact (if_neg (Nat.not_le.2 hm)).trans (if_pos rfl)
theorem aIB (hy : (yD r a + u64 k) % 18446744073709551616 = y) (hm : y < mem.length) : MS.step (MS.tick ⟨r, p, cd, mem, lk, st⟩) ⟨16, d, a, b, c, k⟩ = (⟨r, p + 1, cd, mem.set y (yD r b), lk ++ [(1, (p : Int))] ++ [(3, s64 y)], st + 1⟩, true) := by
 subst hy
 unfold MS.step
 simp only
 rw [if_pos (by decide)]
 unfold MS.touch
 exact (if_neg (Nat.not_le.2 hm)).trans (if_neg (show ¬ (16 : Int) = 15 by decide))
theorem aIy : MS.step (MS.tick ⟨r, p, cd, mem, lk, st⟩) ⟨17, d, a, b, c, k⟩ = (⟨r, k.toNat, cd, mem, lk ++ [(1, (p : Int))], st + 1⟩, true) := by
 unfold MS.step
 simp only
 rw [if_neg (by decide), if_pos (by decide)]
 unfold MS.branch
 rw [if_pos rfl]; rfl
theorem aIz (ho : op = 18 ∨ op = 19) (g : Bool) (hg : (decide (yD r a = 0) == decide (op = 18)) = g) : MS.step (MS.tick ⟨r, p, cd, mem, lk, st⟩) ⟨op, d, a, b, c, k⟩ = (⟨r, if g = true then k.toNat else p + 1, cd, mem, lk ++ [(1, (p : Int))] ++ [(2, if g = true then 1 else 0)], st + 1⟩, true) := by
 unfold MS.step
 simp only
 rw [if_neg (by omega), if_pos (by omega)]
 unfold MS.branch
 have e : (decide (MS.rg { (MS.tick ⟨r, p, cd, mem, lk, st⟩) with at_ := (MS.tick ⟨r, p, cd, mem, lk, st⟩).at_ + 1 } a = 0) == decide (op = 18)) = g := hg
 simp only [e]
 rw [if_neg (by omega)]
 cases g
 ·rfl
 ·rfl
theorem aGM : MS.step (MS.tick ⟨r, p, cd, mem, lk, st⟩) ⟨20, d, a, b, c, k⟩ = (⟨r, p + 1, k, mem, lk ++ [(1, (p : Int))], st + 1⟩, false) := by
 unfold MS.step
 simp only
 rw [if_neg (by decide), if_neg (by decide)]; exact if_pos trivial
end
def At (cs : List WI) (p : Nat) (i : WI) : Prop := cs[p]? = some i
def aBv (cs : List WI) (fuel : Int) (q : MS) (m : Nat) (q2 : MS) : Prop := ∀ f, kX cs fuel (f + m) q = kX cs fuel f q2
def aJz (cs : List WI) (fuel : Int) (q : MS) (m : Nat) (q2 : MS) : Prop := ∀ f, kX cs fuel (f + m) q = some q2
section
variable {cs : List WI} {fuel : Int} {r : List Nat} {p : Nat} {cd : Int} {mem : List Nat} {lk : List (Int × Int)} {st : Nat} {d a b c k op : Int} {y : Nat} {q q2 q3 : MS} {m n : Nat}
theorem aBv.refl : aBv cs fuel q 0 q := fun f => rfl
theorem aBv.trans (h : aBv cs fuel q m q2) (h2 : aBv cs fuel q2 n q3) : aBv cs fuel q (m + n) q3 := fun f => by
 rw [show f + (m + n) = f + n + m by omega, h, h2]
theorem aBv.ends (h : aBv cs fuel q m q2) (h2 : aJz cs fuel q2 n q3) : aJz cs fuel q (m + n) q3 := fun f => by
 rw [show f + (m + n) = f + n + m by omega, h, h2]
theorem At.lt {i : WI} (h : At cs p i) : p < cs.length ∧ cs.getD p default = i := by
 unfold At at h
 refine ⟨(List.getElem?_eq_some_iff.1 h).1, ?_⟩
 rw [List.getD_eq_getElem?_getD, h]; rfl
end
theorem aGQ (k : Int) (x y z : Nat) : kL 1 k x y z = (u64 k, true) := by simp [kL]
theorem aFq {op : Int} (h : 1 ≤ op ∧ op ≤ 14) (k : Int) {a b c a2 b2 c2 : Nat} (ha : (eW op).a = true → a2 = a) (hb : (eW op).b = true → b2 = b) (hc : (eW op).c = true → c2 = c) : kL op k a2 b2 c2 = kL op k a b c := by
 have : op = 1 ∨ op = 2 ∨ op = 3 ∨ op = 4 ∨ op = 5 ∨ op = 6 ∨ op = 7 ∨ op = 8 ∨ op = 9 ∨ op = 10 ∨ op = 11 ∨ op = 12 ∨ op = 13 ∨ op = 14 := by omega
 rcases this with rfl | rfl | rfl | rfl | rfl | rfl | rfl | rfl | rfl | rfl | rfl | rfl | rfl | rfl <;> simp [eW, gT] at ha hb hc <;> simp [kL, jG, ha, hb, hc]
structure LY.Ok (L : LY) (R S N : Nat) : Prop where
 s6 : 6 ≤ S
 n : N ≤ 65536
 mn : L.M ≤ N
 sl : ∀ r, r < R → L.slot.getD r 0 ≠ 0 → 4 ≤ L.slot.getD r 0 ∧ L.slot.getD r 0 < S
 wd : ∀ r, r < R → L.slot.getD r 0 = 0 → L.M ≤ L.word.getD r 0 ∧ L.word.getD r 0 < N
 slI : ∀ r t, r < R → t < R → r ≠ t → L.slot.getD r 0 ≠ 0 → L.slot.getD t 0 ≠ L.slot.getD r 0
 wdI : ∀ r t, r < R → t < R → r ≠ t → L.slot.getD r 0 = 0 → L.slot.getD t 0 = 0 → L.word.getD t 0 ≠ L.word.getD r 0
structure RelA (L : LY) (R S N : Nat) (sr sm qr qm : List Nat) : Prop where
 sl : sr.length = R
 ql : qr.length = S
 z : qr.getD 0 0 = 0
 sml : sm.length = L.M
 qml : qm.length = N
 rs : ∀ r, r < R → L.slot.getD r 0 ≠ 0 → qr.getD (L.slot.getD r 0) 0 = sr.getD r 0
 rm : ∀ r, r < R → L.slot.getD r 0 = 0 → qm.getD (L.word.getD r 0) 0 = sr.getD r 0
 mem : ∀ j, j < L.M → qm.getD j 0 = sm.getD j 0
section
variable {L : LY} {R S N : Nat} {sr sm qr qm qr2 : List Nat}
theorem RelA.scr (hL : L.Ok R S N) (h : RelA L R S N sr sm qr qm) (hl : qr2.length = S) (he : ∀ j, j = 0 ∨ 4 ≤ j → qr2.getD j 0 = qr.getD j 0) : RelA L R S N sr sm qr2 qm :=
 ⟨h.sl, hl, by rw [he 0 (.inl rfl)]; exact h.z, h.sml, h.qml, fun r hr h0 => by rw [he _ (.inr (hL.sl r hr h0).1)]; exact h.rs r hr h0, h.rm, h.mem⟩
theorem RelA.set (hL : L.Ok R S N) (h : RelA L R S N sr sm qr qm) {t x : Nat} (ht : 1 ≤ t ∧ t ≤ 3) : RelA L R S N sr sm (qr.set t x) qm := by
 have := hL.s6
 refine h.scr hL (by rw [List.length_set]; exact h.ql) (fun j hj => ?_)
 rw [gC _ _ _ _ (by rw [h.ql]; omega), if_neg (by omega)]
theorem RelA.slot (hL : L.Ok R S N) (h : RelA L R S N sr sm qr qm) {d : Int} (hd : 0 ≤ d ∧ d < R) (h0 : L.sl d ≠ 0) (x : Nat) : RelA L R S N (sr.set d.toNat x) sm (qr.set (L.sl d) x) qm := by
 have hb := hL.sl d.toNat (by omega) h0
 have hlt : L.sl d < qr.length := by rw [h.ql]; exact hb.2
 refine ⟨by rw [List.length_set]; exact h.sl, by rw [List.length_set]; exact h.ql, ?_, h.sml, h.qml, fun r hr hr0 => ?_, fun r hr hr0 => ?_, h.mem⟩
 ·have hb4 : 4 ≤ L.sl d := hb.1
  rw [gC _ _ _ _ hlt, if_neg (by omega)]; exact h.z
 ·rw [gC _ _ _ _ hlt, gC _ _ _ _ (by rw [h.sl]; omega)]
  by_cases e : d.toNat = r
  ·subst e; rw [if_pos (show L.sl d = L.slot.getD d.toNat 0 from rfl), if_pos rfl]
  ·have hne : ¬ L.sl d = L.slot.getD r 0 := hL.slI r d.toNat hr (by omega) (by omega) hr0
   rw [if_neg hne, if_neg e]; exact h.rs r hr hr0
 ·have e : ¬ d.toNat = r := fun e => h0 (by unfold LY.sl; rw [e]; exact hr0)
  rw [gC _ _ _ _ (by rw [h.sl]; omega), if_neg e]; exact h.rm r hr hr0
theorem RelA.word (hL : L.Ok R S N) (h : RelA L R S N sr sm qr qm) {d : Int} (hd : 0 ≤ d ∧ d < R) (h0 : L.sl d = 0) (x : Nat) : RelA L R S N (sr.set d.toNat x) sm qr (qm.set (L.wd d) x) := by
 have hb := hL.wd d.toNat (by omega) h0
 have hlt : L.wd d < qm.length := by rw [h.qml]; exact hb.2
 refine ⟨by rw [List.length_set]; exact h.sl, h.ql, h.z, h.sml, by rw [List.length_set]; exact h.qml, fun r hr hr0 => ?_, fun r hr hr0 => ?_, fun j hj => ?_⟩
 ·have e : ¬ d.toNat = r := fun e => hr0 (by rw [← e]; exact h0)
  rw [gC _ _ _ _ (by rw [h.sl]; omega), if_neg e]; exact h.rs r hr hr0
 ·rw [gC _ _ _ _ hlt, gC _ _ _ _ (by rw [h.sl]; omega)]
  by_cases e : d.toNat = r
  ·subst e; rw [if_pos (show L.wd d = L.word.getD d.toNat 0 from rfl), if_pos rfl]
  ·have hne : ¬ L.wd d = L.word.getD r 0 := hL.wdI r d.toNat hr (by omega) (by omega) hr0 h0
   rw [if_neg hne, if_neg e]; exact h.rm r hr hr0
 ·have hb1 : L.M ≤ L.wd d := hb.1
  rw [gC _ _ _ _ hlt, if_neg (by omega)]; exact h.mem j hj
theorem RelA.store (hL : L.Ok R S N) (h : RelA L R S N sr sm qr qm) {y x : Nat} (hy : y < L.M) : RelA L R S N sr (sm.set y x) qr (qm.set y x) := by
 have hn := hL.mn
 refine ⟨h.sl, h.ql, h.z, by rw [List.length_set]; exact h.sml, by rw [List.length_set]; exact h.qml, h.rs, fun r hr hr0 => ?_, fun j hj => ?_⟩
 ·have hb := hL.wd r hr hr0
  rw [gC _ _ _ _ (by rw [h.qml]; omega), if_neg (by omega)]; exact h.rm r hr hr0
 ·rw [gC _ _ _ _ (by rw [h.qml]; omega), gC _ _ _ _ (by rw [h.sml]; omega), h.mem j hj]
end
def AtC (cs : List WI) (P : List Nat) (p : Nat) (C : List WI) : Prop := ∀ t i, C[t]? = some i → At cs (p + t) (aIP P cs.length i)
theorem AtC.left {cs : List WI} {P : List Nat} {p : Nat} {A B : List WI} (h : AtC cs P p (A ++ B)) : AtC cs P p A := fun t i ht => h t i (by
 rw [List.getElem?_append_left (List.getElem?_eq_some_iff.1 ht).1]; exact ht)
theorem AtC.right {cs : List WI} {P : List Nat} {p : Nat} {A B : List WI} (h : AtC cs P p (A ++ B)) : AtC cs P (p + A.length) B := fun t i ht => by
 have := h (A.length + t) i (by rw [List.getElem?_append_right (by omega), show A.length + t - A.length = t by omega]; exact ht)
 rw [show p + A.length + t = p + (A.length + t) by omega]; exact this
theorem AtC.get {cs : List WI} {P : List Nat} {p : Nat} {C : List WI} (h : AtC cs P p C) (t : Nat) {i : WI} (ht : C[t]? = some i) (hb : ¬ (i.op = 17 ∨ i.op = 18 ∨ i.op = 19)) : At cs (p + t) i := by
 have := h t i ht
 unfold aIP at this
 rwa [if_neg hb] at this
theorem AtC.head {cs : List WI} {P : List Nat} {p : Nat} {i : WI} {C : List WI} (h : AtC cs P p (i :: C)) (hb : ¬ (i.op = 17 ∨ i.op = 18 ∨ i.op = 19)) : At cs p i := h.get 0 rfl hb
section
variable {L : LY} {R S N : Nat} {sr sm qr qm : List Nat} {cs : List WI} {P : List Nat} {fuel : Int} {p : Nat} {cd : Int} {lk : List (Int × Int)} {st : Nat}
end
structure WI.Good (i : WI) (R n : Nat) : Prop where
 ok2 : i.Ok2 R n
 mem : i.op = 15 ∨ i.op = 16 → 0 ≤ i.k ∧ i.k ≤ 65535
 halt : i.op = 20 → 0 ≤ i.k ∧ i.k ≤ 2
theorem aFg {i : WI} {R n : Int} (h : gM i R n = none) (hR : 0 ≤ R) : i.Good R.toNat n.toNat := by
 refine ⟨aGg h hR, fun ho => ?_, fun ho => ?_⟩
 ·unfold gM at h
  by_cases h0 : (gT i.op).isSome = false
  ·rw [if_pos h0] at h; cases h
  rw [if_neg h0] at h
  by_cases h1 : qV (eW i.op) i R = true
  ·rw [if_pos h1] at h; cases h
  rw [if_neg h1] at h
  by_cases h2 : vU (eW i.op) i = true
  ·rw [if_pos h2] at h; cases h
  rw [if_neg h2, if_neg (by omega), if_neg (by omega), if_pos ho] at h
  by_cases h3 : i.k < 0 ∨ 65535 < i.k
  ·rw [if_pos h3] at h; cases h
  ·omega
 ·unfold gM at h
  by_cases h0 : (gT i.op).isSome = false
  ·rw [if_pos h0] at h; cases h
  rw [if_neg h0] at h
  by_cases h1 : qV (eW i.op) i R = true
  ·rw [if_pos h1] at h; cases h
  rw [if_neg h1] at h
  by_cases h2 : vU (eW i.op) i = true
  ·rw [if_pos h2] at h; cases h
  rw [if_neg h2, if_neg (by omega), if_pos ho] at h
  by_cases h3 : i.k < 0 ∨ 2 < i.k
  ·rw [if_pos h3] at h; cases h
  ·omega
theorem zK {R n : Int} (hR : 0 ≤ R) : ∀ {l : List WI} {j : Nat}, pE R n l j = .ok → ∀ i ∈ l, i.Good R.toNat n.toNat
 | [], _, _, i, hi => by cases hi
 | x :: l, j, h, i, hi => by
  unfold pE at h
  split at h
  ·cases h
  ·rename_i ho
   rcases List.mem_cons.1 hi with rfl | hi
   ·exact aFg ho hR
   ·exact zK hR h i hi
theorem mG {cs : List WI} {R M : Int} (h : fV cs R M = .ok) : ∀ i ∈ cs, i.Good R.toNat cs.length := by
 have hb := (nN h).1
 unfold fV at h
 rw [if_neg (by omega), if_neg (by omega)] at h
 have := zK hb.1 h
 simpa using this
theorem aHr {op : Int} (h : 1 ≤ op ∧ op ≤ 20) : ((eW op).a = true → op ≠ 17 ∧ op ≠ 20) ∧ ((eW op).b = true → op ≤ 16) ∧ ((eW op).c = true → op ≤ 16) := by
 rcases aHM h with rfl | rfl | rfl | rfl | rfl | rfl | rfl | rfl | rfl | rfl | rfl | rfl | rfl | rfl | rfl | rfl | rfl | rfl | rfl | rfl <;> simp [eW, gT]
theorem aAM {i : WI} {R n : Nat} (h : i.Good R n) : ((eW i.op).a = true → 0 ≤ i.a ∧ i.a < R) ∧ ((eW i.op).b = true → 0 ≤ i.b ∧ i.b < R) ∧ ((eW i.op).c = true → 0 ≤ i.c ∧ i.c < R) := by
 obtain ⟨h1, h2, h3⟩ := aHr h.ok2.ok.op
 exact ⟨fun f => h.ok2.ok.a (h1 f).1 (h1 f).2, fun f => h.ok2.ok.b (h2 f), fun f => h.ok2.ok.c (h3 f)⟩
section
variable {L : LY} {R S N : Nat} {sr sm qr qm : List Nat} {ws : List WI} {fuel : Int} {sa : Nat} {sc cd : Int} {slk lk : List (Int × Int)} {sst st : Nat} {i : WI}
end
section
variable (A : AX) (s : LS) (G : aE) (k : Nat)
end
def H0R (w : WI) (f : Frm) : aA := [⟨100, 6, [gH (dJ w.op) f]⟩, ⟨3, 1, []⟩]
theorem aHT (w : WI) (f : Frm) : SB (H0R w f) 1 := ⟨by show 1 < 2; decide, by simp [H0R, bI, aY, aT, gH]⟩
def flR (f : Frm) : AV := .ro false [.bool f.a, .bool f.b, .bool f.c]
def rY (w : WI) (f : Frm) (n j : Nat) : List AV := [.rp false w.v 0, .sl 1 n 0 n 1, flR f, .int .i64 3, Nn j]
def rgR (w : WI) (j : Nat) : Int := if j = 0 then w.a else if j = 1 then w.b else w.c
def fgR (f : Frm) (j : Nat) : Bool := if j = 0 then f.a else if j = 1 then f.b else f.c
section
variable (G : aE) (k : Nat) (self : cQ) (w : WI) (f : Frm)
theorem yX (n j : Nat) : aY 2 (rY w f n j) = true := by simp [rY, flR, aY, aT, WI.v]
theorem vA (l : List Nat) : gP (bF l) = true := iH _ (fun _ => rfl) l
theorem aCk (l : List Nat) : iU 1 (bF l) = true := kZ 1 _ (fun _ => rfl) l
theorem uO (op d a b c kk : Int) (H : aA) : dD.f G (k + 6) [WI.v ⟨op, d, a, b, c, kk⟩] [] = some (.tup [I6 (if (eW op).d = true then d else 0), .bool (eW op).d], []) := by
 rw [dD.step]
 unfold dD.c
 have r0 : ∀ H, aW (dO.f G (k + 5)) [I6 op] H = _ := fun H => cJ (H := H) (uJ G (k + 1) op) rfl rfl
 have b0 := aGR (⟨op, d, a, b, c, kk⟩ : WI)
 have f0 := gi0 (⟨op, d, a, b, c, kk⟩ : WI)
 have f1 := gi1 (⟨op, d, a, b, c, kk⟩ : WI)
 have v0 := aCN G (⟨op, d, a, b, c, kk⟩ : WI)
 have v1 := aGS G (⟨op, d, a, b, c, kk⟩ : WI)
 have b1 : eO 100 (.agg [(.str ⟨#[]⟩), (.bool false), (.bool false), (.bool false), (.bool false), (.bool false)]) [] = some (.ptr 0 1 0 0, [⟨100, 6, [(.agg [(.str ⟨#[]⟩), (.bool false), (.bool false), (.bool false), (.bool false), (.bool false)])]⟩]) := rfl
 obtain ⟨F, hF⟩ : ∃ F, eW op = F := ⟨_, rfl⟩
 rw [hF] at r0 ⊢
 have st : gB (aV 6 (.ptr 0 1 0 0) (gH (dJ op) F) [⟨100, 6, [(.agg [(.str ⟨#[]⟩), (.bool false), (.bool false), (.bool false), (.bool false), (.bool false)])]⟩]) = some (.tup [], [⟨100, 6, [gH (dJ op) F]⟩]) := rfl
 have ff : aB 1 (.ptr 0 1 0 0) = some (.ptr 0 1 0 1) := rfl
 have vf : aG G false 1 (.ptr 0 1 0 1) [⟨100, 6, [gH (dJ op) F]⟩] = some (.bool F.d) := rfl
 have fin : ∀ (x : Int) (b : Bool), cP [I6 x, .bool b] 0 [⟨100, 6, [gH (dJ op) F]⟩] = some (.ret, [.tup [I6 x, .bool b]], []) := fun x b => rfl
 have fin1 := fin d true
 have fin2 := fin 0 false
 cases hd : F.d with
 | true =>
  rw [hd] at vf
  rw [if_pos rfl]
  generalize WI.v ⟨op, d, a, b, c, kk⟩ = wv at *
  generalize gH (dJ op) F = fv at *
  refine gY ?_
  have fx := aKM r0 <| aKM b0 <| aKM f0 <| aKM f1 <| aKM v0 <| aKM v1 <| aKM b1 <| aKM st <| aKM ff <| vf
  refine fZ ?_
  exact oF fin1
 | false =>
  rw [hd] at vf
  rw [if_neg (by decide)]
  generalize WI.v ⟨op, d, a, b, c, kk⟩ = wv at *
  generalize gH (dJ op) F = fv at *
  refine gY ?_
  have fx := aKM r0 <| aKM b0 <| aKM f0 <| aKM f1 <| aKM v0 <| aKM v1 <| aKM b1 <| aKM st <| aKM ff <| vf
  refine fZ ?_
  exact oF fin2
end
end Go.Proofs.YtlkgkfgkiidhdaaDoor.Mir
