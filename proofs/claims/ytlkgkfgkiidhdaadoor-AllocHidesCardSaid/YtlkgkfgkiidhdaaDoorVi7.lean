/- Part 7 of the proof: what these functions do. -/
import Derived.Test.YtlkgkfgkiidhdaaDoorVi6
import Derived.Test.YtlkgkfgkiidhdaaDoorRows
import Derived.KernelRfl
import Derived.SizedLaws
namespace Go.Proofs.YtlkgkfgkiidhdaaDoor
open Go Go.ChangeShapes Go.WideShapes Go.RowKit Mir
set_option linter.unusedVariables false
set_option linter.unusedSimpArgs false
namespace Rk
theorem own : ownKnob Tryd.prog.godebug = none := by kernel_rfl
theorem laidOut : laidOutB Tryd.prog = true := by kernel_rfl
theorem aLp : "*" ++ "errors.errorString" = "*errors.errorString" := by decide
theorem row (u : TypeId) (h : Tryd.prog.typeName? 3 u = some "*errors.errorString") : u = 179 :=
 typeName_ptr_named (nm := "errors.errorString") (by rw [aLp]; kernel_rfl) (by kernel_rfl) (by decide) u (by rw [aLp]; exact h)
noncomputable def low : Nat := (World.holding Tryd.prog default ⟨#[], #[], []⟩).heap.size
end Rk
end Go.Proofs.YtlkgkfgkiidhdaaDoor
namespace Go.Proofs.YtlkgkfgkiidhdaaDoor.Mir
open Go
set_option linter.unusedSimpArgs false
set_option linter.unusedVariables false
set_option maxHeartbeats 8000000
set_option maxRecDepth 20000
abbrev I6 (n : Int) : AV := .int .i64 n
abbrev Nn (n : Nat) : AV := .int .i64 (n : Int)
abbrev Un (n : Nat) : AV := .int .u64 (n : Int)
theorem kS (a : Nat) (h : a < 18446744073709551616) : (BitVec.ofInt 64 (a : Int)).toNat = a := by
 rw [BitVec.toNat_ofInt]
 omega
theorem aEZ (a b : Nat) (ha : a < 18446744073709551616) (hb : b < 18446744073709551616) : bits .and .u64 (a : Int) (b : Int) = ((a &&& b : Nat) : Int) := by
 have hx : a &&& b ≤ a := Nat.and_le_left
 show IntKind.u64.wrap ((BitVec.ofInt 64 (a : Int) &&& BitVec.ofInt 64 (b : Int)).toNat : Int) = _
 rw [BitVec.toNat_and, kS a ha, kS b hb, iT (by omega) (by omega)]
theorem aKv (a b : Nat) (ha : a < 18446744073709551616) (hb : b < 18446744073709551616) : bits .or .u64 (a : Int) (b : Int) = ((a ||| b : Nat) : Int) := by
 have hx : a ||| b < 2 ^ 64 := Nat.or_lt_two_pow (by omega) (by omega)
 show IntKind.u64.wrap ((BitVec.ofInt 64 (a : Int) ||| BitVec.ofInt 64 (b : Int)).toNat : Int) = _
 rw [BitVec.toNat_or, kS a ha, kS b hb, iT (by omega) (by omega)]
theorem aIM (a b : Nat) (ha : a < 18446744073709551616) (hb : b < 18446744073709551616) : bits .xor .u64 (a : Int) (b : Int) = ((a ^^^ b : Nat) : Int) := by
 have hx : a ^^^ b < 2 ^ 64 := Nat.xor_lt_two_pow (by omega) (by omega)
 show IntKind.u64.wrap ((BitVec.ofInt 64 (a : Int) ^^^ BitVec.ofInt 64 (b : Int)).toNat : Int) = _
 rw [BitVec.toNat_xor, kS a ha, kS b hb, iT (by omega) (by omega)]
theorem oM (n : Nat) : IntKind.u64.wrap (n : Int) = ((n % 18446744073709551616 : Nat) : Int) := by rw [pU]; rfl
theorem aBz (P : Program) (t : Nat) (c : Bool) (a b : Nat) : aX P .add t c (Un a) (Un b) = some (Un ((a + b) % 18446744073709551616)) := by
 rw [gR, ← Int.natCast_add, oM]
theorem aBA (P : Program) (t : Nat) (c : Bool) (a b : Nat) : aX P .mul t c (Un a) (Un b) = some (Un (a * b % 18446744073709551616)) := by
 rw [aAy, ← Int.natCast_mul, oM]
theorem aIL (P : Program) (t : Nat) (c : Bool) (a b : Nat) (hb : b < 18446744073709551616) : aX P .sub t c (Un a) (Un b) = some (Un ((a + 18446744073709551616 - b) % 18446744073709551616)) := by
 rw [nW, pU]; congr 2; omega
theorem aBB (P : Program) (t : Nat) (c : Bool) (k : IntKind) (a n : Nat) (h : n ≤ 64) : aX P .shr t c (Un a) (.int k (n : Int)) = some (Un (a / 2 ^ n)) := by
 rw [aEo _ _ _ _ _ _ _ (Int.natCast_nonneg n)]
 have e : min ((n : Int)).toNat IntKind.u64.bits = n := by rw [Int.toNat_natCast]; exact Nat.min_eq_left h
 rw [e, aAK]
theorem aIK (P : Program) (t : Nat) (c : Bool) (k : IntKind) (a n : Nat) (h : n ≤ 64) : aX P .shl t c (Un a) (.int k (n : Int)) = some (Un (a * 2 ^ n % 18446744073709551616)) := by
 rw [aIc _ _ _ _ _ _ _ (Int.natCast_nonneg n)]
 have e : min ((n : Int)).toNat IntKind.u64.bits = n := by rw [Int.toNat_natCast]; exact Nat.min_eq_left h
 have e2 : ((a : Int) * 2 ^ n : Int) = ((a * 2 ^ n : Nat) : Int) := by push_cast; rfl
 rw [e, e2, oM]
def qE (a : Nat) : Int := if a ≥ 9223372036854775808 then (a : Int) - 18446744073709551616 else (a : Int)
def u64 (n : Int) : Nat := (n % 18446744073709551616).toNat
theorem aHM (n : Int) : u64 n < 18446744073709551616 := by unfold u64; omega
theorem aBZ (a : Nat) (h : a < 18446744073709551616) : dJ .i64 (Un a) = some (I6 (qE a)) := by
 rw [jA, uS]; unfold qE; congr 2; split <;> split <;> omega
theorem rP (k : IntKind) (n : Int) : dJ .u64 (.int k n) = some (Un (u64 n)) := by
 rw [jA, pU]; unfold u64; congr 2; omega
theorem aFa (n : Nat) (h : n < 18446744073709551616) : u64 (n : Int) = n := by unfold u64; omega
theorem aIv (x0 x1 y0 y1 : Nat) (hx0 : x0 < 4294967296) (hx1 : x1 < 4294967296) (hy0 : y0 < 4294967296) (hy1 : y1 < 4294967296) :
  x0 * y0 ≤ 18446744065119617025 ∧ x1 * y0 ≤ 18446744065119617025 ∧ x0 * y1 ≤ 18446744065119617025 ∧ x1 * y1 ≤ 18446744065119617025 ∧
  (x1 * 4294967296 + x0) * (y1 * 4294967296 + y0) = x1 * y1 * 18446744073709551616 + (x1 * y0 + x0 * y1) * 4294967296 + x0 * y0 := by
 have b : ∀ p q : Nat, p < 4294967296 → q < 4294967296 → p * q ≤ 18446744065119617025 := fun p q hp hq => by
  have := Nat.mul_le_mul (show p ≤ 4294967295 by omega) (show q ≤ 4294967295 by omega)
  omega
 refine ⟨b _ _ hx0 hy0, b _ _ hx1 hy0, b _ _ hx0 hy1, b _ _ hx1 hy1, ?_⟩
 simp only [Nat.add_mul, Nat.mul_add]
 have e1 : x1 * 4294967296 * (y1 * 4294967296) = x1 * y1 * 18446744073709551616 := by
  rw [Nat.mul_mul_mul_comm]
 have e2 : x1 * 4294967296 * y0 = x1 * y0 * 4294967296 := by rw [Nat.mul_right_comm]
 have e3 : x0 * (y1 * 4294967296) = x0 * y1 * 4294967296 := by rw [Nat.mul_assoc]
 rw [e1, e2, e3]; omega
theorem aKa (n : Nat) : n &&& 4294967295 = n % 4294967296 := Nat.and_two_pow_sub_one_eq_mod n 32
theorem aDO (G : aF) (k : Nat) (a b : Nat) (ha : a < 18446744073709551616) (hb : b < 18446744073709551616) :
  cA.f G (k + 1) [Un a, Un b] [] = some (.tup [Un (a * b / 18446744073709551616), Un (a * b % 18446744073709551616)], []) := by
 rw [cA.step]
 unfold cA.c
 have and32 : ∀ n : Nat, n < 18446744073709551616 → aX Tryd.prog .and 30 true (Un n) (.int .u64 4294967295) = some (Un (n % 4294967296)) := fun n hn => by
  rw [aAt]; have := aEZ n 4294967295 hn (by omega); rw [aKa] at this; exact congrArg (fun z => some (AV.int .u64 z)) this
 have shr32 : ∀ n : Nat, aX Tryd.prog .shr 30 true (Un n) (.int .u64 32) = some (Un (n / 4294967296)) := fun n => aBB Tryd.prog 30 true .u64 n 32 (by omega)
 obtain ⟨x0, hx0⟩ : ∃ z, z = a % 4294967296 := ⟨_, rfl⟩
 obtain ⟨x1, hx1⟩ : ∃ z, z = a / 4294967296 := ⟨_, rfl⟩
 obtain ⟨y0, hy0⟩ : ∃ z, z = b % 4294967296 := ⟨_, rfl⟩
 obtain ⟨y1, hy1⟩ : ∃ z, z = b / 4294967296 := ⟨_, rfl⟩
 have c0 := and32 a ha
 have c1 := shr32 a
 have c2 := and32 b hb
 have c3 := shr32 b
 rw [← hx0] at c0
 rw [← hx1] at c1
 rw [← hy0] at c2
 rw [← hy1] at c3
 obtain ⟨b1, b2, b3, b4, hm⟩ := aIv x0 x1 y0 y1 (by omega) (by omega) (by omega) (by omega)
 have hab : a * b = x1 * y1 * 18446744073709551616 + (x1 * y0 + x0 * y1) * 4294967296 + x0 * y0 := by
  rw [← hm]; congr 1 <;> omega
 have m : ∀ p q : Nat, p * q ≤ 18446744065119617025 → aX Tryd.prog .mul 30 false (Un p) (Un q) = some (Un (p * q)) := fun p q h => by rw [aBA, Nat.mod_eq_of_lt (by omega)]
 have ad : ∀ p q : Nat, p + q < 18446744073709551616 → aX Tryd.prog .add 30 false (Un p) (Un q) = some (Un (p + q)) := fun p q h => by rw [aBz, Nat.mod_eq_of_lt h]
 have c4 := m x0 y0 b1
 have c5 := m x1 y0 b2
 have c10 := m x0 y1 b3
 have c12 := m x1 y1 b4
 have c16 := aBA Tryd.prog 30 false a b
 rw [hab] at c16 ⊢
 generalize x0 * y0 = A at *
 generalize x1 * y0 = B at *
 generalize x0 * y1 = C at *
 generalize x1 * y1 = D at *
 have c6 := shr32 A
 have c7 := ad B (A / 4294967296) (by omega)
 obtain ⟨E, hE⟩ : ∃ z, z = B + A / 4294967296 := ⟨_, rfl⟩
 rw [← hE] at c7
 have c8 := and32 E (by omega)
 have c9 := shr32 E
 have c11 := ad (E % 4294967296) C (by omega)
 obtain ⟨F, hF⟩ : ∃ z, z = E % 4294967296 + C := ⟨_, rfl⟩
 rw [← hF] at c11
 have c13 := ad D (E / 4294967296) (by omega)
 have c14 := shr32 F
 have c15 := ad (D + E / 4294967296) (F / 4294967296) (by omega)
 have r1 : (D * 18446744073709551616 + (B + C) * 4294967296 + A) / 18446744073709551616 = D + E / 4294967296 + F / 4294967296 := by omega
 rw [r1]
 generalize (D * 18446744073709551616 + (B + C) * 4294967296 + A) % 18446744073709551616 = Z at *
 generalize D + E / 4294967296 + F / 4294967296 = Y at *
 generalize D + E / 4294967296 = X at *
 generalize F / 4294967296 = X2 at *
 generalize E / 4294967296 = X3 at *
 generalize E % 4294967296 = X4 at *
 generalize A / 4294967296 = X5 at *
 clear hE hF hab hm
 repeat first
  | refine oB (by first | (simp only [tP, fB, fA, aCu, aCq, aCt, aCr, aCs, oD, mV, xK, c0, c1, c2, c3, c4, c5, c6, c7, c8, c9, c10, c11, c12, c13, c14, c15, c16]; first | done | (with_reducible exact rfl) | (with_reducible exact ⟨rfl, rfl⟩)) | (with_reducible exact rfl)) ?_
  | refine lB (by first | (simp only [tP, fB, fA, aCu, aCq, aCt, aCr, aCs, oD, mV, xK, c0, c1, c2, c3, c4, c5, c6, c7, c8, c9, c10, c11, c12, c13, c14, c15, c16]; first | done | (with_reducible exact rfl) | (with_reducible exact ⟨rfl, rfl⟩)) | (with_reducible exact rfl)) ?_
  | refine oT ?_
  | refine oN ?_
  | refine oX ?_
  | refine oXn ?_
  | refine oXr ?_
  | exact oF (aFq ..)
  | apply oK
  | refine lT ?_
  | refine lN ?_
  | refine lX ?_
  | refine lXn ?_
  | refine lXr ?_
  | apply lK
  | refine oI ?_
  | refine oJ rfl ?_
  | refine lI ?_
  | refine lJ rfl ?_
  | (with_reducible exact rfl)
 exact oF (aCn rfl rfl _)
def aLl (a n : Nat) : Nat := u64 ((qE a).fdiv (2 ^ n))
def dL (l : List Nat) : List AV := l.map fun n => Un n
theorem gK (l : List Nat) : (dL l).length = l.length := by simp [dL]
theorem jW (n : Nat) (l : List Nat) : cI n (dL l) = true := jP n _ (fun _ => rfl) l
theorem aDw (l : List Nat) : iV (dL l) = true := mC _ (fun _ => rfl) l
theorem nN (l : List Nat) (j : Nat) (h : j < l.length) : (dL l)[j]? = some (Un (l.getD j 0)) := by
 simp [dL, List.getD, List.getElem?_eq_getElem h]
theorem zL (l : List Nat) (j x : Nat) : dL (l.set j x) = (dL l).set j (Un x) := by simp [dL, List.map_set]
def jK (p : Int × Int) : AV := .agg [I6 p.1, I6 p.2]
def dX (l : List (Int × Int)) : List AV := l.map jK
theorem hU (l : List (Int × Int)) : (dX l).length = l.length := by simp [dX]
theorem jE (n : Nat) (l : List (Int × Int)) : cI n (dX l) = true := jP n _ (fun _ => rfl) l
theorem aAX {l : List Nat} {j x : Nat} (h : ∀ y ∈ l, y < 18446744073709551616) (hx : x < 18446744073709551616) : ∀ y ∈ l.set j x, y < 18446744073709551616 := by
 intro y hy
 rcases List.mem_or_eq_of_mem_set hy with h1 | rfl
 ·exact h y h1
 ·exact hx
theorem vD (l : List Nat) : mR 1 (dL l) = true := pW 1 _ (fun _ => rfl) l
theorem aHY (l : List (Int × Int)) : mR 2 (dX l) = true := pW 2 _ (fun _ => rfl) l
theorem aIf (l : List (Int × Int)) : iV (dX l) = true := mC _ (fun _ => rfl) l
structure WI where
 op : Int
 d : Int
 a : Int
 b : Int
 c : Int
 k : Int
def WI.v (i : WI) : AV := .agg [I6 i.op, I6 i.d, I6 i.a, I6 i.b, I6 i.c, I6 i.k]
instance : Inhabited WI := ⟨⟨0, 0, 0, 0, 0, 0⟩⟩
def cJ (ws : List WI) : List AV := ws.map WI.v
theorem fP (ws : List WI) : (cJ ws).length = ws.length := by simp [cJ]
section
variable (G : aF) (k : Nat) (self : cE) (bor : Bool) (ws : List WI) (r m : Int)
def cV (bor : Bool) (ws : List WI) (r m : Int) : AV := .agg [.ro bor (cJ ws), I6 r, I6 m]
theorem fY (n : Nat) (l : List WI) : cI n (cJ l) = true := jP n _ (fun _ => rfl) l
end
def pS (op k : Int) (a : Nat) : Nat × Bool :=
 if k < 0 ∨ 63 < k then (0, false)
 else if op = 10 then (a * 2 ^ k.toNat % 18446744073709551616, true)
 else if op = 11 then (a / 2 ^ k.toNat, true)
 else (aLl a k.toNat, true)
def jN (op k : Int) (a b c : Nat) : Nat × Bool :=
 if op = 1 then (u64 k, true)
 else if op = 2 then (a, true)
 else if op = 3 then ((a + b) % 18446744073709551616, true)
 else if op = 4 then ((a + 18446744073709551616 - b) % 18446744073709551616, true)
 else if op = 5 then (a * b % 18446744073709551616, true)
 else if op = 6 then (a * b / 18446744073709551616, true)
 else if op = 7 then (a &&& b, true)
 else if op = 8 then (a ||| b, true)
 else if op = 9 then (a ^^^ b, true)
 else if op = 10 ∨ op = 11 ∨ op = 12 then pS op k a
 else if op = 13 then (if a < b then 1 else 0, true)
 else if op = 14 then (if a ≠ 0 then b else c, true)
 else (0, false)
structure MS where
 regs : List Nat
 at_ : Nat
 code : Int
 mem : List Nat
 leaks : List (Int × Int)
 steps : Nat
def MS.leak (s : MS) (kind at_ : Int) : MS := { s with leaks := s.leaks ++ [(kind, at_)] }
def MS.rg (s : MS) (i : Int) : Nat := s.regs.getD i.toNat 0
def MS.set (s : MS) (i : Int) (n : Nat) : MS := { s with regs := s.regs.set i.toNat n }
def MS.touch (s : MS) (i : WI) : MS × Bool :=
 let ad := (s.rg i.a + u64 i.k) % 18446744073709551616
 let s1 := s.leak 3 (qE ad)
 if s.mem.length ≤ ad then ({ s1 with code := 3 }, false)
 else if i.op = 15 then (s1.set i.d (s.mem.getD ad 0), true)
 else ({ s1 with mem := s.mem.set ad (s.rg i.b) }, true)
def MS.branch (s : MS) (i : WI) : MS :=
 if i.op = 17 then { s with at_ := i.k.toNat }
 else if (decide (s.rg i.a = 0) == decide (i.op = 18)) = true then { s.leak 2 1 with at_ := i.k.toNat }
 else s.leak 2 0
def MS.step (s : MS) (i : WI) : MS × Bool :=
 let s := { s with at_ := s.at_ + 1 }
 if i.op = 15 ∨ i.op = 16 then s.touch i
 else if i.op = 17 ∨ i.op = 18 ∨ i.op = 19 then (s.branch i, true)
 else if i.op = 20 then ({ s with code := i.k }, false)
 else if (jN i.op i.k (s.rg i.a) (s.rg i.b) (s.rg i.c)).2 = true then (s.set i.d (jN i.op i.k (s.rg i.a) (s.rg i.b) (s.rg i.c)).1, true)
 else (s, true)
structure MS.Ok (s : MS) (R : Nat) : Prop where
 len : s.regs.length = R
 regs : ∀ x ∈ s.regs, x < 18446744073709551616
 mem : ∀ x ∈ s.mem, x < 18446744073709551616
 leaks : s.leaks.length ≤ 3 * s.steps
 big : s.mem.length ≤ 1000000
 few : s.steps ≤ 100000
theorem MS.Ok.rg {s : MS} {R : Nat} (h : s.Ok R) (i : Int) : s.rg i < 18446744073709551616 := by
 unfold MS.rg
 rw [List.getD_eq_getElem?_getD]
 cases hq : s.regs[i.toNat]? with
 | none => decide
 | some x => exact h.regs x (List.mem_of_getElem? hq)
theorem MS.Ok.mg {s : MS} {R : Nat} (h : s.Ok R) (i : Nat) : s.mem.getD i 0 < 18446744073709551616 := by
 rw [List.getD_eq_getElem?_getD]
 cases hq : s.mem[i]? with
 | none => decide
 | some x => exact h.mem x (List.mem_of_getElem? hq)
structure WI.Ok (i : WI) (R n : Nat) : Prop where
 op : 1 ≤ i.op ∧ i.op ≤ 20
 a : i.op ≠ 17 → i.op ≠ 20 → 0 ≤ i.a ∧ i.a < R
 d : i.op ≤ 16 → 0 ≤ i.d ∧ i.d < R
 b : i.op ≤ 16 → 0 ≤ i.b ∧ i.b < R
 c : i.op ≤ 16 → 0 ≤ i.c ∧ i.c < R
 k : 17 ≤ i.op → i.op ≤ 19 → 0 ≤ i.k ∧ i.k ≤ n
section
variable (G : aF) (i : WI)
theorem aKy (H : aB) : gB i.v H = some (.rp false i.v 0, H) := rfl
theorem gi0 : aA 0 (.rp false i.v 0) = some (.rp false i.v 0) := rfl
theorem gi1 : aA 1 (.rp false i.v 0) = some (.rp false i.v 1) := rfl
theorem gi2 : aA 2 (.rp false i.v 0) = some (.rp false i.v 2) := rfl
theorem gi3 : aA 3 (.rp false i.v 0) = some (.rp false i.v 3) := rfl
theorem gi4 : aA 4 (.rp false i.v 0) = some (.rp false i.v 4) := rfl
theorem gi5 : aA 5 (.rp false i.v 0) = some (.rp false i.v 5) := rfl
theorem aJG (H : aB) : aE G false 1 (.rp false i.v 0) H = some (I6 i.op) := rfl
theorem aLq (H : aB) : aE G false 1 (.rp false i.v 1) H = some (I6 i.d) := rfl
theorem aJH (H : aB) : aE G false 1 (.rp false i.v 2) H = some (I6 i.a) := rfl
theorem gl3 (H : aB) : aE G false 1 (.rp false i.v 3) H = some (I6 i.b) := rfl
theorem aLr (H : aB) : aE G false 1 (.rp false i.v 4) H = some (I6 i.c) := rfl
theorem aLs (H : aB) : aE G false 1 (.rp false i.v 5) H = some (I6 i.k) := rfl
end
theorem aIP (op k : Int) (a b c : Nat) (ha : a < 18446744073709551616) (hb : b < 18446744073709551616) (hc : c < 18446744073709551616) : (jN op k a b c).1 < 18446744073709551616 := by
 have hm : ∀ n : Nat, n % 18446744073709551616 < 18446744073709551616 := fun n => Nat.mod_lt _ (by decide)
 have hs : (pS op k a).1 < 18446744073709551616 := by
  unfold pS
  split
  ·decide
  ·split
   ·exact hm _
   ·split
    ·exact Nat.lt_of_le_of_lt (Nat.div_le_self _ _) ha
    ·exact aHM _
 unfold jN
 by_cases e0 : op = 1
 ·rw [if_pos e0]; exact aHM _
 rw [if_neg e0]
 by_cases e1 : op = 2
 ·rw [if_pos e1]; exact ha
 rw [if_neg e1]
 by_cases e2 : op = 3
 ·rw [if_pos e2]; exact hm _
 rw [if_neg e2]
 by_cases e3 : op = 4
 ·rw [if_pos e3]; exact hm _
 rw [if_neg e3]
 by_cases e4 : op = 5
 ·rw [if_pos e4]; exact hm _
 rw [if_neg e4]
 by_cases e5 : op = 6
 ·rw [if_pos e5]; exact Nat.div_lt_of_lt_mul (Nat.mul_lt_mul'' ha hb)
 rw [if_neg e5]
 by_cases e6 : op = 7
 ·rw [if_pos e6]; exact Nat.lt_of_le_of_lt Nat.and_le_left ha
 rw [if_neg e6]
 by_cases e7 : op = 8
 ·rw [if_pos e7]; exact Nat.or_lt_two_pow (n := 64) ha hb
 rw [if_neg e7]
 by_cases e8 : op = 9
 ·rw [if_pos e8]; exact Nat.xor_lt_two_pow (n := 64) ha hb
 rw [if_neg e8]
 by_cases e9 : op = 10 ∨ op = 11 ∨ op = 12
 ·rw [if_pos e9]; exact hs
 rw [if_neg e9]
 by_cases e10 : op = 13
 ·rw [if_pos e10]; show (if a < b then 1 else 0) < 18446744073709551616; by_cases q : a < b
  ·rw [if_pos q]; decide
  ·rw [if_neg q]; decide
 rw [if_neg e10]
 by_cases e11 : op = 14
 ·rw [if_pos e11]; show (if a ≠ 0 then b else c) < 18446744073709551616; by_cases q : a ≠ 0
  ·rw [if_pos q]; exact hb
  ·rw [if_neg q]; exact hc
 rw [if_neg e11]
 decide
theorem MS.step_ok {s : MS} {R n : Nat} {i : WI} (h : s.Ok R) (hi : i.Ok R n) (hl : s.leaks.length + 1 ≤ 3 * s.steps) (hn : s.at_ < n) : (s.step i).1.Ok R ∧ (s.step i).1.at_ ≤ n ∧ (s.step i).1.steps = s.steps ∧ (s.step i).1.mem.length = s.mem.length := by
 have ok1 : ({ s with at_ := s.at_ + 1 } : MS).Ok R := ⟨h.len, h.regs, h.mem, h.leaks, h.big, h.few⟩
 unfold MS.step
 simp only
 split
 ·unfold MS.touch
  simp only [MS.leak, MS.set]
  split
  ·exact ⟨⟨h.len, h.regs, h.mem, by simpa using hl, h.big, h.few⟩, hn, rfl, rfl⟩
  ·split
   ·exact ⟨⟨by simpa using h.len, aAX h.regs (h.mg _), h.mem, by simpa using hl, h.big, h.few⟩, hn, rfl, rfl⟩
   ·exact ⟨⟨h.len, h.regs, aAX h.mem (ok1.rg _), by simpa using hl, by simpa using h.big, h.few⟩, hn, rfl, by simp⟩
 ·split
  ·rename_i h2
   have hk := hi.k (by omega) (by omega)
   unfold MS.branch
   split
   ·exact ⟨⟨h.len, h.regs, h.mem, h.leaks, h.big, h.few⟩, by simp only; omega, rfl, rfl⟩
   ·split
    ·exact ⟨⟨h.len, h.regs, h.mem, by simpa [MS.leak] using hl, h.big, h.few⟩, by simp only; omega, rfl, rfl⟩
    ·exact ⟨⟨h.len, h.regs, h.mem, by simpa [MS.leak] using hl, h.big, h.few⟩, hn, rfl, rfl⟩
  ·split
   ·exact ⟨⟨h.len, h.regs, h.mem, h.leaks, h.big, h.few⟩, hn, rfl, rfl⟩
   ·split
    ·exact ⟨⟨by simpa [MS.set] using h.len, aAX h.regs (aIP _ _ _ _ _ (ok1.rg _) (ok1.rg _) (ok1.rg _)), h.mem, h.leaks, h.big, h.few⟩, hn, rfl, rfl⟩
    ·exact ⟨ok1, hn, rfl, rfl⟩
def MS.tick (s : MS) : MS := ({ s with steps := s.steps + 1 } : MS).leak 1 s.at_
def jB (cs : List WI) (fuel : Int) : Nat → MS → Option MS
 | 0, _ => none
 | f + 1, s =>
  if cs.length ≤ s.at_ then some { s with code := 3 }
  else if (s.steps : Int) = fuel then some { s with code := 4 }
  else match s.tick.step (cs.getD s.at_ default) with
   | (s', true) => jB cs fuel f s'
   | (s', false) => some s'
section
variable (G : aF) (bor : Bool) (cs : List WI)
theorem aCv (j : Nat) (h : j < cs.length) : aM 6 (.ro bor (cJ cs)) (Nn j) = some (.rp bor (cs.getD j default).v 0) := by
 have h0 : (0 : Int) ≤ (j : Int) := by omega
 have e : (cJ cs)[(j : Int).toNat]? = some (cs.getD j default).v := by
  rw [Int.toNat_natCast]
  simp [cJ, List.getElem?_map, List.getD, List.getElem?_eq_getElem h]
 unfold aM
 simp only [e]
 rw [if_pos h0]
 rfl
end
theorem tU (cs : List WI) (fuel : Int) : ∀ (f : Nat) (s : MS), (s.steps : Int) ≤ fuel → fuel - s.steps < f → ∃ s', jB cs fuel f s = some s'
 | 0, s, h, h2 => by omega
 | f + 1, s, h, h2 => by
  simp only [jB]
  by_cases h1 : cs.length ≤ s.at_
  ·rw [if_pos h1]; exact ⟨_, rfl⟩
  rw [if_neg h1]
  by_cases h3 : (s.steps : Int) = fuel
  ·rw [if_pos h3]; exact ⟨_, rfl⟩
  rw [if_neg h3]
  have e : ∀ i, (s.tick.step i).1.steps = s.steps + 1 := fun i => by
   unfold MS.step MS.touch MS.branch
   simp only
   repeat' split
   all_goals rfl
  have e' := e (cs.getD s.at_ default)
  obtain ⟨s2, b, hsb⟩ : ∃ s2 b, s.tick.step (cs.getD s.at_ default) = (s2, b) := ⟨_, _, rfl⟩
  rw [hsb] at e' ⊢
  cases b
  ·exact ⟨_, rfl⟩
  ·exact tU cs fuel f s2 (by simp only at e'; omega) (by simp only at e'; omega)
def s0 (R : Nat) (mem : List Nat) : MS := ⟨List.replicate R 0, 0, 0, mem, [], 0⟩
theorem aCZ (R : Nat) (mem : List Nat) (hm : ∀ x ∈ mem, x < 18446744073709551616) (hl : mem.length ≤ 1000000) : (s0 R mem).Ok R :=
 ⟨by simp [s0], fun x hx => by simp [s0] at hx; omega, hm, by simp [s0], hl, by simp [s0]⟩
theorem aAk (l : List WI) : mR 6 (cJ l) = true := pW 6 _ (fun _ => rfl) l
theorem aGT (l : List WI) : gC (cJ l) = true := mH _ (fun _ => rfl) l
theorem aGi (l : List WI) : iV (cJ l) = true := mC _ (fun _ => rfl) l
section
variable {cs : List WI} {fuel : Int} {f : Nat} {s s2 : MS} {i : WI}
theorem aIE (h1 : s.at_ < cs.length) (h2 : (s.steps : Int) ≠ fuel) (hi : cs.getD s.at_ default = i) (h : s.tick.step i = (s2, true)) : jB cs fuel (f + 1) s = jB cs fuel f s2 := by
 simp only [jB]
 rw [if_neg (by omega), if_neg h2, hi, h]
theorem aHz (h1 : s.at_ < cs.length) (h2 : (s.steps : Int) ≠ fuel) (hi : cs.getD s.at_ default = i) (h : s.tick.step i = (s2, false)) : jB cs fuel (f + 1) s = some s2 := by
 simp only [jB]
 rw [if_neg (by omega), if_neg h2, hi, h]
theorem aHA (h1 : cs.length ≤ s.at_) : jB cs fuel (f + 1) s = some { s with code := 3 } := by
 simp only [jB]
 rw [if_pos h1]
end
def ro (e : Nat) : Nat := if e = 0 then 1 else if e = 1 then 2 else if e = 2 then 0 else if e = 3 then 4 else if e = 4 then 3 else 5
structure Frm where
 d : Bool
 a : Bool
 b : Bool
 c : Bool
 k : Bool
def fO (op : Int) : Option Frm :=
 if op = 1 then some ⟨true, false, false, false, true⟩
 else if op = 2 then some ⟨true, true, false, false, false⟩
 else if (3 ≤ op ∧ op ≤ 9) ∨ op = 13 then some ⟨true, true, true, false, false⟩
 else if (10 ≤ op ∧ op ≤ 12) ∨ op = 15 then some ⟨true, true, false, false, true⟩
 else if op = 14 then some ⟨true, true, true, true, false⟩
 else if op = 16 then some ⟨false, true, true, false, true⟩
 else if op = 17 ∨ op = 20 then some ⟨false, false, false, false, true⟩
 else if op = 18 ∨ op = 19 then some ⟨false, true, false, false, true⟩
 else none
def cK (op : Int) : ByteArray :=
 if op = 1 then ⟨#[99, 111, 110, 115, 116]⟩ else if op = 2 then ⟨#[109, 111, 118]⟩ else if op = 3 then ⟨#[97, 100, 100]⟩ else if op = 4 then ⟨#[115, 117, 98]⟩ else if op = 5 then ⟨#[109, 117, 108]⟩
 else if op = 6 then ⟨#[104, 105, 103, 104]⟩ else if op = 7 then ⟨#[97, 110, 100]⟩ else if op = 8 then ⟨#[111, 114]⟩ else if op = 9 then ⟨#[120, 111, 114]⟩ else if op = 10 then ⟨#[115, 104, 108]⟩
 else if op = 11 then ⟨#[115, 104, 114]⟩ else if op = 12 then ⟨#[115, 97, 114]⟩ else if op = 13 then ⟨#[108, 101, 115, 115]⟩ else if op = 14 then ⟨#[115, 101, 108]⟩ else if op = 15 then ⟨#[108, 100]⟩
 else if op = 16 then ⟨#[115, 116]⟩ else if op = 17 then ⟨#[98, 114]⟩ else if op = 18 then ⟨#[98, 122]⟩ else if op = 19 then ⟨#[98, 110, 122]⟩ else if op = 20 then ⟨#[104, 97, 108, 116]⟩ else ⟨#[110, 111, 110, 101]⟩
def fW (w : ByteArray) (f : Frm) : AV := .agg [.str w, .bool f.d, .bool f.a, .bool f.b, .bool f.c, .bool f.k]
def dM (op : Int) : Frm := match fO op with | some f => f | none => ⟨false, false, false, false, false⟩
theorem yG {op : Int} (h : 1 ≤ op ∧ op ≤ 20) : op = 1 ∨ op = 2 ∨ op = 3 ∨ op = 4 ∨ op = 5 ∨ op = 6 ∨ op = 7 ∨ op = 8 ∨ op = 9 ∨ op = 10 ∨ op = 11 ∨ op = 12 ∨ op = 13 ∨ op = 14 ∨ op = 15 ∨ op = 16 ∨ op = 17 ∨ op = 18 ∨ op = 19 ∨ op = 20 := by omega
theorem lZ {op : Int} (h : ¬ (1 ≤ op ∧ op ≤ 20)) : fO op = none := by
 unfold fO
 repeat rw [if_neg (by omega)]
theorem aEf {op : Int} (h : ¬ (1 ≤ op ∧ op ≤ 20)) : cK op = ⟨#[110, 111, 110, 101]⟩ := by
 unfold cK
 repeat rw [if_neg (by omega)]
theorem iO (G : aF) (k : Nat) (op : Int) : dY.f G (k + 4) [I6 op] [] = some (.tup [fW (cK op) (dM op), .bool (fO op).isSome], []) := by
 by_cases h : 1 ≤ op ∧ op ≤ 20
 ·rcases yG h with rfl | rfl | rfl | rfl | rfl | rfl | rfl | rfl | rfl | rfl | rfl | rfl | rfl | rfl | rfl | rfl | rfl | rfl | rfl | rfl <;> kernel_rfl
 ·rw [dY.step]
  unfold dY.c
  unfold dM
  rw [lZ h, aEf h]
  refine gQ ?_
  have fx := True.intro
  refine kU ?_
  refine gA ?_
  rfl
def bsV (f : Frm) : AV := .ro false [.bool f.d, .bool f.a, .bool f.b, .bool f.c, .bool f.k]
def isV (i : WI) : AV := .ro false [I6 i.d, I6 i.a, I6 i.b, I6 i.c, I6 i.k]
theorem aGx (G : aF) (k : Nat) (i : WI) (w : ByteArray) (f : Frm) : fX.f G (k + 1) [i.v, fW w f] [] = some (.tup [bsV f, isV i], []) := by kernel_rfl
abbrev eV (g : Nat) : AV := .iface 179 (.gp (ro g))
def iY (is : Bool) (r R : Int) : Bool := is && (decide (r < 0) || decide (R ≤ r))
section
variable (G : aF) (k : Nat) (self : cE) (c1 : AV) (R : Int) (hR0 : 0 ≤ R)
abbrev bxC (cv : AV) (R M : Int) : AV := .rp false (.agg [cv, I6 R, I6 M]) 0
abbrev xs6 (cv : AV) (R M : Int) (i : WI) (f : Frm) (j : Int) : List AV := [bxC cv R M, .rp false i.v 0, .nili, bsV f, isV i, I6 j]
theorem tH {bor : Bool} {xs : List AV} {k' : IntKind} {j : Nat} {y : AV} (h : xs[j]? = some y) (h1 : y.cells.length = 1) : aM 1 (.ro bor xs) (.int k' (j : Int)) = some (.rp bor y 0) := by
 unfold aM
 simp [h, h1]
theorem aJh {b bor : Bool} {H : aB} : aE G false 1 (.rp bor (.bool b) 0) H = some (.bool b) := rfl
theorem aJi {n : Int} {bor : Bool} {H : aB} : aE G false 1 (.rp bor (I6 n) 0) H = some (I6 n) := rfl
theorem sC (cv : AV) (M : Int) (i : WI) (f : Frm) (j : Nat) (hj : j < 4) (t : Bool) (p : Int) (ht : [AV.bool f.d, .bool f.a, .bool f.b, .bool f.c, .bool f.k][j]? = some (.bool t)) (hp : [I6 i.d, I6 i.a, I6 i.b, I6 i.c, I6 i.k][j]? = some (I6 p))
  (hG : G 0 = some (eV 2)) (hcl : cB 0 cv = true) (n : Nat) :
  dK (cZ.l6 G k 1 self) (n + 1) (xs6 cv R M i f j) [⟨100, 6, [fW (cK i.op) f]⟩] =
   if iY t p R = true then some (.ret, [bxC cv R M, .rp false i.v 0, eV 2, bsV f, isV i, I6 j], [⟨100, 6, [fW (cK i.op) f]⟩])
   else dK (cZ.l6 G k 1 self) n (xs6 cv R M i f (j + 1 : Nat)) [⟨100, 6, [fW (cK i.op) f]⟩] := by
 rw [bB, cZ.l6]
 have hc : fN 1 (xs6 cv R M i f j) [⟨100, 6, [fW (cK i.op) f]⟩] = some [⟨100, 6, [fW (cK i.op) f]⟩] := by
  have := iR (Nat.zero_le 1) hcl
  simp [fN, cI, cB, dI, this, bsV, isV, WI.v, fW]
 have d1 : aM 1 (bsV f) (I6 j) = some (.rp false (.bool t) 0) := tH ht rfl
 have d2 : aM 1 (isV i) (I6 j) = some (.rp false (I6 p) 0) := tH hp rfl
 have l1 := fun (b bor : Bool) (H : aB) => @aJh G b bor H
 have l2 := fun (n : Int) (bor : Bool) (H : aB) => @aJi G n bor H
 have l3 : ∀ H, aE G false 1 (.gl 0) H = some (eV 2) := fun H => hG
 refine fV ?_
 refine eC hc ?_
 cases t
 ·rw [show iY false p R = false from rfl, if_neg (by simp)]
  have fx := aMv d1 <| aMv d2 <| aMv l1 <| l2
  refine kU ?_
  rfl
 ·by_cases ho : p < 0 ∨ R ≤ p
  ·have e : iY true p R = true := by unfold iY; rcases ho with h | h <;> simp [h]
   rw [if_pos e]
   have fx := aMv d1 <| aMv d2 <| aMv l1 <| aMv l2 <| l3
   refine kU ?_
   rfl
  ·have e : iY true p R = false := by unfold iY; simp; omega
   rw [if_neg (by simp [e])]
   have fx := aMv d1 <| aMv d2 <| aMv l1 <| aMv l2 <| l3
   refine kU ?_
   rfl
theorem aJW (cv : AV) (M : Int) (i : WI) (f : Frm) (hcl : cB 0 cv = true) (n : Nat) :
  dK (cZ.l6 G k 1 self) (n + 1) (xs6 cv R M i f (4 : Nat)) [⟨100, 6, [fW (cK i.op) f]⟩] = some (.exit 0, xs6 cv R M i f (4 : Nat), [⟨100, 6, [fW (cK i.op) f]⟩]) := by
 rw [bB, cZ.l6]
 have hc : fN 1 (xs6 cv R M i f (4 : Nat)) [⟨100, 6, [fW (cK i.op) f]⟩] = some [⟨100, 6, [fW (cK i.op) f]⟩] := by
  have := iR (Nat.zero_le 1) hcl
  simp [fN, cI, cB, dI, this, bsV, isV, WI.v, fW]
 refine fV ?_
 refine eC hc ?_
 have fx := True.intro
 refine kU ?_
 rfl
def kH (f : Frm) (i : WI) (R : Int) : Bool := iY f.d i.d R || iY f.a i.a R || iY f.b i.b R || iY f.c i.c R
def kP (f : Frm) (i : WI) : Bool := (!f.d && decide (i.d ≠ 0)) || (!f.a && decide (i.a ≠ 0)) || (!f.b && decide (i.b ≠ 0)) || (!f.c && decide (i.c ≠ 0)) || (!f.k && decide (i.k ≠ 0))
theorem aJV (cv : AV) (M : Int) (i : WI) (f : Frm) (hG : G 0 = some (eV 2)) (hcl : cB 0 cv = true) (n : Nat) :
  (kH f i R = true → ∃ j, dK (cZ.l6 G k 1 self) (n + 5) (xs6 cv R M i f (0 : Nat)) [⟨100, 6, [fW (cK i.op) f]⟩] = some (.ret, [bxC cv R M, .rp false i.v 0, eV 2, bsV f, isV i, j], [⟨100, 6, [fW (cK i.op) f]⟩])) ∧
  (kH f i R = false → dK (cZ.l6 G k 1 self) (n + 5) (xs6 cv R M i f (0 : Nat)) [⟨100, 6, [fW (cK i.op) f]⟩] = some (.exit 0, xs6 cv R M i f (4 : Nat), [⟨100, 6, [fW (cK i.op) f]⟩])) := by
 rw [sC G k self R cv M i f 0 (by omega) f.d i.d rfl rfl hG hcl]
 rw [sC G k self R cv M i f 1 (by omega) f.a i.a rfl rfl hG hcl]
 rw [sC G k self R cv M i f 2 (by omega) f.b i.b rfl rfl hG hcl]
 rw [sC G k self R cv M i f 3 (by omega) f.c i.c rfl rfl hG hcl]
 rw [aJW G k self R cv M i f hcl]
 unfold kH
 generalize iY f.d i.d R = o1
 generalize iY f.a i.a R = o2
 generalize iY f.b i.b R = o3
 generalize iY f.c i.c R = o4
 cases o1 <;> cases o2 <;> cases o3 <;> cases o4 <;> simp
abbrev aBG (cv : AV) (R M : Int) (i : WI) (f : Frm) (j : Int) : List AV := [bxC cv R M, .rp false i.v 0, .nili, isV i, bsV f, .int .i64 5, I6 j]
theorem nJ (cv : AV) (M : Int) (i : WI) (f : Frm) (j : Nat) (hj : j < 5) (t : Bool) (p : Int) (ht : [AV.bool f.d, .bool f.a, .bool f.b, .bool f.c, .bool f.k][j]? = some (.bool t)) (hp : [I6 i.d, I6 i.a, I6 i.b, I6 i.c, I6 i.k][j]? = some (I6 p))
  (hG : G 4 = some (eV 3)) (hcl : cB 0 cv = true) (n : Nat) :
  dK (cZ.l12 G k 1 self) (n + 1) (aBG cv R M i f j) [⟨100, 6, [fW (cK i.op) f]⟩] =
   if (!t && decide (p ≠ 0)) = true then some (.ret, [bxC cv R M, .rp false i.v 0, eV 3, isV i, bsV f, .int .i64 5, I6 j], [⟨100, 6, [fW (cK i.op) f]⟩])
   else dK (cZ.l12 G k 1 self) n (aBG cv R M i f (j + 1 : Nat)) [⟨100, 6, [fW (cK i.op) f]⟩] := by
 rw [bB, cZ.l12]
 have hc : fN 1 (aBG cv R M i f j) [⟨100, 6, [fW (cK i.op) f]⟩] = some [⟨100, 6, [fW (cK i.op) f]⟩] := by
  have := iR (Nat.zero_le 1) hcl
  simp [fN, cI, cB, dI, this, bsV, isV, WI.v, fW]
 have d1 : aM 1 (bsV f) (I6 j) = some (.rp false (.bool t) 0) := tH ht rfl
 have d2 : aM 1 (isV i) (I6 j) = some (.rp false (I6 p) 0) := tH hp rfl
 have l1 := fun (b bor : Bool) (H : aB) => @aJh G b bor H
 have l2 := fun (n : Int) (bor : Bool) (H : aB) => @aJi G n bor H
 have l3 : ∀ H, aE G false 1 (.gl 4) H = some (eV 3) := fun H => hG
 refine fV ?_
 refine eC hc ?_
 cases t
 ·by_cases ho : p ≠ 0
  ·rw [if_pos (by simp [ho])]
   have fx := aMv d1 <| aMv d2 <| aMv l1 <| aMv l2 <| l3
   refine kU ?_
   rfl
  ·rw [if_neg (by simp [ho])]
   have fx := aMv d1 <| aMv d2 <| aMv l1 <| aMv l2 <| l3
   refine kU ?_
   rfl
 ·rw [if_neg (by simp)]
  have fx := aMv d1 <| aMv d2 <| aMv l1 <| l2
  refine kU ?_
  rfl
theorem aIp (cv : AV) (M : Int) (i : WI) (f : Frm) (hcl : cB 0 cv = true) (n : Nat) :
  dK (cZ.l12 G k 1 self) (n + 1) (aBG cv R M i f (5 : Nat)) [⟨100, 6, [fW (cK i.op) f]⟩] = some (.exit 2, aBG cv R M i f (5 : Nat), [⟨100, 6, [fW (cK i.op) f]⟩]) := by
 rw [bB, cZ.l12]
 have hc : fN 1 (aBG cv R M i f (5 : Nat)) [⟨100, 6, [fW (cK i.op) f]⟩] = some [⟨100, 6, [fW (cK i.op) f]⟩] := by
  have := iR (Nat.zero_le 1) hcl
  simp [fN, cI, cB, dI, this, bsV, isV, WI.v, fW]
 refine fV ?_
 refine eC hc ?_
 have fx := True.intro
 refine kU ?_
 rfl
theorem aIo (cv : AV) (M : Int) (i : WI) (f : Frm) (hG : G 4 = some (eV 3)) (hcl : cB 0 cv = true) (n : Nat) :
  (kP f i = true → ∃ j, dK (cZ.l12 G k 1 self) (n + 6) (aBG cv R M i f (0 : Nat)) [⟨100, 6, [fW (cK i.op) f]⟩] = some (.ret, [bxC cv R M, .rp false i.v 0, eV 3, isV i, bsV f, .int .i64 5, j], [⟨100, 6, [fW (cK i.op) f]⟩])) ∧
  (kP f i = false → dK (cZ.l12 G k 1 self) (n + 6) (aBG cv R M i f (0 : Nat)) [⟨100, 6, [fW (cK i.op) f]⟩] = some (.exit 2, aBG cv R M i f (5 : Nat), [⟨100, 6, [fW (cK i.op) f]⟩])) := by
 rw [nJ G k self R cv M i f 0 (by omega) f.d i.d rfl rfl hG hcl]
 rw [nJ G k self R cv M i f 1 (by omega) f.a i.a rfl rfl hG hcl]
 rw [nJ G k self R cv M i f 2 (by omega) f.b i.b rfl rfl hG hcl]
 rw [nJ G k self R cv M i f 3 (by omega) f.c i.c rfl rfl hG hcl]
 rw [nJ G k self R cv M i f 4 (by omega) f.k i.k rfl rfl hG hcl]
 rw [aIp G k self R cv M i f hcl]
 unfold kP
 generalize (!f.d && decide (i.d ≠ 0)) = o1
 generalize (!f.a && decide (i.a ≠ 0)) = o2
 generalize (!f.b && decide (i.b ≠ 0)) = o3
 generalize (!f.c && decide (i.c ≠ 0)) = o4
 generalize (!f.k && decide (i.k ≠ 0)) = o5
 cases o1 <;> cases o2 <;> cases o3 <;> cases o4 <;> cases o5 <;> simp
end
def fZ (i : WI) (R n : Int) : Option Nat :=
 if (fO i.op).isSome = false then some 4
 else if kH (dM i.op) i R = true then some 2
 else if kP (dM i.op) i = true then some 3
 else if i.op = 10 ∨ i.op = 11 ∨ i.op = 12 then (if i.k < 0 ∨ 63 < i.k then some 2 else none)
 else if i.op = 20 then (if i.k < 0 ∨ 2 < i.k then some 2 else none)
 else if i.op = 15 ∨ i.op = 16 then (if i.k < 0 ∨ 65535 < i.k then some 2 else none)
 else if i.op = 17 ∨ i.op = 18 ∨ i.op = 19 then (if i.k < 0 ∨ n < i.k then some 5 else none)
 else none
def aFo (o : Option Nat) : AV := match o with | some g => eV g | none => .nili
structure GOk (G : aF) : Prop where
 g0 : G 1 = some (eV 0)
 g2 : G 0 = some (eV 2)
 g3 : G 4 = some (eV 3)
 g4 : G 3 = some (eV 4)
 g5 : G 5 = some (eV 5)
theorem w1e {x : AV} {o : Option Nat} {H : aB} (e : aFo o = x) (hx : cB 0 x = true) : E fE [] (cH [x] 0 H) (some (aFo o, [])) := by subst e; exact oF (mB hx H)
theorem aEe {bor : Bool} (G : aF) (hg : GOk G) (k : Nat) (cs : List WI) (R M : Int) (i : WI) :
  cZ.f G (k + 7) [cV bor cs R M, i.v] [] = some (aFo (fZ i R cs.length), []) := by
 rw [cZ.step]
 unfold cZ.c cV
 have r1 : ∀ H, aW (dY.f G (k + 6)) [I6 i.op] H = _ := fun H => cG (H := H) (iO G (k + 2) i.op) rfl rfl
 have r2 : ∀ H, aW (fX.f G (k + 6)) [i.v, fW (cK i.op) (dM i.op)] H = _ := fun H => cG (H := H) (aGx G (k + 5) i _ _) rfl rfl
 have b1 : ∀ H, gB i.v H = some (.rp false i.v 0, H) := fun H => rfl
 have g0 : aA 0 (.rp false i.v 0) = some (.rp false i.v 0) := rfl
 have g5 : aA 5 (.rp false i.v 0) = some (.rp false i.v 5) := rfl
 have l0 : ∀ H, aE G false 1 (.rp false i.v 0) H = some (I6 i.op) := fun H => rfl
 have l5 : ∀ H, aE G false 1 (.rp false i.v 5) H = some (I6 i.k) := fun H => rfl
 have l6 : ∀ H, aE G true 6 (.rp false i.v 0) H = some i.v := fun H => rfl
 have e2 : ∀ H, aE G false 1 (.gl 0) H = some (eV 2) := fun H => hg.g2
 have e4 : ∀ H, aE G false 1 (.gl 3) H = some (eV 4) := fun H => hg.g4
 have e5 : ∀ H, aE G false 1 (.gl 5) H = some (eV 5) := fun H => hg.g5
 have st : fM (aV 6 (.ptr 0 1 0 0) (fW (cK i.op) (dM i.op)) [⟨100, 6, [.agg [(.str ⟨#[]⟩), (.bool false), (.bool false), (.bool false), (.bool false), (.bool false)]]⟩]) = some (.tup [], [⟨100, 6, [fW (cK i.op) (dM i.op)]⟩]) := rfl
 have ld : aE G true 6 (.ptr 0 1 0 0) [⟨100, 6, [fW (cK i.op) (dM i.op)]⟩] = some (fW (cK i.op) (dM i.op)) := rfl
 have lc : dD (.ro bor (cJ cs)) = some (I6 cs.length) := by simp [dD, fP]
 have lb : dD (bsV (dM i.op)) = some (.int .i64 5) := rfl
 have hcl : cB 0 (.ro bor (cJ cs)) = true := by simp [cB, fY]
 obtain ⟨p1, p2⟩ := aJV G (k + 6) (cZ.f G (k + 6)) R (.ro bor (cJ cs)) M i (dM i.op) hg.g2 hcl (k + 1)
 obtain ⟨p3, p4⟩ := aIo G (k + 6) (cZ.f G (k + 6)) R (.ro bor (cJ cs)) M i (dM i.op) hg.g3 hcl k
 refine gQ ?_
 by_cases h0 : (fO i.op).isSome = false
 ·have e : fZ i R cs.length = some 4 := by unfold fZ; rw [if_pos h0]
  rw [e]
  rw [h0] at r1
  have fx := aMv r1 <| aMv b1 <| aMv g0 <| aMv l0 <| aMv st <| e4
  refine kU ?_
  exact w1e (by rfl) (by rfl)
 have h0' : (fO i.op).isSome = true := by
  cases hh : (fO i.op).isSome
  ·exact absurd hh h0
  ·rfl
 rw [h0'] at r1
 by_cases h1 : kH (dM i.op) i R = true
 ·have e : fZ i R cs.length = some 2 := by unfold fZ; rw [if_neg h0, if_pos h1]
  rw [e]
  obtain ⟨j, p1⟩ := p1 h1
  clear p2 p3 p4
  unfold bxC at p1
  have fx := aMv r1 <| aMv r2 <| aMv b1 <| aMv g0 <| aMv l0 <| aMv l6 <| aMv st <| aMv ld <| e2
  have lx1 := p1
  refine kU ?_
  exact w1e (by rfl) (by rfl)
 replace p2 := p2 (by simpa using h1)
 clear p1
 by_cases h2 : kP (dM i.op) i = true
 ·have e : fZ i R cs.length = some 3 := by unfold fZ; rw [if_neg h0, if_neg h1, if_pos h2]
  rw [e]
  obtain ⟨j, p3⟩ := p3 h2
  clear p4
  have fx := aMv r1 <| aMv r2 <| aMv b1 <| aMv g0 <| aMv l0 <| aMv l6 <| aMv st <| aMv ld <| aMv e2 <| lb
  have lx1 := p2
  have lx2 := p3
  refine kU ?_
  exact w1e (by rfl) (by rfl)
 replace p4 := p4 (by simpa using h2)
 clear p3
 have e : fZ i R cs.length = (if i.op = 10 ∨ i.op = 11 ∨ i.op = 12 then (if i.k < 0 ∨ 63 < i.k then some 2 else none)
 else if i.op = 20 then (if i.k < 0 ∨ 2 < i.k then some 2 else none)
 else if i.op = 15 ∨ i.op = 16 then (if i.k < 0 ∨ 65535 < i.k then some 2 else none)
 else if i.op = 17 ∨ i.op = 18 ∨ i.op = 19 then (if i.k < 0 ∨ (cs.length : Int) < i.k then some 5 else none)
 else none) := by unfold fZ; rw [if_neg h0, if_neg h1, if_neg h2]
 rw [e]
 clear e
 repeat' first
  | (with_reducible first | refine eT ?_ | refine eN ?_ | refine eS ?_ | refine eXn ?_ | refine eXr ?_ | refine eX ?_ | refine eI ?_ | refine eK ?_ | refine eV0 ?_ | refine xZ ?_ | refine yC ?_ | refine xW ?_ | refine yB ?_ | refine xX ?_ | refine xY ?_)
  | ((with_reducible apply eCn); (simp only [fB, fA]; first | done | (with_reducible exact rfl)))
  | ((with_reducible apply eJ); (rfl))
  | ((with_reducible apply yA); (first | rfl | (simp only [fB, fA]; rfl)))
  | ((with_reducible apply eL); (first | exact p2 | exact p4))
  | ((with_reducible apply eB); (first | (with_reducible exact rfl) | (simp (disch := omega) only [qf, r1, r2, b1, g0, g5, l0, l5, l6, st, ld, e2, e5, lb, lc]; first | done | (with_reducible exact rfl) | (with_reducible exact ⟨rfl, rfl⟩)) | (simp (disch := omega) only [qa, kA, AV.cells, gD, cP, kD, fQ, gX, jH, Nat.reduceLeDiff, Nat.reduceLT, Nat.reduceAdd, ↓reduceIte, r1, r2, b1, g0, g5, l0, l5, l6, st, ld, e2, e5, lb, lc]; first | done | (with_reducible exact rfl) | (with_reducible exact ⟨rfl, rfl⟩))))
  | ((with_reducible apply eR); (simp only [fB, fA]; (with_reducible exact rfl)))
  | ((with_reducible first | refine aBl ?_ ?_ | refine aBq ?_ ?_ | refine aBp ?_ ?_ | refine aBo ?_ ?_ | refine aBn ?_ ?_ | refine aBm ?_ ?_ | refine aBr ?_ ?_ | refine sO ?_ ?_ | refine sGd ?_ ?_ | refine rS ?_ ?_) <;> intro hq <;> try subst hq)
 all_goals (refine w1e ?_ (by rfl); (first | (with_reducible rfl) | ((try simp (disch := omega) only [if_pos, if_neg, if_true, if_false, ↓reduceIte, aFo]) <;> first | done | rfl | omega)))
inductive VE where
 | ok
 | bare (e : Nat)
 | at_ (j e : Nat)
def veV : VE → AV
 | .ok => .nili
 | .bare e => eV e
 | .at_ j e => .iface 126 (.rp false (.agg [Nn j, eV e]) 0)
def lA (R n : Int) : List WI → Nat → VE
 | [], _ => .ok
 | i :: l, j => match fZ i R n with
  | some e => .at_ j e
  | none => lA R n l (j + 1)
def gS (cs : List WI) (R M : Int) : VE :=
 if 262144 < cs.length then .bare 0
 else if R < 0 ∨ 65536 < R ∨ M < 0 ∨ 65536 < M then .bare 0
 else lA R cs.length cs 0
theorem qG (v : VE) : gO (veV v) = true := by cases v <;> rfl
theorem aIQ (v : VE) : cB 0 (veV v) = true := by cases v <;> rfl
section
variable {bor : Bool} (G : aF) (hg : GOk G) (k : Nat) (self : cE) (cs : List WI) (R M : Int)
abbrev xsV (bor : Bool) (cs : List WI) (R M : Int) (x : AV) (j : Nat) : List AV := [bxC (.ro bor (cJ cs)) R M, x, .ro bor (cJ cs), I6 cs.length, Nn j]
include hg in
theorem vS (hcl : cs.length ≤ 1000000) : ∀ (l pre : List WI) (f : Nat) (H : aB), cs = pre ++ l → l.length < f →
  ∃ o, dK (cX.l6 G (k + 7) 0 self) f (xsV bor cs R M .nili pre.length) H = some o ∧
   (match lA R cs.length l pre.length with
    | .ok => o = (.exit 1, xsV bor cs R M .nili cs.length, [])
    | v => ∃ j H', o = (.ret, xsV bor cs R M (veV v) j, H'))
 | l, pre, 0, H, hcs, hf => by omega
 | [], pre, f + 1, H, hcs, hf => by
  rw [bB, cX.l6]
  have hl : cs.length = pre.length := by rw [hcs]; simp
  refine ⟨_, ?_, rfl⟩
  have hc : fN 0 (xsV bor cs R M .nili pre.length) H = some [] := by simp [fN, cI, cB, dI, fY]
  refine lC hc ?_
  refine fV ?_
  have hge : ¬ (pre.length : Int) < (cs.length : Int) := by omega
  have q : aX Tryd.prog .lss 3 false (Nn pre.length) (Nn cs.length) = some (.bool false) := by rw [hJ, decide_eq_false hge]
  have fx := q
  refine kU ?_
  rw [hl]
  rfl
 | i :: l, pre, f + 1, H, hcs, hf => by
  rw [bB, cX.l6]
  have hl : cs.length = pre.length + (l.length + 1) := by rw [hcs]; simp
  have hc : fN 0 (xsV bor cs R M .nili pre.length) H = some [] := by simp [fN, cI, cB, dI, fY]
  have hi : cs.getD pre.length default = i := by rw [hcs]; simp [List.getD]
  have q : aX Tryd.prog .lss 3 false (Nn pre.length) (Nn cs.length) = some (.bool true) := by rw [hJ, decide_eq_true (by omega)]
  have d1 := aCv bor cs pre.length (by omega)
  rw [hi] at d1
  have d2 : ∀ H, aE G true 6 (.rp bor i.v 0) H = some i.v := fun H => rfl
  have d3 : fM (aV 6 (.ptr 0 1 0 0) i.v [⟨29, 6, [.agg [.int .i64 0, .int .i64 0, .int .i64 0, .int .i64 0, .int .i64 0, .int .i64 0]]⟩]) = some (.tup [], [⟨29, 6, [i.v]⟩]) := rfl
  have d4 : aE G true 6 (.ptr 0 1 0 0) [⟨29, 6, [i.v]⟩] = some i.v := rfl
  have d5 : ∀ H, aW (cZ.f G (k + 7)) [.agg [.ro bor (cJ cs), I6 R, I6 M], i.v] H = _ := fun H => cG (H := H) (aEe G hg k cs R M i) (by simp [gC, bV, aGT, WI.v]) (by cases fZ i R cs.length <;> rfl)
  cases ho : fZ i R cs.length with
  | some e =>
   have hb : lA R cs.length (i :: l) pre.length = .at_ pre.length e := by simp only [lA, ho]
   rw [hb]
   rw [ho] at d5
   have q2 : aX Tryd.prog .neq 33 true (eV e) .nili = some (.bool true) := by kernel_rfl
   refine ⟨_, ?_, pre.length, [⟨29, 6, [i.v]⟩], rfl⟩
   refine lC hc ?_
   refine fV ?_
   simp only [aFo] at d5
   have fx := aMv q <| aMv d1 <| aMv d2 <| aMv d3 <| aMv d4 <| aMv d5 <| q2
   refine kU ?_
   rfl
  | none =>
   rw [ho] at d5
   have q2 : aX Tryd.prog .neq 33 true .nili .nili = some (.bool false) := by kernel_rfl
   obtain ⟨o, h1, h2⟩ := vS hcl l (pre ++ [i]) f [⟨29, 6, [i.v]⟩] (by rw [hcs]; simp) (by simp at hf; omega)
   have hlen : (pre ++ [i]).length = pre.length + 1 := by simp
   rw [hlen] at h1 h2
   have hb : lA R cs.length (i :: l) pre.length = lA R cs.length l (pre.length + 1) := by simp only [lA, ho]
   rw [hb]
   refine ⟨o, ?_, h2⟩
   refine lC hc ?_
   refine fV ?_
   simp only [aFo] at d5
   have q3 : aX Tryd.prog .add 3 true (Nn pre.length) (.int .i64 1) = some (Nn (pre.length + 1)) := by
    rw [gR, eD (by omega) (by omega)]; congr 2
   have fx := aMv q <| aMv d1 <| aMv d2 <| aMv d3 <| aMv d4 <| aMv d5 <| aMv q2 <| q3
   refine kU ?_
   exact h1
include hg in
theorem qT (hk : cs.length < k + 7) (hcl : cs.length ≤ 1000000) : cX.f G (k + 8) [cV bor cs R M] [] = some (veV (gS cs R M), []) := by
 rw [cX.step]
 unfold cX.c cV
 obtain ⟨o, h1, h2⟩ := vS (bor := bor) G hg k (cX.f G (k + 7)) cs R M hcl cs [] (k + 7) [] rfl hk
 have e0 : ∀ H, aE G false 1 (.gl 1) H = some (eV 0) := fun H => hg.g0
 have lc : dD (.ro bor (cJ cs)) = some (I6 cs.length) := by simp [dD, fP]
 refine gQ ?_
 unfold gS
 by_cases hb : 262144 < cs.length
 ·rw [if_pos hb]
  have fx := aMv lc <| e0
  refine kU ?_
  exact w1 rfl rfl
 rw [if_neg hb]
 by_cases hr : R < 0 ∨ 65536 < R ∨ M < 0 ∨ 65536 < M
 ·rw [if_pos hr]
  have fx := aMv lc <| e0
  refine kU ?_
  exact w1 rfl rfl
 rw [if_neg hr]
 cases hv : lA R cs.length cs 0 with
 | ok =>
  simp only [List.length_nil, hv] at h2
  rw [h2] at h1
  have fx := aMv lc <| e0
  have lx1 := h1
  refine kU ?_
  exact w1 rfl rfl
 | bare e =>
  simp only [List.length_nil, hv] at h2
  obtain ⟨j, H', h2⟩ := h2
  rw [h2] at h1
  have fx := aMv lc <| e0
  have lx1 := h1
  refine kU ?_
  exact w1 rfl rfl
 | at_ j e =>
  simp only [List.length_nil, hv] at h2
  obtain ⟨j', H', h2⟩ := h2
  rw [h2] at h1
  have fx := aMv lc <| e0
  have lx1 := h1
  refine kU ?_
  exact w1 rfl rfl
end
theorem aEF {i : WI} {R n : Int} (h : fZ i R n = none) (hR : 0 ≤ R) : i.Ok R.toNat n.toNat := by
 unfold fZ at h
 have out : ∀ {t : Bool} {r : Int}, iY t r R = false → t = true → 0 ≤ r ∧ r < R := fun {t r} ho ht => by
  subst ht; simp [iY] at ho; omega
 by_cases h20 : 1 ≤ i.op ∧ i.op ≤ 20
 ·by_cases h1 : kH (dM i.op) i R = true
  ·rw [if_pos h1] at h; split at h <;> cases h
  rw [if_neg h1] at h
  by_cases h2 : kP (dM i.op) i = true
  ·rw [if_pos h2] at h; split at h <;> cases h
  rw [if_neg h2] at h
  obtain ⟨op, d, a, b, c, kk⟩ := i
  simp only at h h1 h2 h20
  simp only [kH, kP, Bool.or_eq_true, not_or, Bool.and_eq_true, Bool.not_eq_true', decide_eq_true_eq, not_and, Bool.not_eq_true] at h1 h2
  rcases yG h20 with rfl | rfl | rfl | rfl | rfl | rfl | rfl | rfl | rfl | rfl | rfl | rfl | rfl | rfl | rfl | rfl | rfl | rfl | rfl | rfl
  all_goals (
   simp [dM, fO, iY] at h1 h2
   simp [fO] at h
   constructor <;> simp <;> omega)
 ·rw [lZ h20] at h; simp at h
theorem aEn {R n : Int} (hR : 0 ≤ R) : ∀ {l : List WI} {j : Nat}, lA R n l j = .ok → ∀ i ∈ l, i.Ok R.toNat n.toNat
 | [], _, _, i, hi => by cases hi
 | x :: l, j, h, i, hi => by
  unfold lA at h
  split at h
  ·cases h
  ·rename_i ho
   rcases List.mem_cons.1 hi with rfl | hi
   ·exact aEF ho hR
   ·exact aEn hR h i hi
theorem qF {cs : List WI} {R M : Int} (h : gS cs R M = .ok) : (0 ≤ R ∧ R ≤ 65536 ∧ 0 ≤ M ∧ M ≤ 65536 ∧ cs.length ≤ 262144) ∧ ∀ j, j < cs.length → (cs.getD j default).Ok R.toNat cs.length := by
 unfold gS at h
 by_cases h1 : 262144 < cs.length
 ·rw [if_pos h1] at h; cases h
 rw [if_neg h1] at h
 by_cases h2 : R < 0 ∨ 65536 < R ∨ M < 0 ∨ 65536 < M
 ·rw [if_pos h2] at h; cases h
 rw [if_neg h2] at h
 refine ⟨by omega, fun j hj => ?_⟩
 have := aEn (by omega) h (cs.getD j default) (by simp [List.getD, List.getElem?_eq_getElem hj])
 rwa [Int.toNat_natCast] at this
def qO (op : Int) : Int :=
 if op = 1 then 1 else if 10 ≤ op ∧ op ≤ 12 then 2 else if op = 15 ∨ op = 16 then 3 else if op = 17 ∨ op = 18 ∨ op = 19 then 4 else if op = 20 then 5 else 0
def hvV (f : Frm) (n : Int) : AV := .agg [.bool f.d, .bool f.a, .bool f.b, .bool f.c, I6 n]
theorem aDI {op : Int} (h : ¬ (1 ≤ op ∧ op ≤ 20)) : qO op = 0 := by
 unfold qO
 repeat rw [if_neg (by omega)]
theorem aHv (G : aF) (k : Nat) (op : Int) : cO.f G (k + 1) [I6 op] [] = some (.tup [hvV (dM op) (qO op), .bool (fO op).isSome], []) := by
 by_cases h : 1 ≤ op ∧ op ≤ 20
 ·rcases yG h with rfl | rfl | rfl | rfl | rfl | rfl | rfl | rfl | rfl | rfl | rfl | rfl | rfl | rfl | rfl | rfl | rfl | rfl | rfl | rfl <;> kernel_rfl
 ·rw [cO.step]
  unfold cO.c
  unfold dM
  rw [lZ h, aDI h]
  refine gQ ?_
  have fx := True.intro
  refine kU ?_
  (refine gA ?_; rfl)
theorem aBe (G : aF) (k : Nat) (t : Bool) (r R : Int) : bG.f G (k + 1) [.bool t, I6 r, I6 R] [] = some (.bool (iY t r R), []) := by
 rw [bG.step]
 unfold bG.c
 refine gQ ?_
 cases t
 ·have fx := True.intro
  refine kU ?_
  exact yJ rfl
 ·repeat' first
   | (with_reducible first | refine eT ?_ | refine eN ?_ | refine eS ?_ | refine eXn ?_ | refine eXr ?_ | refine eX ?_ | refine eI ?_ | refine eK ?_ | refine eV0 ?_ | refine xZ ?_ | refine yC ?_ | refine xW ?_ | refine yB ?_ | refine xX ?_ | refine xY ?_)
   | ((with_reducible apply eCn); (simp only [fB, fA]; first | done | (with_reducible exact rfl)))
   | ((with_reducible apply eJ); (rfl))
   | ((with_reducible apply yA); (first | rfl | (simp only [fB, fA]; rfl)))
   | ((with_reducible apply eB); (first | (with_reducible exact rfl) | (simp (disch := omega) only [qa, kA, AV.cells, gD, cP, kD, fQ, gX, jH, Nat.reduceLeDiff, Nat.reduceLT, Nat.reduceAdd, ↓reduceIte]; first | done | (with_reducible exact rfl) | (with_reducible exact ⟨rfl, rfl⟩))))
   | ((with_reducible apply eR); (simp only [fB, fA]; (with_reducible exact rfl)))
   | ((with_reducible first | refine aBl ?_ ?_ | refine aBq ?_ ?_ | refine aBp ?_ ?_ | refine aBo ?_ ?_ | refine aBn ?_ ?_ | refine aBm ?_ ?_ | refine aBr ?_ ?_ | refine sO ?_ ?_ | refine sGd ?_ ?_ | refine rS ?_ ?_) <;> intro hq <;> try subst hq)
  all_goals (refine yJ ?_; unfold iY; simp; omega)
def inK (n m : Int) : Bool := decide (0 ≤ n) && decide (n < m)
theorem aDj (G : aF) (k : Nat) (n m : Int) : bM.f G (k + 1) [I6 n, I6 m] [] = some (.bool (inK n m), []) := by
 rw [bM.step]
 unfold bM.c
 refine gQ ?_
 repeat' first
  | (with_reducible first | refine eT ?_ | refine eN ?_ | refine eS ?_ | refine eXn ?_ | refine eXr ?_ | refine eX ?_ | refine eI ?_ | refine eK ?_ | refine eV0 ?_ | refine xZ ?_ | refine yC ?_ | refine xW ?_ | refine yB ?_ | refine xX ?_ | refine xY ?_)
  | ((with_reducible apply eCn); (simp only [fB, fA]; first | done | (with_reducible exact rfl)))
  | ((with_reducible apply eJ); (rfl))
  | ((with_reducible apply yA); (first | rfl | (simp only [fB, fA]; rfl)))
  | ((with_reducible apply eB); (first | (with_reducible exact rfl) | (simp (disch := omega) only [qa, kA, AV.cells, gD, cP, kD, fQ, gX, jH, Nat.reduceLeDiff, Nat.reduceLT, Nat.reduceAdd, ↓reduceIte]; first | done | (with_reducible exact rfl) | (with_reducible exact ⟨rfl, rfl⟩))))
  | ((with_reducible apply eR); (simp only [fB, fA]; (with_reducible exact rfl)))
  | ((with_reducible first | refine aBl ?_ ?_ | refine aBq ?_ ?_ | refine aBp ?_ ?_ | refine aBo ?_ ?_ | refine aBn ?_ ?_ | refine aBm ?_ ?_ | refine aBr ?_ ?_ | refine sO ?_ ?_ | refine sGd ?_ ?_ | refine rS ?_ ?_) <;> intro hq <;> try subst hq)
 all_goals (refine yJ ?_; unfold inK; simp; omega)
def ftV (c : Int) (p : Bool) (j : Int) : AV := .agg [I6 c, .bool p, I6 j]
theorem aFh (G : aF) (k : Nat) (c : Int) : dN.f G (k + 1) [I6 c] [] = some (ftV c false 0, []) := by kernel_rfl
theorem aFi (G : aF) (k : Nat) : dB.f G (k + 1) [] [] = some (ftV 0 false 0, []) := by kernel_rfl
theorem aBL (G : aF) (k : Nat) (c j : Int) (hc : c ≠ 0) : cC.f G (k + 2) [I6 c, I6 j] [] = some (ftV c true j, []) := by
 rw [cC.step]
 unfold cC.c
 refine gQ ?_
 have fx := True.intro
 refine kU ?_
 refine gA ?_
 rfl
def aGj (e : Nat) : Int := if e = 0 then 103 else if e = 1 then 102 else if e = 2 then 101 else if e = 3 then 104 else if e = 4 then 106 else 109
def aKk (f : Frm) (kd : Int) (i : WI) (R n : Int) : Option Nat :=
 if kH f i R = true then some 2
 else if kP f i = true then some 3
 else if kd = 2 then (if inK i.k 64 = true then none else some 2)
 else if kd = 5 then (if inK i.k 3 = true then none else some 2)
 else if kd = 3 then (if inK i.k 65536 = true then none else some 2)
 else if kd = 4 then (if inK i.k (n + 1) = true then none else some 5)
 else none
theorem aFF (i : WI) (R n : Int) (h : 1 ≤ i.op ∧ i.op ≤ 20) : fZ i R n = aKk (dM i.op) (qO i.op) i R n := by
 have e : ∀ m : Int, inK i.k m = true ↔ ¬ (i.k < 0 ∨ m - 1 < i.k) := fun m => by unfold inK; simp; omega
 unfold fZ aKk
 have hs : (fO i.op).isSome = true := by
  rcases yG h with h | h | h | h | h | h | h | h | h | h | h | h | h | h | h | h | h | h | h | h <;> rw [h] <;> rfl
 rw [hs]
 simp only [Bool.true_eq_false, if_false]
 by_cases h1 : kH (dM i.op) i R = true
 ·rw [if_pos h1, if_pos h1]
 rw [if_neg h1, if_neg h1]
 by_cases h2 : kP (dM i.op) i = true
 ·rw [if_pos h2, if_pos h2]
 rw [if_neg h2, if_neg h2]
 simp only [e]
 clear hs h1 h2 e
 rcases yG h with h | h | h | h | h | h | h | h | h | h | h | h | h | h | h | h | h | h | h | h <;> rw [h] <;> simp [qO] <;> (split <;> (try split) <;> first | rfl | omega)
inductive Cls : Frm → Int → Prop
 | c1 : Cls ⟨true, false, false, false, true⟩ 1
 | c2 : Cls ⟨true, true, false, false, false⟩ 0
 | c3 : Cls ⟨true, true, true, false, false⟩ 0
 | c4 : Cls ⟨true, true, false, false, true⟩ 2
 | c5 : Cls ⟨true, true, true, true, false⟩ 0
 | c6 : Cls ⟨true, true, false, false, true⟩ 3
 | c7 : Cls ⟨false, true, true, false, true⟩ 3
 | c8 : Cls ⟨false, false, false, false, true⟩ 4
 | c9 : Cls ⟨false, true, false, false, true⟩ 4
 | c10 : Cls ⟨false, false, false, false, true⟩ 5
theorem aJO {op : Int} (h : 1 ≤ op ∧ op ≤ 20) : Cls (dM op) (qO op) ∧ (fO op).isSome = true := by
 rcases yG h with h | h | h | h | h | h | h | h | h | h | h | h | h | h | h | h | h | h | h | h <;> rw [h] <;> exact ⟨by constructor, rfl⟩
section
variable (G : aF) (k : Nat) (self : cE) (cs : List WI) (R M : Int)
abbrev f0 : AV := ftV 0 false 0
abbrev uR (cs : List WI) (R M : Int) (j : Int) : List AV := [bxC (.ro false (cJ cs)) R M, .ptr 0 1 0 0, I6 j]
abbrev hp3 (x : AV) (i : WI) (f : Frm) (kd : Int) : aB := [⟨54, 3, [x]⟩, ⟨29, 6, [i.v]⟩, ⟨104, 5, [hvV f kd]⟩]
theorem aHC (lp : eU) (i : WI) (j : Nat) (hj : j < cs.length) (hl : cs.length ≤ 1000000) (hi : cs.getD j default = i) (H : aB) (hH : H.take 1 = [⟨54, 3, [f0]⟩]) :
  bF.l4 G (k + 2) 1 self lp (uR cs R M j) H =
   match fZ i R cs.length with
   | some e => some (.ret, uR cs R M j, hp3 (ftV (aGj e) true j) i (dM i.op) (qO i.op))
   | none => lp (uR cs R M (j + 1 : Nat)) (hp3 f0 i (dM i.op) (qO i.op)) := by
 rw [bF.l4]
 have hc : fN 1 (uR cs R M j) H = some [⟨54, 3, [f0]⟩] := by
  unfold fN
  rw [hH]
  simp [cI, cB, dI, fY, ftV]
 have q : aX Tryd.prog .lss 3 false (Nn j) (Nn cs.length) = some (.bool true) := by rw [hJ, decide_eq_true (by omega)]
 have q1 : aX Tryd.prog .add 3 true (Nn j) (.int .i64 1) = some (Nn (j + 1)) := by
  rw [gR, eD (by omega) (by omega)]; congr 2
 have d1 := aCv false cs j hj
 rw [hi] at d1
 have lc : dD (.ro false (cJ cs)) = some (I6 cs.length) := by simp [dD, fP]
 have r1 : ∀ H, aW (cO.f G (k + 2)) [I6 i.op] H = _ := fun H => cG (H := H) (aHv G (k + 1) i.op) rfl rfl
 have r2 : ∀ t r R H, aW (bG.f G (k + 2)) [.bool t, I6 r, I6 R] H = _ := fun t r R H => cG (H := H) (aBe G (k + 1) t r R) rfl rfl
 have r3 : ∀ n m H, aW (bM.f G (k + 2)) [I6 n, I6 m] H = _ := fun n m H => cG (H := H) (aDj G (k + 1) n m) rfl rfl
 have r4 : ∀ c H, c ≠ 0 → aW (cC.f G (k + 2)) [I6 c, Nn j] H = _ := fun c H hc => cG (H := H) (aBL G k c j hc) rfl rfl
 refine fV ?_
 refine eC hc ?_
 have b2 : ∀ b y, fM (aV 5 (.ptr 2 1 0 0) (hvV b y) [⟨54, 3, [f0]⟩, ⟨29, 6, [i.v]⟩, ⟨104, 5, [.agg [(.bool false), (.bool false), (.bool false), (.bool false), (.int .i64 0)]]⟩]) = some (.tup [], [⟨54, 3, [f0]⟩, ⟨29, 6, [i.v]⟩, ⟨104, 5, [hvV b y]⟩]) := fun b y => rfl
 have b1 : fM (aV 6 (.ptr 1 1 0 0) i.v [⟨54, 3, [f0]⟩, ⟨29, 6, [.agg [.int .i64 0, .int .i64 0, .int .i64 0, .int .i64 0, .int .i64 0, .int .i64 0]]⟩]) = some (.tup [], [⟨54, 3, [f0]⟩, ⟨29, 6, [i.v]⟩]) := rfl
 have b3 : ∀ y l, fM (aV 3 (.ptr 0 1 0 0) (ftV y true j) (⟨54, 3, [f0]⟩ :: l)) = some (.tup [], ⟨54, 3, [ftV y true j]⟩ :: l) := fun y l => rfl
 have d2 : ∀ H, aE G true 6 (.rp false i.v 0) H = some i.v := fun H => rfl
 have i0 : ∀ l, aE G false 1 (.ptr 1 1 0 0) (⟨54, 3, [f0]⟩ :: ⟨29, 6, [i.v]⟩ :: l) = some (I6 i.op) := fun l => rfl
 have i1 : ∀ l, aE G false 1 (.ptr 1 1 0 1) (⟨54, 3, [f0]⟩ :: ⟨29, 6, [i.v]⟩ :: l) = some (I6 i.d) := fun l => rfl
 have i2 : ∀ l, aE G false 1 (.ptr 1 1 0 2) (⟨54, 3, [f0]⟩ :: ⟨29, 6, [i.v]⟩ :: l) = some (I6 i.a) := fun l => rfl
 have i3 : ∀ l, aE G false 1 (.ptr 1 1 0 3) (⟨54, 3, [f0]⟩ :: ⟨29, 6, [i.v]⟩ :: l) = some (I6 i.b) := fun l => rfl
 have i4 : ∀ l, aE G false 1 (.ptr 1 1 0 4) (⟨54, 3, [f0]⟩ :: ⟨29, 6, [i.v]⟩ :: l) = some (I6 i.c) := fun l => rfl
 have i5 : ∀ l, aE G false 1 (.ptr 1 1 0 5) (⟨54, 3, [f0]⟩ :: ⟨29, 6, [i.v]⟩ :: l) = some (I6 i.k) := fun l => rfl
 have h0 : ∀ f kd l, aE G false 1 (.ptr 2 1 0 0) (⟨54, 3, [f0]⟩ :: ⟨29, 6, [i.v]⟩ :: ⟨104, 5, [hvV f kd]⟩ :: l) = some (.bool f.d) := fun f kd l => rfl
 have h1 : ∀ f kd l, aE G false 1 (.ptr 2 1 0 1) (⟨54, 3, [f0]⟩ :: ⟨29, 6, [i.v]⟩ :: ⟨104, 5, [hvV f kd]⟩ :: l) = some (.bool f.a) := fun f kd l => rfl
 have h2 : ∀ f kd l, aE G false 1 (.ptr 2 1 0 2) (⟨54, 3, [f0]⟩ :: ⟨29, 6, [i.v]⟩ :: ⟨104, 5, [hvV f kd]⟩ :: l) = some (.bool f.b) := fun f kd l => rfl
 have h3 : ∀ f kd l, aE G false 1 (.ptr 2 1 0 3) (⟨54, 3, [f0]⟩ :: ⟨29, 6, [i.v]⟩ :: ⟨104, 5, [hvV f kd]⟩ :: l) = some (.bool f.c) := fun f kd l => rfl
 have h4 : ∀ f kd l, aE G false 1 (.ptr 2 1 0 4) (⟨54, 3, [f0]⟩ :: ⟨29, 6, [i.v]⟩ :: ⟨104, 5, [hvV f kd]⟩ :: l) = some (I6 kd) := fun f kd l => rfl
 by_cases h20 : 1 ≤ i.op ∧ i.op ≤ 20
 ·rw [aFF i R cs.length h20]
  obtain ⟨hcl, hs⟩ := aJO h20
  rw [hs] at r1
  generalize hfd : dM i.op = f at *
  generalize hkd : qO i.op = kd at *
  have o0 : ∀ r R, iY false r R = false := fun r R => rfl
  have o1 := r2 true i.d R
  have o2 := r2 true i.a R
  have o3 := r2 true i.b R
  have o4 := r2 true i.c R
  have n0 := r2 false
  simp only [o0] at n0
  have w1 := r3 i.k 64
  have w2 := r3 i.k 3
  have w3 := r3 i.k 65536
  have w4 := r3 i.k (cs.length + 1)
  unfold aKk kH kP
  clear r2 r3
  cases hcl
  all_goals (
   simp only [o0]
   generalize iY true i.d R = z1 at *
   generalize iY true i.a R = z2 at *
   generalize iY true i.b R = z3 at *
   generalize iY true i.c R = z4 at *
   generalize inK i.k 64 = z5 at *
   generalize inK i.k 3 = z6 at *
   generalize inK i.k 65536 = z7 at *
   generalize inK i.k (cs.length + 1) = z8 at *
   clear hfd hkd hs h20)
  all_goals (
   repeat' first
    | (with_reducible first | refine eT ?_ | refine eN ?_ | refine eS ?_ | refine eXn ?_ | refine eXr ?_ | refine eX ?_ | refine eI ?_ | refine eK ?_ | refine eV0 ?_ | refine xZ ?_ | refine yC ?_ | refine xW ?_ | refine yB ?_ | refine xX ?_ | refine xY ?_)
    | ((with_reducible apply eCn); (simp only [fB, fA]; first | done | (with_reducible exact rfl)))
    | ((with_reducible apply eJ); (rfl))
    | ((with_reducible apply yA); (first | rfl | (simp only [fB, fA]; rfl)))
    | ((with_reducible apply eB); (first | (with_reducible exact rfl) | (simp (disch := omega) only [qf, q, q1, d1, lc, r1, r4, b1, b2, b3, d2, i0, i1, i2, i3, i4, i5, h0, h1, h2, h3, h4, o1, o2, o3, o4, n0, w1, w2, w3, w4]; first | done | (with_reducible exact rfl) | (with_reducible exact ⟨rfl, rfl⟩)) | (simp (disch := omega) only [qa, kA, AV.cells, gD, cP, kD, fQ, gX, jH, Nat.reduceLeDiff, Nat.reduceLT, Nat.reduceAdd, ↓reduceIte, q, q1, d1, lc, r1, r4, b1, b2, b3, d2, i0, i1, i2, i3, i4, i5, h0, h1, h2, h3, h4, o1, o2, o3, o4, n0, w1, w2, w3, w4]; first | done | (with_reducible exact rfl) | (with_reducible exact ⟨rfl, rfl⟩))))
    | ((with_reducible apply eR); (simp only [fB, fA]; (with_reducible exact rfl)))
    | ((with_reducible first | refine aBl ?_ ?_ | refine aBq ?_ ?_ | refine aBp ?_ ?_ | refine aBo ?_ ?_ | refine aBn ?_ ?_ | refine aBm ?_ ?_ | refine aBr ?_ ?_ | refine sO ?_ ?_ | refine sGd ?_ ?_ | refine rS ?_ ?_) <;> intro hq <;> try subst hq)
   all_goals (refine gA ?_; (try simp (disch := omega) only [Bool.not_true, Bool.not_false, Bool.true_and, Bool.false_and, Bool.false_or, Bool.or_false, Bool.or_true, Bool.true_or, Bool.or_eq_true, decide_eq_true_eq, ne_eq, Bool.false_eq_true, Bool.true_eq_false, false_or, or_false, true_or, or_true, if_pos, if_neg, if_true, if_false, ↓reduceIte]); first | rfl | omega))
 ·have hs : fO i.op = none := lZ h20
  have e : fZ i R cs.length = some 4 := by unfold fZ; rw [hs]; rfl
  rw [e]
  rw [hs] at r1
  simp only [Option.isSome_none] at r1
  have fx := aMv q <| aMv q1 <| aMv d1 <| aMv lc <| aMv r1 <| aMv r4 <| aMv b1 <| aMv b2 <| aMv b3 <| aMv d2 <| i0
  refine kU ?_
  refine gA ?_
  rfl
end
def ftO (v : VE) : AV := match v with
 | .ok => ftV 0 false 0
 | .bare e => ftV (aGj e) false 0
 | .at_ j e => ftV (aGj e) true j
theorem aFu (v : VE) : gO (ftO v) = true := by cases v <;> rfl
theorem aIm (v : VE) : cB 0 (ftO v) = true := by cases v <;> rfl
section
variable (G : aF) (k : Nat) (self : cE) (cs : List WI) (R M : Int)
theorem aEU (hcl : cs.length ≤ 1000000) : ∀ (l pre : List WI) (f : Nat) (H : aB), cs = pre ++ l → l.length < f → H.take 1 = [⟨54, 3, [f0]⟩] →
  ∃ o, dK (bF.l4 G (k + 2) 1 self) f (uR cs R M pre.length) H = some o ∧
   (match lA R cs.length l pre.length with
    | .ok => o = (.exit 0, uR cs R M cs.length, [⟨54, 3, [f0]⟩])
    | v => ∃ j H', o = (.ret, uR cs R M j, ⟨54, 3, [ftO v]⟩ :: H'))
 | l, pre, 0, H, hcs, hf, hH => by omega
 | [], pre, f + 1, H, hcs, hf, hH => by
  rw [bB, bF.l4]
  have hl : cs.length = pre.length := by rw [hcs]; simp
  refine ⟨_, ?_, rfl⟩
  have hc : fN 1 (uR cs R M pre.length) H = some [⟨54, 3, [f0]⟩] := by
   unfold fN
   rw [hH]
   simp [cI, cB, dI, fY, ftV]
  refine lC hc ?_
  refine fV ?_
  have hge : ¬ (pre.length : Int) < (cs.length : Int) := by omega
  have q : aX Tryd.prog .lss 3 false (Nn pre.length) (Nn cs.length) = some (.bool false) := by rw [hJ, decide_eq_false hge]
  have lc : dD (.ro false (cJ cs)) = some (I6 cs.length) := by simp [dD, fP]
  have fx := aMv q <| lc
  refine kU ?_
  rw [hl]
  rfl
 | i :: l, pre, f + 1, H, hcs, hf, hH => by
  have hl : cs.length = pre.length + (l.length + 1) := by rw [hcs]; simp
  have hi : cs.getD pre.length default = i := by rw [hcs]; simp [List.getD]
  rw [bB, aHC G k self cs R M _ i pre.length (by omega) hcl hi H hH]
  cases ho : fZ i R cs.length with
  | some e =>
   have hb : lA R cs.length (i :: l) pre.length = .at_ pre.length e := by simp only [lA, ho]
   rw [hb]
   exact ⟨_, rfl, pre.length, _, rfl⟩
  | none =>
   obtain ⟨o, h1, h2⟩ := aEU hcl l (pre ++ [i]) f (hp3 f0 i (dM i.op) (qO i.op)) (by rw [hcs]; simp) (by simp at hf; omega) rfl
   have hlen : (pre ++ [i]).length = pre.length + 1 := by simp
   rw [hlen] at h1 h2
   have hb : lA R cs.length (i :: l) pre.length = lA R cs.length l (pre.length + 1) := by simp only [lA, ho]
   rw [hb]
   exact ⟨o, h1, h2⟩
theorem aCV (hk : cs.length < k + 2) (hcl : cs.length ≤ 1000000) : bF.f G (k + 3) [cV false cs R M] [] = some (ftO (gS cs R M), []) := by
 rw [bF.step]
 unfold bF.c cV
 obtain ⟨o, h1, h2⟩ := aEU G k (bF.f G (k + 2)) cs R M hcl cs [] (k + 2) [⟨54, 3, [f0]⟩] rfl hk rfl
 have lc : dD (.ro false (cJ cs)) = some (I6 cs.length) := by simp [dD, fP]
 have r1 : ∀ c H, aW (dN.f G (k + 2)) [I6 c] H = _ := fun c H => cG (H := H) (aFh G (k + 1) c) rfl rfl
 have r2 : ∀ H, aW (dB.f G (k + 2)) [] H = _ := fun H => cG (H := H) (aFi G (k + 1)) rfl rfl
 have st : ∀ c p j x l, fM (aV 3 (.ptr 0 1 0 0) (ftV c p j) (⟨54, 3, [.agg [x, .bool false, I6 0]]⟩ :: l)) = some (.tup [], ⟨54, 3, [ftV c p j]⟩ :: l) := fun c p j x l => rfl
 have st2 : ∀ c p j l, fM (aV 3 (.ptr 0 1 0 0) (ftV c p j) (⟨54, 3, [f0]⟩ :: l)) = some (.tup [], ⟨54, 3, [ftV c p j]⟩ :: l) := fun c p j l => rfl
 have fin : ∀ v l, iB [aE G true 3 (.ptr 0 1 0 0) (⟨54, 3, [ftO v]⟩ :: l)] ([] : aB).length (⟨54, 3, [ftO v]⟩ :: l) = some (.ret, [ftO v], []) := fun v l => by
  have : aE G true 3 (.ptr 0 1 0 0) (⟨54, 3, [ftO v]⟩ :: l) = some (ftO v) := by cases v <;> rfl
  unfold iB
  rw [this]
  simp only [pV]
  exact mB (aIm v) _
 refine gQ ?_
 unfold gS
 by_cases hb : 262144 < cs.length
 ·rw [if_pos hb]
  have fx := aMv lc <| aMv r1 <| st
  refine kU ?_
  exact oF (fin (.bare 0) [])
 rw [if_neg hb]
 by_cases hr : R < 0 ∨ 65536 < R ∨ M < 0 ∨ 65536 < M
 ·rw [if_pos hr]
  have fx := aMv lc <| aMv r1 <| st
  refine kU ?_
  exact oF (fin (.bare 0) [])
 rw [if_neg hr]
 cases hv : lA R cs.length cs 0 with
 | ok =>
  simp only [List.length_nil, hv] at h2
  rw [h2] at h1
  have fx := aMv lc <| aMv r2 <| st2
  have lx1 := h1
  refine kU ?_
  exact oF (fin .ok [])
 | bare e =>
  simp only [List.length_nil, hv] at h2
  obtain ⟨j, H', h2⟩ := h2
  rw [h2] at h1
  have fx := lc
  have lx1 := h1
  refine kU ?_
  exact oF (fin (.bare e) H')
 | at_ j e =>
  simp only [List.length_nil, hv] at h2
  obtain ⟨j', H', h2⟩ := h2
  rw [h2] at h1
  have fx := lc
  have lx1 := h1
  refine kU ?_
  exact oF (fin (.at_ j e) H')
end
def VE.low : VE → Prop
 | .ok => True
 | .bare e => e < 6
 | .at_ j e => e < 6
theorem aKb (n : Nat) (h : n ≤ 63) : bits .and .i64 (n : Int) 63 = (n : Int) := by
 show IntKind.i64.wrap ((BitVec.ofInt 64 (n : Int) &&& BitVec.ofInt 64 63).toNat : Int) = _
 rw [BitVec.toNat_and, kS n (by omega)]
 have e : (BitVec.ofInt 64 (63 : Int)).toNat = 63 := rfl
 have e2 : n &&& 63 = n := by have := Nat.and_two_pow_sub_one_eq_mod n 6; simp at this; omega
 rw [e, e2, eD (by omega) (by omega)]
theorem aCY (G : aF) (k : Nat) (op d a b c n : Int) (x y z : Nat) (hx : x < 18446744073709551616) (hy : y < 18446744073709551616) (hz : z < 18446744073709551616) :
  bY.f G (k + 2) [WI.v ⟨op, d, a, b, c, n⟩, Un x, Un y, Un z] [] = some (.tup [Un (jN op n x y z).1, .bool (jN op n x y z).2], []) := by
 rw [bY.step]
 unfold bY.c WI.v
 obtain ⟨w, hw⟩ : ∃ w, w = bits .and .i64 n 63 := ⟨_, rfl⟩
 have k0 : aX Tryd.prog .and 2 true (I6 n) (.int .i64 63) = some (I6 w) := by rw [aAt, hw]
 obtain ⟨w2, hw2⟩ : ∃ w2, w2 = IntKind.u64.wrap w := ⟨_, rfl⟩
 have k0' : dJ .u64 (I6 w) = some (.int .u64 w2) := by rw [jA, hw2]
 have hw3 : 0 ≤ n → n ≤ 63 → w2 = n := fun h0 h1 => by
  obtain ⟨m, rfl⟩ : ∃ m : Nat, n = (m : Int) := ⟨n.toNat, by omega⟩
  rw [hw2, hw, aKb m (by omega), iT (by omega) (by omega)]
 clear hw hw2
 have k1 := rP .i64 n
 have k3 := aBz Tryd.prog 30 false x y
 have k4 := aIL Tryd.prog 30 false x y hy
 have k5 := aBA Tryd.prog 30 false x y
 have k6 : ∀ H, aW (cA.f G (k + 1)) [Un x, Un y] H = _ := fun H => cG (H := H) (aDO G k x y hx hy) rfl rfl
 have k7 : aX Tryd.prog .and 30 false (Un x) (Un y) = some (Un (x &&& y)) := by rw [aAt, aEZ x y hx hy]
 have k8 : aX Tryd.prog .or 30 false (Un x) (Un y) = some (Un (x ||| y)) := by rw [aJM, aKv x y hx hy]
 have k9 : aX Tryd.prog .xor 30 false (Un x) (Un y) = some (Un (x ^^^ y)) := by rw [aId, aIM x y hx hy]
 have k10 : 0 ≤ n → n ≤ 63 → aX Tryd.prog .shl 30 false (Un x) (.int .u64 w2) = some (Un (x * 2 ^ n.toNat % 18446744073709551616)) := fun h0 h1 => by
  have := aIK Tryd.prog 30 false .u64 x n.toNat (by omega); rw [Int.toNat_of_nonneg h0] at this; rw [hw3 h0 h1]; exact this
 have k11 : 0 ≤ n → n ≤ 63 → aX Tryd.prog .shr 30 false (Un x) (.int .u64 w2) = some (Un (x / 2 ^ n.toNat)) := fun h0 h1 => by
  have := aBB Tryd.prog 30 false .u64 x n.toNat (by omega); rw [Int.toNat_of_nonneg h0] at this; rw [hw3 h0 h1]; exact this
 have k12 := aBZ x hx
 have k13 : 0 ≤ n → n ≤ 63 → aX Tryd.prog .shr 2 false (I6 (qE x)) (.int .u64 w2) = some (I6 ((qE x).fdiv (2 ^ n.toNat))) := fun h0 h1 => by
  rw [hw3 h0 h1, aEo _ _ _ _ _ _ _ h0]
  have e : min n.toNat IntKind.i64.bits = n.toNat := Nat.min_eq_left (by have : IntKind.i64.bits = 64 := rfl; omega)
  rw [e]
 have k14 := rP .i64 ((qE x).fdiv (2 ^ n.toNat))
 have hq : u64 ((qE x).fdiv (2 ^ n.toNat)) = aLl x n.toNat := rfl
 rw [hq] at k14
 clear hw3 hq
 refine gQ ?_
 repeat' first
  | (with_reducible first | refine eT ?_ | refine eN ?_ | refine eS ?_ | refine eXn ?_ | refine eXr ?_ | refine eX ?_ | refine eI ?_ | refine eK ?_ | refine eV0 ?_ | refine xZ ?_ | refine yC ?_ | refine xW ?_ | refine yB ?_ | refine xX ?_ | refine xY ?_)
  | ((with_reducible apply eCn); (simp only [fB, fA]; first | done | (with_reducible exact rfl)))
  | ((with_reducible apply eJ); (rfl))
  | ((with_reducible apply yA); (first | rfl | (simp only [fB, fA]; rfl)))
  | ((with_reducible apply eB); (first | (with_reducible exact rfl) | (simp (disch := omega) only [qf, k0, k0', k1, k3, k4, k5, k6, k7, k8, k9, k10, k11, k12, k13, k14]; first | done | (with_reducible exact rfl) | (with_reducible exact ⟨rfl, rfl⟩)) | (simp (disch := omega) only [qa, kA, AV.cells, gD, cP, kD, fQ, gX, jH, Nat.reduceLeDiff, Nat.reduceLT, Nat.reduceAdd, ↓reduceIte, k0, k0', k1, k3, k4, k5, k6, k7, k8, k9, k10, k11, k12, k13, k14]; first | done | (with_reducible exact rfl) | (with_reducible exact ⟨rfl, rfl⟩))))
  | ((with_reducible apply eR); (simp only [fB, fA]; (with_reducible exact rfl)))
  | ((with_reducible first | refine aBl ?_ ?_ | refine aBq ?_ ?_ | refine aBp ?_ ?_ | refine aBo ?_ ?_ | refine aBn ?_ ?_ | refine aBm ?_ ?_ | refine aBr ?_ ?_ | refine sO ?_ ?_ | refine sGd ?_ ?_ | refine rS ?_ ?_) <;> intro hq <;> try subst hq)
 all_goals first | (refine w2b ?_ ?_ <;> ((try simp (disch := omega) only [jN, pS, if_pos, if_neg, if_true, if_false, ↓reduceIte]) <;> first | done | rfl | omega)) | (by_cases h10 : op = 10 ∨ op = 11 ∨ op = 12 <;> refine w2b ?_ ?_ <;> ((try simp (disch := omega) only [jN, pS, if_pos, if_neg, if_true, if_false, ↓reduceIte]) <;> first | done | rfl | omega))
def tS (s : MS) (wr : Int) : AV := .agg [I6 s.code, .sl 2 s.mem.length 0 s.mem.length 1, .sl 6 s.leaks.length 0 s.leaks.length 2, Nn s.steps, I6 wr]
def mN (s : MS) (wr : Int) : aB :=
 [⟨38, 5, [.agg [.int .i64 0, .nils, .sl 5 0 0 0 2, .int .i64 0, .int .i64 0]]⟩, ⟨30, 1, []⟩, ⟨30, 1, dL s.mem⟩, ⟨38, 5, [tS s wr]⟩, ⟨30, 1, dL (s.regs ++ [0])⟩, ⟨91, 2, []⟩, ⟨91, 2, dX s.leaks⟩]
def gM (s : MS) (wr : Int) (x : AV) : aB :=
 [⟨38, 5, [.agg [.int .i64 0, .nils, .sl 5 0 0 0 2, .int .i64 0, .int .i64 0]]⟩, ⟨30, 1, []⟩, ⟨30, 1, dL s.mem⟩, ⟨38, 5, [tS s wr]⟩, ⟨30, 1, dL (s.regs ++ [0])⟩, ⟨91, 2, []⟩, ⟨91, 2, dX s.leaks⟩, ⟨29, 6, [x]⟩]
def yD (s : MS) (wr : Int) (l : aB) : aB :=
 ⟨38, 5, [tS s wr]⟩ :: ⟨30, 1, []⟩ :: ⟨30, 1, dL s.mem⟩ :: ⟨38, 5, [tS s wr]⟩ :: ⟨30, 1, dL (s.regs ++ [0])⟩ :: ⟨91, 2, []⟩ :: ⟨91, 2, dX s.leaks⟩ :: l
def qS (sp : AV) (fuel : Int) (bc bor : Bool) (cs : List WI) (R : Nat) (M : Int) (pc : Nat) : List AV :=
 [sp, I6 fuel, .rp bc (.agg [.ro bor (cJ cs), I6 R, I6 M]) 0, .ptr 0 1 0 0, .ptr 3 1 0 0, .sl 4 (R + 1) 0 (R + 1) 1, Nn pc]
section
variable (G : aF) (s : MS) (wr : Int) (x : AV)
abbrev zI : AV := .agg [.int .i64 0, .int .i64 0, .int .i64 0, .int .i64 0, .int .i64 0, .int .i64 0]
theorem aJT : (mN s wr).length = 7 := rfl
theorem aGW : aE G false 1 (.ptr 3 1 0 3) (mN s wr) = some (Nn s.steps) := rfl
theorem aJp (n : Int) : fM (aV 1 (.ptr 3 1 0 0) (I6 n) (mN s wr)) = some (.tup [], mN { s with code := n } wr) := rfl
theorem aLf : aE G true 5 (.ptr 3 1 0 0) (mN s wr) = some (tS s wr) := rfl
theorem aLg : fM (aV 5 (.ptr 0 1 0 0) (tS s wr) (mN s wr)) = some (.tup [], yD s wr []) := rfl
theorem aLN : fR 29 zI (mN s wr) = some (.ptr 7 1 0 0, gM s wr zI) := rfl
theorem aLP (i : WI) : fM (aV 6 (.ptr 7 1 0 0) i.v (gM s wr zI)) = some (.tup [], gM s wr i.v) := rfl
theorem aKp : aE G false 1 (.ptr 3 1 0 3) (gM s wr x) = some (Nn s.steps) := rfl
theorem aHs (n : Nat) : fM (aV 1 (.ptr 3 1 0 3) (Nn n) (gM s wr x)) = some (.tup [], gM { s with steps := n } wr x) := rfl
theorem aJz (n : Int) : fM (aV 1 (.ptr 3 1 0 0) (I6 n) (gM s wr x)) = some (.tup [], gM { s with code := n } wr x) := rfl
theorem aLh : aE G true 5 (.ptr 3 1 0 0) (gM s wr x) = some (tS s wr) := rfl
theorem aLi : fM (aV 5 (.ptr 0 1 0 0) (tS s wr) (gM s wr x)) = some (.tup [], yD s wr [⟨29, 6, [x]⟩]) := rfl
theorem aDS : aE G false 1 (.ptr 3 1 0 2) (gM s wr x) = some (.sl 6 s.leaks.length 0 s.leaks.length 2) := rfl
theorem aLR : aE G false 1 (.ptr 3 1 0 1) (gM s wr x) = some (.sl 2 s.mem.length 0 s.mem.length 1) := rfl
theorem rI0 (i : WI) : aE G false 1 (.ptr 7 1 0 0) (gM s wr i.v) = some (I6 i.op) := rfl
theorem rI1 (i : WI) : aE G false 1 (.ptr 7 1 0 1) (gM s wr i.v) = some (I6 i.d) := rfl
theorem rI2 (i : WI) : aE G false 1 (.ptr 7 1 0 2) (gM s wr i.v) = some (I6 i.a) := rfl
theorem rI3 (i : WI) : aE G false 1 (.ptr 7 1 0 3) (gM s wr i.v) = some (I6 i.b) := rfl
theorem rI4 (i : WI) : aE G false 1 (.ptr 7 1 0 4) (gM s wr i.v) = some (I6 i.c) := rfl
theorem rI5 (i : WI) : aE G false 1 (.ptr 7 1 0 5) (gM s wr i.v) = some (I6 i.k) := rfl
theorem rI6 (i : WI) : aE G true 6 (.ptr 7 1 0 0) (gM s wr i.v) = some i.v := rfl
theorem aIB (p : Int × Int) (hl : s.leaks.length ≤ 1000000) : fU 91 2 (.sl 6 s.leaks.length 0 s.leaks.length 2) (.ro false [jK p]) (gM s wr x) =
  some (.sl 6 (s.leaks.length + 1) 0 (s.leaks.length + 1) 2, (gM s wr x).set 6 ⟨91, 2, dX (s.leaks ++ [p])⟩) := by
 have e : (gM s wr x)[6]? = some ⟨91, 2, dX s.leaks⟩ := rfl
 unfold fU
 simp only [e, iE, hU, List.length_singleton]
 rw [if_pos (by refine ⟨?_, ?_, ?_, ?_, ?_⟩ <;> first | trivial | rfl | omega)]
 have e2 : (dX s.leaks).take s.leaks.length = dX s.leaks := List.take_of_length_le (by rw [hU]; exact Nat.le_refl _)
 have e3 : (dX s.leaks).drop (s.leaks.length + 1) = [] := List.drop_of_length_le (by rw [hU]; omega)
 rw [e2, e3, List.append_nil]
 have e4 : dX s.leaks ++ [jK p] = dX (s.leaks ++ [p]) := by simp [dX]
 rw [e4, hU]; simp
theorem aIC (p : Int × Int) : fM (aV 1 (.ptr 3 1 0 2) (.sl 6 (s.leaks.length + 1) 0 (s.leaks.length + 1) 2) ((gM s wr x).set 6 ⟨91, 2, dX (s.leaks ++ [p])⟩)) =
  some (.tup [], gM (s.leak p.1 p.2) wr x) := by
 have e : (s.leak p.1 p.2).leaks.length = s.leaks.length + 1 := by simp [MS.leak]
 unfold gM tS
 rw [e]
 rfl
theorem aKo (R : Nat) (j : Int) (h0 : 0 ≤ j) (hj : j ≤ R) (hR : s.regs.length = R) : aE G false 1 (.ptr 4 (R + 1) j.toNat 0) (gM s wr x) = some (Un (s.rg j)) := by
 have e : (gM s wr x)[4]? = some ⟨30, 1, dL (s.regs ++ [0])⟩ := rfl
 have hl : (s.regs ++ [0]).length = R + 1 := by simp [hR]
 have h1 : j.toNat < (s.regs ++ [0]).length := by rw [hl]; omega
 have e2 : (s.regs ++ [0]).getD j.toNat 0 = s.rg j := by
  unfold MS.rg
  simp only [List.getD_eq_getElem?_getD]
  by_cases hlt : j.toNat < s.regs.length
  ·rw [List.getElem?_append_left hlt]
  ·rw [List.getElem?_append_right (by omega), List.getElem?_eq_none (l := s.regs) (by omega)]
   have : j.toNat - s.regs.length = 0 := by omega
   rw [this]; rfl
 unfold aE
 simp only [e, gK, hl, nN _ _ h1, if_true, e2]
 rfl
theorem aLj (R : Nat) (j : Int) (n : Nat) (h0 : 0 ≤ j) (hj : j < R) (hR : s.regs.length = R) : fM (aV 1 (.ptr 4 (R + 1) j.toNat 0) (Un n) (gM s wr x)) = some (.tup [], gM (s.set j n) wr x) := by
 have e : (gM s wr x)[4]? = some ⟨30, 1, dL (s.regs ++ [0])⟩ := rfl
 have hl : (s.regs ++ [0]).length = R + 1 := by simp [hR]
 have h1 : j.toNat < (s.regs ++ [0]).length := by rw [hl]; omega
 have e2 : (s.set j n).regs ++ [0] = (s.regs ++ [0]).set j.toNat n := by
  unfold MS.set
  rw [List.set_append_left _ _ (by omega)]
 unfold aV
 simp only [e, gK, hl, nN _ _ h1]
 unfold gM
 rw [e2, zL]
 rfl
theorem aLQ (j : Nat) (h : j < s.mem.length) : aE G false 1 (.ptr 2 s.mem.length j 0) (gM s wr x) = some (Un (s.mem.getD j 0)) := by
 have e : (gM s wr x)[2]? = some ⟨30, 1, dL s.mem⟩ := rfl
 unfold aE
 simp only [e, gK, nN _ _ h, if_true]
 rfl
theorem aLO (n : Nat) (h : n < s.mem.length) : aM 1 (.sl 2 s.mem.length 0 s.mem.length 1) (Un n) = some (.ptr 2 s.mem.length n 0) := by
 have h0 : (0 : Int) ≤ (n : Int) := by omega
 have h' : (n : Int) < (s.mem.length : Int) := by omega
 simp [aM, h0, h']
theorem aLS (j n : Nat) (h : j < s.mem.length) : fM (aV 1 (.ptr 2 s.mem.length j 0) (Un n) (gM s wr x)) = some (.tup [], gM { s with mem := s.mem.set j n } wr x) := by
 have e : (gM s wr x)[2]? = some ⟨30, 1, dL s.mem⟩ := rfl
 unfold aV
 simp only [e, gK, nN _ _ h]
 unfold gM tS
 simp only [List.length_set, zL]
 rfl
theorem idR (R : Nat) (j : Int) (h0 : 0 ≤ j) (hj : j ≤ R) : aM 1 (.sl 4 (R + 1) 0 (R + 1) 1) (I6 j) = some (.ptr 4 (R + 1) j.toNat 0) := by
 have h' : j < ((R + 1 : Nat) : Int) := by omega
 simp only [aM]
 rw [if_pos ⟨h0, h'⟩, if_pos trivial, Nat.zero_add]
end
structure WI.Ok2 (i : WI) (R n : Nat) : Prop where
 ok : i.Ok R n
 sh : 10 ≤ i.op → i.op ≤ 12 → 0 ≤ i.k ∧ i.k ≤ 63
 ha : 0 ≤ i.a ∧ i.a ≤ R
 hb : 0 ≤ i.b ∧ i.b ≤ R
theorem aFb {op n : Int} {a b c : Nat} (h : 1 ≤ op ∧ op ≤ 14) (hs : 10 ≤ op → op ≤ 12 → 0 ≤ n ∧ n ≤ 63) : (jN op n a b c).2 = true := by
 by_cases e : op = 10 ∨ op = 11 ∨ op = 12
 ·have := hs (by omega) (by omega)
  have e2 : jN op n a b c = pS op n a := by
   unfold jN
   simp (disch := omega) only [if_neg, if_pos]
  rw [e2]
  unfold pS
  rw [if_neg (by omega)]
  split
  ·rfl
  ·split <;> rfl
 ·have : op = 1 ∨ op = 2 ∨ op = 3 ∨ op = 4 ∨ op = 5 ∨ op = 6 ∨ op = 7 ∨ op = 8 ∨ op = 9 ∨ op = 13 ∨ op = 14 := by omega
  rcases this with rfl | rfl | rfl | rfl | rfl | rfl | rfl | rfl | rfl | rfl | rfl <;> simp [jN]
theorem aCL {i : WI} {R n : Int} (h : fZ i R n = none) (hR : 0 ≤ R) : i.Ok2 R.toNat n.toNat := by
 have h0 := aEF h hR
 unfold fZ at h
 have h20 := h0.op
 by_cases h1 : kH (dM i.op) i R = true
 ·rw [if_pos h1] at h; split at h <;> cases h
 rw [if_neg h1] at h
 by_cases h2 : kP (dM i.op) i = true
 ·rw [if_pos h2] at h; split at h <;> cases h
 rw [if_neg h2] at h
 obtain ⟨op, d, a, b, c, kk⟩ := i
 simp only at h h1 h2 h20
 simp only [kH, kP, Bool.or_eq_true, not_or, Bool.and_eq_true, Bool.not_eq_true', decide_eq_true_eq, not_and, Bool.not_eq_true] at h1 h2
 rcases yG h20 with rfl | rfl | rfl | rfl | rfl | rfl | rfl | rfl | rfl | rfl | rfl | rfl | rfl | rfl | rfl | rfl | rfl | rfl | rfl | rfl
 all_goals (
  simp [dM, fO, iY] at h1 h2
  simp [fO] at h
  exact ⟨h0, by simp; try omega, by simp; omega, by simp; omega⟩)
theorem aDi (G : aF) (k : Nat) (b : Bool) : dF.f G (k + 1) [.bool b] [] = some (.int .i64 (if b = true then 1 else 0), []) := by cases b <;> kernel_rfl
section
variable (G : aF) (k : Nat) (self : cE) (fuel : Int) (bc bor : Bool) (cs : List WI) (R : Nat) (s : MS) (wr : Int)
theorem aDW (sp : AV) (hsp : cB 0 sp = true) (M : Int) (pc : Nat) (H : aB) (hH : H.take 7 = mN s wr) : fN 7 (qS sp fuel bc bor cs R M pc) H = some (mN s wr) := by
 have h1 := iR (Nat.zero_le 7) hsp
 have h2 : dI 7 (mN s wr) = true := by simp [mN, tS, dI, cI, cB, jW, jE]
 unfold fN
 rw [hH, h2]
 simp [qS, cI, cB, fY, h1]
theorem aHy (lp : eU) (i : WI) (H : aB) (hH : H.take 7 = mN s wr) (hs : s.Ok R) (hi : i.Ok2 R cs.length) (hcl : cs.length ≤ 100000) (hat : s.at_ < cs.length) (hci : cs.getD s.at_ default = i)
  (hst : (s.steps : Int) < fuel) (hst2 : s.steps ≤ 99998) (M : Int) (hM : M = s.mem.length) :
  bH.l4 G (k + 3) 7 self lp (qS .nils fuel bc bor cs R M s.at_) H =
   match s.tick.step i with
   | (s', true) => lp (qS .nils fuel bc bor cs R M s'.at_) (gM s' wr i.v)
   | (s', false) => some (.ret, qS .nils fuel bc bor cs R M s.at_, yD s' wr [⟨29, 6, [i.v]⟩]) := by
 rw [bH.l4]
 have hc := aDW fuel bc bor cs R s wr .nils rfl M s.at_ H hH
 unfold qS at *
 have hll : s.leaks.length ≤ 999990 := by have := hs.leaks; omega
 refine fV ?_
 refine eC hc ?_
 have lc : dD (.ro bor (cJ cs)) = some (I6 cs.length) := by simp [dD, fP]
 have q1 : aX Tryd.prog .geq 3 false (Nn s.at_) (I6 cs.length) = some (.bool false) := by rw [kV, decide_eq_false (by omega)]
 have q2 : aX Tryd.prog .geq 2 false (Nn s.steps) (I6 fuel) = some (.bool false) := by rw [kV, decide_eq_false (by omega)]
 have q3 : aX Tryd.prog .add 2 true (Nn s.steps) (.int .i64 1) = some (Nn (s.steps + 1)) := by
  rw [gR, eD (by omega) (by omega)]; congr 2
 have q4 : aX Tryd.prog .add 3 true (Nn s.at_) (.int .i64 1) = some (Nn (s.at_ + 1)) := by
  rw [gR, eD (by omega) (by omega)]; congr 2
 have d1 := aCv bor cs s.at_ hat
 rw [hci] at d1
 have d2 : ∀ H, aE G true 6 (.rp bor i.v 0) H = some i.v := fun H => rfl
 have p1 := aGW G s wr
 have p2 := aLN s wr
 have p3 := aLP s wr i
 have p4 := aKp G s wr i.v
 have p5 := aHs s wr i.v (s.steps + 1)
 obtain ⟨s1, hs1⟩ : ∃ s1 : MS, s1 = { s with steps := s.steps + 1 } := ⟨_, rfl⟩
 have hl1 : s1.leaks.length = s.leaks.length := by rw [hs1]
 rw [← hs1] at p5
 have p6 := aDS G s1 wr i.v
 have p7 : fU 91 2 (.sl 6 s1.leaks.length 0 s1.leaks.length 2) (.ro false [.agg [.int .i64 1, Nn s.at_]]) (gM s1 wr i.v) = _ := aIB s1 wr i.v (1, s.at_) (by omega)
 have p8 := aIC s1 wr i.v (1, s.at_)
 have ht : s1.leak 1 s.at_ = s.tick := by rw [hs1]; rfl
 simp only [ht] at p8
 obtain ⟨t, htt⟩ : ∃ t, t = s.tick := ⟨_, rfl⟩
 have tok : t.Ok R := by
  rw [htt]; exact ⟨hs.len, hs.regs, hs.mem, by have := hs.leaks; simp [MS.tick, MS.leak]; omega, hs.big, by simp [MS.tick, MS.leak]; omega⟩
 have tat : t.at_ = s.at_ := by rw [htt]; rfl
 have tll : t.leaks.length ≤ 999991 := by rw [htt]; simp [MS.tick, MS.leak]; omega
 have tmem : t.mem = s.mem := by rw [htt]; rfl
 rw [← htt] at p8 ⊢
 clear htt ht hs1 hH hc
 have tR := tok.len
 obtain ⟨a0, a1⟩ := hi.ha
 obtain ⟨b0, b1⟩ := hi.hb
 have r2 := rI2 G t wr i
 have r3 := rI3 G t wr i
 have r0 := rI0 G t wr i
 have i2 := idR R i.a a0 a1
 have i3 := idR R i.b b0 b1
 have l2 := aKo G t wr i.v R i.a a0 a1 tR
 have l3 := aKo G t wr i.v R i.b b0 b1 tR
 have r5 := rI5 G t wr i
 have fx := aMv lc <| aMv q1 <| aMv q2 <| aMv q3 <| aMv q4 <| aMv d1 <| aMv d2 <| aMv p1 <| aMv p2 <| aMv p3 <| aMv p4 <| aMv p5 <| aMv p6 <| aMv p7 <| aMv p8 <| aMv r0 <| aMv r2 <| aMv r3 <| aMv i2 <| aMv i3 <| aMv l2 <| l3
 refine gT ?_
 clear lc q1 q2 q3 d1 d2 p1 p2 p3 p4 p5 p6 p7 p8 i2 i3 l2 l3 hci
 have e0 : t.step i = (let u : MS := { t with at_ := t.at_ + 1 };
  if i.op = 15 ∨ i.op = 16 then u.touch i
  else if i.op = 17 ∨ i.op = 18 ∨ i.op = 19 then (u.branch i, true)
  else if i.op = 20 then ({ u with code := i.k }, false)
  else if (jN i.op i.k (t.rg i.a) (t.rg i.b) (t.rg i.c)).2 = true then (u.set i.d (jN i.op i.k (t.rg i.a) (t.rg i.b) (t.rg i.c)).1, true)
  else (u, true)) := rfl
 have eat : t.at_ + 1 = s.at_ + 1 := by rw [tat]
 have hop := hi.ok.op
 subst hM
 by_cases h1 : i.op = 15 ∨ i.op = 16
 ·obtain ⟨ad, had⟩ : ∃ z, z = (t.rg i.a + u64 i.k) % 18446744073709551616 := ⟨_, rfl⟩
  have hadl : ad < 18446744073709551616 := by rw [had]; exact Nat.mod_lt _ (by decide)
  have c1 : dJ .u64 (I6 i.k) = some (Un (u64 i.k)) := rP ..
  have c2 := aBz Tryd.prog 30 false (t.rg i.a) (u64 i.k)
  rw [← had] at c2
  have c3 := aBZ ad hadl
  have p6 := aDS G t wr i.v
  have p7 : fU 91 2 (.sl 6 t.leaks.length 0 t.leaks.length 2) (.ro false [.agg [.int .i64 3, I6 (qE ad)]]) (gM t wr i.v) = _ := aIB t wr i.v (3, qE ad) (by omega)
  have p8 := aIC t wr i.v (3, qE ad)
  have e1 : t.step i = (if t.mem.length ≤ ad then ({ (({ t with at_ := t.at_ + 1 } : MS).leak 3 (qE ad)) with code := 3 }, false) else if i.op = 15 then (({ t with at_ := t.at_ + 1 } : MS).leak 3 (qE ad) |>.set i.d (t.mem.getD ad 0), true) else ({ (({ t with at_ := t.at_ + 1 } : MS).leak 3 (qE ad)) with mem := t.mem.set ad (t.rg i.b) }, true)) := by
   rw [e0]
   simp only
   rw [if_pos h1]
   unfold MS.touch
   simp only
   rw [had]; rfl
  rw [e1]
  clear e0 e1 had
  have hml : t.mem.length = s.mem.length := by rw [tmem]
  have hbig := hs.big
  obtain ⟨t1, ht1⟩ : ∃ t1, t1 = t.leak 3 (qE ad) := ⟨_, rfl⟩
  have t1m : t1.mem = t.mem := by rw [ht1]; rfl
  have t1r : t1.regs = t.regs := by rw [ht1]; rfl
  simp only [← ht1] at p8
  have r0' := rI0 G t1 wr i
  have r1' := rI1 G t1 wr i
  have cM : dJ .u64 (I6 (s.mem.length : Int)) = some (Un s.mem.length) := by rw [rP, aFa _ (by omega)]
  have bcM : ∀ H, aE G false 1 (.rp bc (.agg [.ro bor (cJ cs), I6 R, I6 (s.mem.length : Int)]) 2) H = some (I6 (s.mem.length : Int)) := fun H => rfl
  by_cases hin : t.mem.length ≤ ad
  ·rw [if_pos hin]
   have q5 : aX Tryd.prog .geq 30 false (Un ad) (Un s.mem.length) = some (.bool true) := by rw [kV, decide_eq_true (by omega)]
   have z1 := aJz t1 wr i.v 3
   have z2 := aLh G { t1 with code := 3 } wr i.v
   have z3 := aLi { t1 with code := 3 } wr i.v
   repeat' first
    | (with_reducible first | refine eT ?_ | refine eN ?_ | refine eS ?_ | refine eXn ?_ | refine eXr ?_ | refine eX ?_ | refine eI ?_ | refine eK ?_ | refine eV0 ?_ | refine xZ ?_ | refine yC ?_ | refine xW ?_ | refine yB ?_ | refine xX ?_ | refine xY ?_)
    | ((with_reducible apply eCn); (simp only [fB, fA]; first | done | (with_reducible exact rfl)))
    | ((with_reducible apply eJ); (rfl))
    | ((with_reducible apply yA); (first | rfl | (simp only [fB, fA]; rfl)))
    | ((with_reducible apply eB); (first | (with_reducible exact rfl) | (simp (disch := omega) only [qf, r5, c1, c2, c3, p6, p7, p8, cM, bcM, q5, z1, z2, z3]; first | done | (with_reducible exact rfl) | (with_reducible exact ⟨rfl, rfl⟩)) | (simp (disch := omega) only [qa, kA, AV.cells, gD, cP, kD, fQ, gX, jH, Nat.reduceLeDiff, Nat.reduceLT, Nat.reduceAdd, ↓reduceIte, r5, c1, c2, c3, p6, p7, p8, cM, bcM, q5, z1, z2, z3]; first | done | (with_reducible exact rfl) | (with_reducible exact ⟨rfl, rfl⟩))))
    | ((with_reducible apply eR); (simp only [fB, fA]; (with_reducible exact rfl)))
    | ((with_reducible first | refine aBl ?_ ?_ | refine aBq ?_ ?_ | refine aBp ?_ ?_ | refine aBo ?_ ?_ | refine aBn ?_ ?_ | refine aBm ?_ ?_ | refine aBr ?_ ?_ | refine sO ?_ ?_ | refine sGd ?_ ?_ | refine rS ?_ ?_) <;> intro hq <;> try subst hq)
   all_goals (rw [ht1]; refine gA ?_; rfl)
  ·rw [if_neg hin]
   have q5 : aX Tryd.prog .geq 30 false (Un ad) (Un s.mem.length) = some (.bool false) := by rw [kV, decide_eq_false (by omega)]
   have m1 := aLR G t1 wr i.v
   have m2 := aLO t1 ad (by rw [t1m]; omega)
   have m3 := aLQ G t1 wr i.v ad (by rw [t1m]; omega)
   by_cases h15 : i.op = 15
   ·rw [if_pos h15]
    have q6 : aX Tryd.prog .eql 3 true (I6 i.op) (.int .i64 15) = some (.bool true) := by rw [jC, decide_eq_true h15]
    obtain ⟨d0, dR⟩ := hi.ok.d (by omega)
    have m4 := idR R i.d d0 (by omega)
    have m5 := aLj t1 wr i.v R i.d (t1.mem.getD ad 0) d0 dR (by rw [t1r]; exact tR)
    have fx := aMv r5 <| aMv c1 <| aMv c2 <| aMv c3 <| aMv p6 <| aMv p7 <| aMv p8 <| aMv cM <| aMv bcM <| aMv q5 <| aMv q6 <| aMv r0' <| aMv r1' <| aMv m1 <| aMv m2 <| aMv m3 <| aMv m4 <| m5
    refine kU ?_
    rw [t1m, ht1, ← eat]; refine gA ?_; rfl
   ·rw [if_neg h15]
    have q6 : aX Tryd.prog .eql 3 true (I6 i.op) (.int .i64 15) = some (.bool false) := by rw [jC, decide_eq_false h15]
    have m5 := aLS t1 wr i.v ad (t.rg i.b) (by rw [t1m]; omega)
    have fx := aMv r5 <| aMv c1 <| aMv c2 <| aMv c3 <| aMv p6 <| aMv p7 <| aMv p8 <| aMv cM <| aMv bcM <| aMv q5 <| aMv q6 <| aMv r0' <| aMv r1' <| aMv m1 <| aMv m2 <| aMv m3 <| m5
    refine kU ?_
    rw [t1m, ht1, ← eat]; refine gA ?_; rfl
 by_cases h2 : i.op = 17 ∨ i.op = 18 ∨ i.op = 19
 ·have hk := hi.ok.k (by omega) (by omega)
  have nk : I6 i.k = Nn i.k.toNat := by show AV.int .i64 i.k = .int .i64 _; congr 1; omega
  rw [nk] at r5
  have e1 : t.step i = (({ t with at_ := t.at_ + 1 } : MS).branch i, true) := by
   rw [e0]
   simp only
   rw [if_neg h1, if_pos h2]
  rw [e1]
  clear e0 e1
  by_cases h17 : i.op = 17
  ·unfold MS.branch
   rw [if_pos h17]
   have fx := aMv r0 <| r5
   refine kU ?_
   refine gA ?_; rfl
  ·unfold MS.branch
   rw [if_neg h17]
   have p6 := aDS G t wr i.v
   have z0 : aX Tryd.prog .eql 30 true (Un (t.rg i.a)) (.int .u64 0) = some (.bool (decide (t.rg i.a = 0))) := by
    rw [jC]; congr 2; simp only [decide_eq_decide]; omega
   have z1 : aX Tryd.prog .eql 3 true (I6 i.op) (.int .i64 18) = some (.bool (decide (i.op = 18))) := jC ..
   have z2 : aX Tryd.prog .eql 4 false (.bool (decide (t.rg i.a = 0))) (.bool (decide (i.op = 18))) = some (.bool (decide (t.rg i.a = 0) == decide (i.op = 18))) := aAv Tryd.underlying4 ..
   have z3 : ∀ b H, aW (dF.f G (k + 3)) [.bool b] H = _ := fun b H => cG (H := H) (aDi G (k + 2) b) rfl rfl
   have rgu : (({ t with at_ := t.at_ + 1 } : MS).rg i.a) = t.rg i.a := rfl
   rw [rgu]
   by_cases hg : (decide (t.rg i.a = 0) == decide (i.op = 18)) = true
   ·rw [if_pos hg]
    rw [hg] at z2
    have z3' := z3 true
    rw [if_pos rfl] at z3'
    have p7 : fU 91 2 (.sl 6 t.leaks.length 0 t.leaks.length 2) (.ro false [.agg [.int .i64 2, .int .i64 1]]) (gM t wr i.v) = _ := aIB t wr i.v (2, 1) (by omega)
    have p8 := aIC t wr i.v (2, 1)
    have r5' : ∀ y, aE G false 1 (.ptr 7 1 0 5) (gM (t.leak 2 y) wr i.v) = some (Nn i.k.toNat) := fun y => by rw [rI5, nk]
    clear z3
    have w18 : aX Tryd.prog .eql 3 true (I6 i.op) (.int .i64 17) = some (.bool false) := by rw [jC, decide_eq_false h17]
    generalize decide (t.rg i.a = 0) = g1 at *
    generalize hg2 : decide (i.op = 18) = g2 at *
    have w19 : g2 = false → aX Tryd.prog .eql 3 true (I6 i.op) (.int .i64 19) = some (.bool true) := fun h => by
     subst h; simp at hg2; rw [jC, decide_eq_true (by omega)]
    cases hgg : g2
    ·rw [hgg] at z1 z2
     have w19 := w19 hgg
     have fx := aMv r0 <| aMv r5' <| aMv p6 <| aMv p7 <| aMv p8 <| aMv z0 <| aMv z1 <| aMv z2 <| aMv z3' <| aMv w18 <| w19
     refine kU ?_
     refine gA ?_; rfl
    ·rw [hgg] at z1 z2
     have fx := aMv r0 <| aMv r5' <| aMv p6 <| aMv p7 <| aMv p8 <| aMv z0 <| aMv z1 <| aMv z2 <| aMv z3' <| w18
     refine kU ?_
     refine gA ?_; rfl
   ·rw [if_neg hg]
    rw [Bool.not_eq_true] at hg
    rw [hg] at z2
    have z3' := z3 false
    rw [if_neg (by decide)] at z3'
    have p7 : fU 91 2 (.sl 6 t.leaks.length 0 t.leaks.length 2) (.ro false [.agg [.int .i64 2, .int .i64 0]]) (gM t wr i.v) = _ := aIB t wr i.v (2, 0) (by omega)
    have p8 := aIC t wr i.v (2, 0)
    clear z3
    have w18 : aX Tryd.prog .eql 3 true (I6 i.op) (.int .i64 17) = some (.bool false) := by rw [jC, decide_eq_false h17]
    generalize decide (t.rg i.a = 0) = g1 at *
    generalize hg2 : decide (i.op = 18) = g2 at *
    have w19 : g2 = false → aX Tryd.prog .eql 3 true (I6 i.op) (.int .i64 19) = some (.bool true) := fun h => by
     subst h; simp at hg2; rw [jC, decide_eq_true (by omega)]
    cases hgg : g2
    ·rw [hgg] at z1 z2
     have w19 := w19 hgg
     have fx := aMv r0 <| aMv p6 <| aMv p7 <| aMv p8 <| aMv z0 <| aMv z1 <| aMv z2 <| aMv z3' <| aMv w18 <| w19
     refine kU ?_
     rw [← eat]; refine gA ?_; rfl
    ·rw [hgg] at z1 z2
     have fx := aMv r0 <| aMv p6 <| aMv p7 <| aMv p8 <| aMv z0 <| aMv z1 <| aMv z2 <| aMv z3' <| w18
     refine kU ?_
     rw [← eat]; refine gA ?_; rfl
 by_cases h3 : i.op = 20
 ·have e1 : t.step i = ({ ({ t with at_ := t.at_ + 1 } : MS) with code := i.k }, false) := by
   rw [e0]
   simp only
   rw [if_neg h1, if_neg h2, if_pos h3]
  rw [e1]
  clear e0 e1
  have z1 := aJz t wr i.v i.k
  have z2 := aLh G { t with code := i.k } wr i.v
  have z3 := aLi { t with code := i.k } wr i.v
  have fx := aMv r0 <| aMv r5 <| aMv z1 <| aMv z2 <| z3
  refine kU ?_
  refine gA ?_; rfl
 ·have hv := aFb (n := i.k) (a := t.rg i.a) (b := t.rg i.b) (c := t.rg i.c) (show 1 ≤ i.op ∧ i.op ≤ 14 by omega) hi.sh
  have e1 : t.step i = (({ t with at_ := t.at_ + 1 } : MS).set i.d (jN i.op i.k (t.rg i.a) (t.rg i.b) (t.rg i.c)).1, true) := by
   rw [e0]
   simp only
   rw [if_neg h1, if_neg h2, if_neg h3, if_pos hv]
  rw [e1]
  clear e0 e1
  obtain ⟨d0, dR⟩ := hi.ok.d (by omega)
  obtain ⟨c0, cR⟩ := hi.ok.c (by omega)
  have z1 := rI6 G t wr i
  have z2 := rI4 G t wr i
  have z3 := idR R i.c c0 (by omega)
  have z4 := aKo G t wr i.v R i.c c0 (by omega) tR
  have z5 : ∀ H, aW (bY.f G (k + 3)) [i.v, Un (t.rg i.a), Un (t.rg i.b), Un (t.rg i.c)] H = _ := fun H => cG (H := H) (aCY G (k + 1) i.op i.d i.a i.b i.c i.k _ _ _ (tok.rg _) (tok.rg _) (tok.rg _)) rfl rfl
  have z6 := rI1 G t wr i
  have z7 := idR R i.d d0 (by omega)
  have z8 := aLj t wr i.v R i.d (jN i.op i.k (t.rg i.a) (t.rg i.b) (t.rg i.c)).1 d0 dR tR
  rw [hv] at z5
  generalize (jN i.op i.k (t.rg i.a) (t.rg i.b) (t.rg i.c)).1 = v at *
  have fx := aMv r0 <| aMv z1 <| aMv z2 <| aMv z3 <| aMv z4 <| aMv z5 <| aMv z6 <| aMv z7 <| z8
  refine kU ?_
  rw [← eat]; refine gA ?_; rfl
end
section
variable (G : aF) (k : Nat) (self : cE) (fuel : Int) (bc bor : Bool) (cs : List WI) (R : Nat) (wr : Int)
theorem aET (hcl : cs.length ≤ 100000) (hcs : ∀ j, j < cs.length → (cs.getD j default).Ok2 R cs.length) (hf : fuel ≤ 99998) (M : Int) : ∀ (f : Nat) (s s' : MS) (H : aB), jB cs fuel f s = some s' → s.Ok R → (s.steps : Int) ≤ fuel → M = s.mem.length → s.at_ ≤ cs.length → H.take 7 = mN s wr →
  ∃ pc l, dK (bH.l4 G (k + 3) 7 self) f (qS .nils fuel bc bor cs R M s.at_) H = some (.ret, qS .nils fuel bc bor cs R M pc, yD s' wr l)
 | 0, s, s', H, h, hs, hst, hM, hat, hH => by simp [jB] at h
 | f + 1, s, s', H, h, hs, hst, hM, hat, hH => by
  have few := hs.few
  rw [bB]
  simp only [jB] at h
  by_cases h1 : cs.length ≤ s.at_
  ·rw [if_pos h1] at h
   simp only [Option.some.injEq] at h
   refine ⟨s.at_, [], ?_⟩
   rw [bH.l4]
   have hc := aDW fuel bc bor cs R s wr .nils rfl M s.at_ H hH
   unfold qS at *
   have lc : dD (.ro bor (cJ cs)) = some (I6 cs.length) := by simp [dD, fP]
   have q1 : aX Tryd.prog .geq 3 false (Nn s.at_) (I6 cs.length) = some (.bool true) := by rw [kV, decide_eq_true (by omega)]
   have z1 := aJp s wr 3
   have z2 := aLf G { s with code := 3 } wr
   have z3 := aLg { s with code := 3 } wr
   rw [h] at z1 z2 z3
   refine fV ?_
   refine eC hc ?_
   have fx := aMv lc <| aMv q1 <| aMv z1 <| aMv z2 <| z3
   refine kU ?_
   refine gA ?_; rfl
  rw [if_neg h1] at h
  by_cases h2 : (s.steps : Int) = fuel
  ·rw [if_pos h2] at h
   simp only [Option.some.injEq] at h
   refine ⟨s.at_, [], ?_⟩
   rw [bH.l4]
   have hc := aDW fuel bc bor cs R s wr .nils rfl M s.at_ H hH
   unfold qS at *
   have lc : dD (.ro bor (cJ cs)) = some (I6 cs.length) := by simp [dD, fP]
   have q1 : aX Tryd.prog .geq 3 false (Nn s.at_) (I6 cs.length) = some (.bool false) := by rw [kV, decide_eq_false (by omega)]
   have q2 : aX Tryd.prog .geq 2 false (Nn s.steps) (I6 fuel) = some (.bool true) := by rw [kV, decide_eq_true (by omega)]
   have p1 := aGW G s wr
   have z1 := aJp s wr 4
   have z2 := aLf G { s with code := 4 } wr
   have z3 := aLg { s with code := 4 } wr
   rw [h] at z1 z2 z3
   refine fV ?_
   refine eC hc ?_
   have fx := aMv lc <| aMv q1 <| aMv q2 <| aMv p1 <| aMv z1 <| aMv z2 <| z3
   refine kU ?_
   refine gA ?_; rfl
  rw [if_neg h2] at h
  have hi := hcs s.at_ (by omega)
  rw [aHy G k self fuel bc bor cs R s wr _ (cs.getD s.at_ default) H hH hs hi hcl (by omega) rfl (by omega) (by omega) M hM]
  have okt : s.tick.Ok R := ⟨hs.len, hs.regs, hs.mem, by have := hs.leaks; simp [MS.tick, MS.leak]; omega, hs.big, by simp [MS.tick, MS.leak]; omega⟩
  obtain ⟨o1, o2, o3, o4⟩ := MS.step_ok okt hi.ok (by have := hs.leaks; simp [MS.tick, MS.leak]; omega) (show s.tick.at_ < cs.length from by show s.at_ < _; omega)
  have tm : s.tick.mem = s.mem := rfl
  have tst : s.tick.steps = s.steps + 1 := rfl
  obtain ⟨s2, b, hsb⟩ : ∃ s2 b, s.tick.step (cs.getD s.at_ default) = (s2, b) := ⟨_, _, rfl⟩
  rw [hsb] at h o1 o2 o3 o4 ⊢
  simp only at h o1 o2 o3 o4
  cases b
  ·simp only [Option.some.injEq] at h
   subst h
   exact ⟨s.at_, _, rfl⟩
  ·exact aET hcl hcs hf M f s2 s' _ h o1 (by rw [o3, tst]; omega) (by rw [o4, tm]; exact hM) o2 rfl
abbrev rB : ABlk := ⟨38, 5, [.agg [.int .i64 0, .nils, .nils, .int .i64 0, .int .i64 0]]⟩
def lP (l : List Nat) : aB := [rB, ⟨30, 1, []⟩, ⟨30, 1, dL l⟩]
theorem sV (b : Bool) (mem : List Nat) (hml : mem.length ≤ 1000000) : ∀ (suf pre : List Nat) (f : Nat), mem = pre ++ suf → suf.length < f →
  dK (bQ.l3 G k 3 self) f [.ro b (dL mem), .sl 2 pre.length 0 pre.length 1, Nn pre.length] (lP pre) = some (.exit 0, [.ro b (dL mem), .sl 2 mem.length 0 mem.length 1, Nn mem.length], lP mem)
 | suf, pre, 0, hm, hf => by omega
 | [], pre, f + 1, hm, hf => by
  rw [bB, bQ.l3]
  have hl : mem = pre := by rw [hm]; simp
  have hc : fN 3 [.ro b (dL mem), .sl 2 pre.length 0 pre.length 1, Nn pre.length] (lP pre) = some (lP pre) := by
   simp [fN, lP, cI, cB, dI, jW]
  have lc : dD (.ro b (dL mem)) = some (I6 mem.length) := by simp [dD, gK]
  have q : aX Tryd.prog .lss 3 false (Nn pre.length) (Nn mem.length) = some (.bool false) := by rw [hJ, decide_eq_false (by rw [hl]; omega)]
  refine fV ?_
  refine eC hc ?_
  have fx := aMv lc <| q
  refine kU ?_
  rw [hl]
  refine gA ?_; rfl
 | a :: suf, pre, f + 1, hm, hf => by
  rw [bB, bQ.l3]
  have hl : mem.length = pre.length + (suf.length + 1) := by rw [hm]; simp
  have hc : fN 3 [.ro b (dL mem), .sl 2 pre.length 0 pre.length 1, Nn pre.length] (lP pre) = some (lP pre) := by
   simp [fN, lP, cI, cB, dI, jW]
  have lc : dD (.ro b (dL mem)) = some (I6 mem.length) := by simp [dD, gK]
  have q : aX Tryd.prog .lss 3 false (Nn pre.length) (Nn mem.length) = some (.bool true) := by rw [hJ, decide_eq_true (by omega)]
  have ha : mem.getD pre.length 0 = a := by rw [hm]; simp [List.getD]
  have d1 : aM 1 (.ro b (dL mem)) (Nn pre.length) = some (.rp b (Un a) 0) := by
   have := nN mem pre.length (by omega)
   rw [ha] at this
   exact tH this rfl
  have d2 : ∀ H, aE G false 1 (.rp b (Un a) 0) H = some (Un a) := fun H => rfl
  have d3 : fU 30 1 (.sl 2 pre.length 0 pre.length 1) (.ro false [Un a]) (lP pre) = some (.sl 2 (pre ++ [a]).length 0 (pre ++ [a]).length 1, lP (pre ++ [a])) := by
   have e : (lP pre)[2]? = some ⟨30, 1, dL pre⟩ := rfl
   unfold fU
   simp only [e, iE, gK, List.length_singleton]
   rw [if_pos (by refine ⟨?_, ?_, ?_, ?_, ?_⟩ <;> first | trivial | rfl | omega)]
   have e2 : (dL pre).take pre.length = dL pre := List.take_of_length_le (by rw [gK]; exact Nat.le_refl _)
   have e3 : (dL pre).drop (pre.length + 1) = [] := List.drop_of_length_le (by rw [gK]; omega)
   rw [e2, e3, List.append_nil]
   have e4 : dL pre ++ [Un a] = dL (pre ++ [a]) := by simp [dL]
   rw [e4, gK]; simp [lP]
  have d4 : aX Tryd.prog .add 3 true (Nn pre.length) (.int .i64 1) = some (Nn (pre ++ [a]).length) := by
   rw [gR, eD (by omega) (by omega)]; congr 2; simp
  have ih := sV b mem hml suf (pre ++ [a]) f (by rw [hm]; simp) (by simp at hf; omega)
  refine fV ?_
  refine eC hc ?_
  have fx := aMv lc <| aMv q <| aMv d1 <| aMv d2 <| aMv d3 <| d4
  refine kU ?_
  exact ih
theorem aBC (b : Bool) (mem : List Nat) (hml : mem.length ≤ 1000000) (hk : mem.length < k) : bQ.f G (k + 1) [.ro b (dL mem)] [rB] = some (.sl 2 mem.length 0 mem.length 1, lP mem) := by
 rw [bQ.step]
 unfold bQ.c
 have lc : dD (.ro b (dL mem)) = some (I6 mem.length) := by simp [dD, gK]
 have ms : eW 30 1 (.int .u64 0) (.int .i64 0) (I6 mem.length) [rB, ⟨30, 1, []⟩] = some (.sl 2 0 0 0 1, lP []) := by
  unfold eW
  simp only
  rw [if_pos (by omega)]
  rfl
 have lp : dK (bQ.l3 G k 3 (bQ.f G k)) k [.ro b (dL mem), .sl 2 0 0 0 1, .int .i64 0] (lP []) = _ := sV G k (bQ.f G k) b mem hml mem [] k rfl hk
 refine gQ ?_
 have fx := aMv lc <| ms
 have lx1 := lp
 refine kU ?_
 refine gA ?_; rfl
def gP (s : MS) (wr : Int) : AV := .agg [I6 s.code, .ro false (dL s.mem), .ro false (dX s.leaks), Nn s.steps, I6 wr]
theorem sU (s : MS) (wr : Int) : gO (gP s wr) = true := by simp [gP, gO, iV, aDw, aIf]
theorem aHr (s : MS) (wr : Int) (l : aB) : iB [aE G true 5 (.ptr 0 1 0 0) (yD s wr l)] ([] : aB).length (yD s wr l) = some (.ret, [gP s wr], []) := by
 have f1 := tB (H := yD s wr l) (b := 2) (n0 := 0) (d := 4) (ty := 30) rfl (by omega) (gK s.mem) (vD _) (jW 0 _)
 have f2 := tB (H := yD s wr l) (b := 6) (n0 := 0) (d := 4) (ty := 91) rfl (by omega) (hU s.leaks) (aHY _) (jE 0 _)
 have f3 : rE (yD s wr l) 0 6 (tS s wr) = some (gP s wr) :=
  aAO (by simp [cI, cB]) (gW (mU rfl 5) (gW f1 (gW f2 (gW (mU rfl 5) (gW (mU rfl 5) pN)))))
 have hl : aE G true 5 (.ptr 0 1 0 0) (yD s wr l) = some (tS s wr) := rfl
 unfold iB
 rw [hl]
 simp only [pV]
 exact aAN f3 rfl
theorem zS (M : Int) (mem : List Nat) (bm : Bool) (hR : R ≤ 100000) (hm : ∀ x ∈ mem, x < 18446744073709551616) (hml : mem.length ≤ 1000000) (hM : M = mem.length) (h0 : 0 ≤ fuel) (hf : fuel ≤ 99998) (hcl : cs.length ≤ 100000)
  (hcs : ∀ j, j < cs.length → (cs.getD j default).Ok2 R cs.length) (hk : mem.length < k + 2) (s' : MS) (hrun : jB cs fuel (k + 3) (s0 R mem) = some s') :
  bH.f G (k + 4) [cV bor cs R M, .nils, .ro bm (dL mem), I6 fuel] [] = some (gP s' (-1), []) := by
 rw [bH.step]
 unfold bH.c cV
 obtain ⟨pc, l, lp⟩ := aET G k (bH.f G (k + 3)) fuel false bor cs R (-1) hcl hcs hf M (k + 3) (s0 R mem) s' (mN (s0 R mem) (-1)) hrun (aCZ R mem hm hml) (by simp only [s0]; omega) (by simpa [s0] using hM) (by simp [s0]) rfl
 have w1_ : bD (bQ.f G (k + 3)) [.ro bm (dL mem)] [rB] = some (.sl 2 mem.length 0 mem.length 1, [rB, ⟨30, 1, []⟩, ⟨30, 1, dL mem⟩]) := pG (aBC G (k + 2) bm mem hml hk) (by simp [lP])
 have q1 : aX Tryd.prog .add 3 true (I6 R) (.int .i64 1) = some (I6 (R + 1 : Nat)) := by
  rw [gR, eD (by omega) (by omega)]; congr 2
 have c5 : eW 30 1 (.int .u64 0) (I6 (R + 1 : Nat)) (I6 (R + 1 : Nat)) [rB, ⟨30, 1, []⟩, ⟨30, 1, dL mem⟩, ⟨38, 5, [.agg [.int .i64 0, .sl 2 mem.length 0 mem.length 1, .nils, .int .i64 0, .int .i64 (-1)]]⟩] =
   some (.sl 4 (R + 1) 0 (R + 1) 1, [rB, ⟨30, 1, []⟩, ⟨30, 1, dL mem⟩, ⟨38, 5, [.agg [.int .i64 0, .sl 2 mem.length 0 mem.length 1, .nils, .int .i64 0, .int .i64 (-1)]]⟩, ⟨30, 1, dL (List.replicate R 0 ++ [0])⟩]) := by
  unfold eW
  have : (0 : Int) ≤ (R + 1 : Nat) ∧ ((R + 1 : Nat) : Int) ≤ (R + 1 : Nat) ∧ ((R + 1 : Nat) : Int) ≤ 1099511627776 := by omega
  have e : List.replicate R 0 ++ [0] = List.replicate (R + 1) 0 := by rw [List.replicate_succ']
  rw [e]
  simp only [this, and_self, if_true, Int.toNat_natCast, dL, List.map_replicate]
  rfl
 refine gQ ?_
 have fx := aMv w1_ <| aMv q1 <| c5
 refine gT ?_
 refine eV1 (H1 := [⟨38, 5, [.agg [.int .i64 0, .nils, .sl 5 0 0 0 2, .int .i64 0, .int .i64 0]]⟩, ⟨30, 1, []⟩, ⟨30, 1, dL mem⟩, ⟨38, 5, [.agg [.int .i64 0, .sl 2 mem.length 0 mem.length 1, .nils, .int .i64 0, .int .i64 (-1)]]⟩, ⟨30, 1, dL (List.replicate R 0 ++ [0])⟩, ⟨91, 2, []⟩]) rfl ?_
 refine eV1 (H1 := mN (s0 R mem) (-1)) rfl ?_
 refine eV0 ?_
 rw [aJT]
 refine eK ?_
 refine eL lp ?_
 have fx := True.intro
 refine gT ?_
 exact oF (aHr G s' (-1) l)
end
theorem nT (G : aF) (k : Nat) (self : cE) (p q : Bool) (a : List (Int × Int)) (hla : a.length ≤ 1000000) : ∀ (suf pre : List (Int × Int)) (f : Nat), a = pre ++ suf → suf.length < f →
  dK (aO.l4 G (k + 1) 0 self) f [.ro p (dX a), .ro q (dX a), .bool false, Nn pre.length] [] = some (.exit 0, [.ro p (dX a), .ro q (dX a), .bool false, Nn a.length], [])
 | suf, pre, 0, hm, hf => by omega
 | [], pre, f + 1, hm, hf => by
  rw [bB, aO.l4]
  have hl : a = pre := by rw [hm]; simp
  have hc : fN 0 [.ro p (dX a), .ro q (dX a), .bool false, Nn pre.length] [] = some [] := by simp [fN, cI, cB, dI, jE]
  have lc : dD (.ro p (dX a)) = some (I6 a.length) := by simp [dD, hU]
  have qq : aX Tryd.prog .lss 3 false (Nn pre.length) (Nn a.length) = some (.bool false) := by rw [hJ, decide_eq_false (by rw [hl]; omega)]
  refine fV ?_
  refine eC hc ?_
  have fx := aMv lc <| qq
  refine kU ?_
  rw [hl]
  refine gA ?_; rfl
 | x :: suf, pre, f + 1, hm, hf => by
  rw [bB, aO.l4]
  have hl : a.length = pre.length + (suf.length + 1) := by rw [hm]; simp
  have hc : fN 0 [.ro p (dX a), .ro q (dX a), .bool false, Nn pre.length] [] = some [] := by simp [fN, cI, cB, dI, jE]
  have lc : dD (.ro p (dX a)) = some (I6 a.length) := by simp [dD, hU]
  have qq : aX Tryd.prog .lss 3 false (Nn pre.length) (Nn a.length) = some (.bool true) := by rw [hJ, decide_eq_true (by omega)]
  have ha : (dX a)[pre.length]? = some (jK x) := by rw [hm]; simp [dX]
  have d1 : ∀ b, aM 2 (.ro b (dX a)) (Nn pre.length) = some (.rp b (jK x) 0) := fun b => by
   unfold aM
   have h0 : (0 : Int) ≤ (pre.length : Int) := by omega
   simp only [h0, if_true, Int.toNat_natCast, ha]
   rfl
  have d2 : ∀ b H, aE G true 2 (.rp b (jK x) 0) H = some (jK x) := fun b H => rfl
  have d4 : aX Tryd.prog .add 3 true (Nn pre.length) (.int .i64 1) = some (Nn (pre ++ [x]).length) := by
   rw [gR, eD (by omega) (by omega)]; congr 2; simp
  have s1 : bE.f G (k + 1) [jK x, jK x] [] = some (.bool true, []) := by
   rw [bE.step]
   unfold bE.c jK
   refine gQ ?_
   have fx := True.intro
   refine kU ?_
   exact yJ rfl
  have d5 : ∀ H, aW (bE.f G (k + 1)) [jK x, jK x] H = _ := fun H => cG (H := H) s1 rfl rfl
  have ih := nT G k self p q a hla suf (pre ++ [x]) f (by rw [hm]; simp) (by simp at hf; omega)
  refine fV ?_
  refine eC hc ?_
  have fx := aMv lc <| aMv qq <| aMv d1 <| aMv d2 <| aMv d4 <| d5
  refine kU ?_
  exact ih
theorem tW (G : aF) (k : Nat) (p q : Bool) (a : List (Int × Int)) (hla : a.length ≤ 1000000) (hk : a.length < k + 1) : aO.f G (k + 2) [.ro p (dX a), .ro q (dX a)] [] = some (.bool true, []) := by
 rw [aO.step]
 unfold aO.c
 have lc : ∀ b, dD (.ro b (dX a)) = some (I6 a.length) := fun b => by simp [dD, hU]
 have lp : dK (aO.l4 G (k + 1) 0 (aO.f G (k + 1))) (k + 1) [.ro p (dX a), .ro q (dX a), .bool false, .int .i64 0] [] = _ := nT G k (aO.f G (k + 1)) p q a hla a [] (k + 1) rfl hk
 refine gQ ?_
 have fx := lc
 have lx1 := lp
 refine kU ?_
 exact yJ rfl
theorem aCI {x : AV} {t e : TypeId} (hu : Tryd.prog.underlying t = some (.slice e)) (he : Tryd.prog.underlying e = some (.int .u64)) (h : IsT Tryd.prog t x) :
  ∃ l : List Nat, x = .ro false (dL l) ∧ (∀ n ∈ l, n < 18446744073709551616) := by
 obtain ⟨l, rfl, hw, hl⟩ := h.of_ints hu he
 refine ⟨l.map Int.toNat, ?_, ?_⟩
 ·unfold dL
  rw [List.map_map]
  congr 1
  apply List.map_congr_left
  intro n hn
  obtain ⟨h1, h2⟩ := aHP (hw n hn)
  show AV.int .u64 n = AV.int .u64 ((n.toNat : Nat) : Int)
  rw [Int.toNat_of_nonneg h1]
 ·intro n hn
  obtain ⟨z, hz, rfl⟩ := List.mem_map.1 hn
  have := aHP (hw z hz)
  omega
theorem aKg {x : AV} (h : IsT Tryd.prog 29 x) : ∃ i : WI, x = i.v ∧ (-9223372036854775808 ≤ i.k ∧ i.k < 9223372036854775808) := by
 obtain ⟨cs, rfl, hf⟩ := h.of_struct Tryd.underlying29
 cases hf with
 | cons h1 hf =>
 cases hf with
 | cons h2 hf =>
 cases hf with
 | cons h3 hf =>
 cases hf with
 | cons h4 hf =>
 cases hf with
 | cons h5 hf =>
 cases hf with
 | cons h6 hf =>
 cases hf with
 | nil =>
 obtain ⟨a, rfl, _⟩ := h1.of_int (k := .i64) Tryd.underlying3
 obtain ⟨b, rfl, _⟩ := h2.of_int (k := .i64) Tryd.underlying3
 obtain ⟨c, rfl, _⟩ := h3.of_int (k := .i64) Tryd.underlying3
 obtain ⟨d, rfl, _⟩ := h4.of_int (k := .i64) Tryd.underlying3
 obtain ⟨e, rfl, _⟩ := h5.of_int (k := .i64) Tryd.underlying3
 obtain ⟨f, rfl, hw⟩ := h6.of_int (k := .i64) Tryd.underlying2
 exact ⟨⟨a, b, c, d, e, f⟩, rfl, aBD hw⟩
theorem aEE {α : Type} {P : AV → Prop} {e : α → AV} {Q : α → Prop} (h : ∀ x, P x → ∃ a, x = e a ∧ Q a) : ∀ xs : List AV, (∀ x ∈ xs, P x) → ∃ l : List α, xs = l.map e ∧ ∀ a ∈ l, Q a
 | [], _ => ⟨[], rfl, fun a h => by cases h⟩
 | x :: xs, hx => by
  obtain ⟨a, rfl, ha⟩ := h x (hx x (by simp))
  obtain ⟨l, rfl, hl⟩ := aEE h xs (fun y hy => hx y (by simp [hy]))
  refine ⟨a :: l, rfl, fun b hb => ?_⟩
  rcases List.mem_cons.1 hb with rfl | hb
  ·exact ha
  ·exact hl b hb
theorem aIy {x : AV} (h : IsT Tryd.prog 27 x) : ∃ (cs : List WI) (R M : Int), x = cV false cs R M ∧ (-9223372036854775808 ≤ R ∧ R < 9223372036854775808) ∧ (-9223372036854775808 ≤ M ∧ M < 9223372036854775808) := by
 obtain ⟨cs, rfl, hf⟩ := h.of_struct Tryd.underlying27
 cases hf with
 | cons h1 hf =>
 cases hf with
 | cons h2 hf =>
 cases hf with
 | cons h3 hf =>
 cases hf with
 | nil =>
 obtain ⟨xs, rfl, hx, _⟩ := h1.of_slice Tryd.underlying25
 obtain ⟨l, rfl, _⟩ := aEE (e := WI.v) (fun x hx => aKg hx) xs hx
 obtain ⟨R, rfl, hR⟩ := h2.of_int (k := .i64) Tryd.underlying3
 obtain ⟨M, rfl, hM⟩ := h3.of_int (k := .i64) Tryd.underlying3
 exact ⟨l, R, M, rfl, aBD hR, aBD hM⟩
theorem tT (cs : List WI) (fuel : Int) : ∀ (f : Nat) (s s' : MS), jB cs fuel f s = some s' → ∀ d, jB cs fuel (f + d) s = some s'
 | 0, s, s', h, d => by simp [jB] at h
 | f + 1, s, s', h, d => by
  rw [show f + 1 + d = (f + d) + 1 by omega]
  simp only [jB] at h ⊢
  by_cases h1 : cs.length ≤ s.at_
  ·rw [if_pos h1] at h ⊢; exact h
  rw [if_neg h1] at h ⊢
  by_cases h2 : (s.steps : Int) = fuel
  ·rw [if_pos h2] at h ⊢; exact h
  rw [if_neg h2] at h ⊢
  obtain ⟨s2, b, hsb⟩ : ∃ s2 b, s.tick.step (cs.getD s.at_ default) = (s2, b) := ⟨_, _, rfl⟩
  rw [hsb] at h ⊢
  cases b
  ·exact h
  ·exact tT cs fuel f s2 s' h d
theorem vN (cs : List WI) (fuel : Int) (R : Nat) (hf : fuel ≤ 99999) (hcs : ∀ j, j < cs.length → (cs.getD j default).Ok R cs.length) : ∀ (f : Nat) (s s' : MS), jB cs fuel f s = some s' → s.Ok R → s.at_ ≤ cs.length → (s.steps : Int) ≤ fuel →
  s'.Ok R ∧ (s'.steps : Int) ≤ fuel ∧ s'.mem.length = s.mem.length
 | 0, s, s', h, _, _, _ => by simp [jB] at h
 | f + 1, s, s', h, hs, hat, hst => by
  simp only [jB] at h
  by_cases h1 : cs.length ≤ s.at_
  ·rw [if_pos h1] at h; simp only [Option.some.injEq] at h; subst h
   exact ⟨⟨hs.len, hs.regs, hs.mem, hs.leaks, hs.big, hs.few⟩, hst, rfl⟩
  rw [if_neg h1] at h
  by_cases h2 : (s.steps : Int) = fuel
  ·rw [if_pos h2] at h; simp only [Option.some.injEq] at h; subst h
   exact ⟨⟨hs.len, hs.regs, hs.mem, hs.leaks, hs.big, hs.few⟩, hst, rfl⟩
  rw [if_neg h2] at h
  have okt : s.tick.Ok R := ⟨hs.len, hs.regs, hs.mem, by have := hs.leaks; simp [MS.tick, MS.leak]; omega, hs.big, by simp [MS.tick, MS.leak]; omega⟩
  obtain ⟨o1, o2, o3, o4⟩ := MS.step_ok okt (hcs s.at_ (by omega)) (by have := hs.leaks; simp [MS.tick, MS.leak]; omega) (show s.tick.at_ < cs.length from by show s.at_ < _; omega)
  have tst : s.tick.steps = s.steps + 1 := rfl
  have tm : s.tick.mem = s.mem := rfl
  obtain ⟨s2, b, hsb⟩ : ∃ s2 b, s.tick.step (cs.getD s.at_ default) = (s2, b) := ⟨_, _, rfl⟩
  rw [hsb] at h o1 o2 o3 o4
  simp only at h o1 o2 o3 o4
  cases b
  ·simp only [Option.some.injEq] at h
   subst h
   exact ⟨o1, by rw [o3, tst]; omega, by rw [o4, tm]⟩
  ·obtain ⟨r1, r2, r3⟩ := vN cs fuel R hf hcs f s2 s' h o1 o2 (by rw [o3, tst]; omega)
   exact ⟨r1, r2, by rw [r3, o4, tm]⟩
theorem aEq (e : Nat) : aGj e ≠ 0 := by unfold aGj; repeat' split <;> try omega
theorem aBQ {R n : Int} (hR : 0 ≤ R) : ∀ {l : List WI} {j : Nat}, lA R n l j = .ok → ∀ i ∈ l, i.Ok2 R.toNat n.toNat
 | [], _, _, i, hi => by cases hi
 | x :: l, j, h, i, hi => by
  unfold lA at h
  split at h
  ·cases h
  ·rename_i ho
   rcases List.mem_cons.1 hi with rfl | hi
   ·exact aCL ho hR
   ·exact aBQ hR h i hi
theorem rA {cs : List WI} {R M : Int} (h : gS cs R M = .ok) : ∀ j, j < cs.length → (cs.getD j default).Ok2 R.toNat cs.length := by
 obtain ⟨⟨hR0, _⟩, _⟩ := qF h
 unfold gS at h
 by_cases h1 : 262144 < cs.length
 ·rw [if_pos h1] at h; cases h
 rw [if_neg h1] at h
 by_cases h2 : R < 0 ∨ 65536 < R ∨ M < 0 ∨ 65536 < M
 ·rw [if_pos h2] at h; cases h
 rw [if_neg h2] at h
 intro j hj
 have := aBQ (by omega) h (cs.getD j default) (by simp [List.getD, List.getElem?_eq_getElem hj])
 rwa [Int.toNat_natCast] at this
structure LY where
 slot : List Nat
 word : List Nat
 M : Nat
def LY.sl (L : LY) (r : Int) : Nat := L.slot.getD r.toNat 0
def LY.wd (L : LY) (r : Int) : Nat := L.word.getD r.toNat 0
def LY.rdC (L : LY) (r into : Int) : List WI := if L.sl r = 0 then [⟨15, into, 0, 0, 0, L.wd r⟩] else []
def LY.rdR (L : LY) (r into : Int) : Int := if L.sl r = 0 then into else L.sl r
def LY.wrR (L : LY) (r : Int) : Int := if L.sl r = 0 then 1 else L.sl r
def LY.wrC (L : LY) (r : Int) : List WI := if L.sl r = 0 then [⟨16, 0, 0, 1, 0, L.wd r⟩] else []
def LY.adC (L : LY) (i : WI) : List WI := L.rdC i.a 1 ++ [⟨1, 2, 0, 0, 0, i.k⟩, ⟨3, 2, L.rdR i.a 1, 2, 0, 0⟩, ⟨1, 3, 0, 0, 0, (L.M : Int)⟩, ⟨13, 3, 2, 3, 0, 0⟩, ⟨18, 0, 3, 0, 0, -1⟩]
def LY.rC (L : LY) (f : Bool) (r into : Int) : List WI := if f = true then L.rdC r into else []
def LY.rR (L : LY) (f : Bool) (r into : Int) : Int := if f = true then L.rdR r into else r
def LY.rds (L : LY) (i : WI) : List WI := L.rC (dM i.op).a i.a 1 ++ (L.rC (dM i.op).b i.b 2 ++ L.rC (dM i.op).c i.c 3)
def LY.ins (L : LY) (i : WI) : WI := ⟨i.op, if (dM i.op).d = true then L.wrR i.d else i.d, L.rR (dM i.op).a i.a 1, L.rR (dM i.op).b i.b 2, L.rR (dM i.op).c i.c 3, i.k⟩
def LY.wrs (L : LY) (i : WI) : List WI := if (dM i.op).d = true then L.wrC i.d else []
def LY.one (L : LY) (i : WI) : List WI :=
 if i.op = 15 then L.adC i ++ ([⟨15, L.wrR i.d, 2, 0, 0, 0⟩] ++ L.wrC i.d)
 else if i.op = 16 then L.adC i ++ (L.rdC i.b 1 ++ [⟨16, 0, 2, L.rdR i.b 1, 0, 0⟩])
 else L.rds i ++ ([L.ins i] ++ L.wrs i)
def LY.flat (L : LY) : List WI → List WI
 | [] => []
 | w :: ws => L.one w ++ L.flat ws
theorem pZ (L : LY) : ∀ l m : List WI, L.flat (l ++ m) = L.flat l ++ L.flat m
 | [], m => rfl
 | w :: l, m => by simp only [List.cons_append, LY.flat, pZ L l m, List.append_assoc]
def LY.at_ (L : LY) (ws : List WI) (j : Nat) : Nat := (L.flat (ws.take j)).length
def LY.pos (L : LY) (b : Nat) : List WI → List Nat
 | [] => []
 | w :: ws => b :: L.pos (b + (L.one w).length) ws
theorem aBf (L : LY) : ∀ (ws : List WI) (b : Nat), (L.pos b ws).length = ws.length
 | [], b => rfl
 | w :: ws, b => by simp only [LY.pos, List.length_cons, aBf L ws]
theorem aEJ (L : LY) : ∀ (ws : List WI) (b j : Nat), j ≤ ws.length → (L.pos b ws ++ [b + (L.flat ws).length]).getD j 0 = b + (L.flat (ws.take j)).length
 | [], b, 0, h => by simp [LY.pos, LY.flat]
 | [], b, j + 1, h => by simp at h
 | w :: ws, b, 0, h => by simp [LY.pos, LY.flat]
 | w :: ws, b, j + 1, h => by
  have h2 := aEJ L ws (b + (L.one w).length) j (by simpa using h)
  simp only [LY.pos, LY.flat, List.length_append, List.cons_append, List.getD_cons_succ, List.take_succ_cons]
  rw [show b + ((L.one w).length + (L.flat ws).length) = b + (L.one w).length + (L.flat ws).length by omega, h2]
  omega
def LY.place (L : LY) (ws : List WI) : List Nat := L.pos 0 ws ++ [(L.flat ws).length]
theorem zP (L : LY) (ws : List WI) (j : Nat) (h : j ≤ ws.length) : (L.place ws).getD j 0 = L.at_ ws j := by
 have := aEJ L ws 0 j h
 simp only [Nat.zero_add] at this
 exact this
theorem zQ (L : LY) (ws : List WI) : (L.place ws).length = ws.length + 1 := by simp [LY.place, aBf]
def jS (P : List Nat) (n : Nat) (i : WI) : WI := if i.op = 17 ∨ i.op = 18 ∨ i.op = 19 then (if i.k = -1 then { i with k := n } else { i with k := (P.getD i.k.toNat 0 : Nat) }) else i
def LY.out (L : LY) (ws : List WI) : List WI := (L.flat ws).map (jS (L.place ws) (L.flat ws).length)
theorem oC (L : LY) (ws : List WI) : (L.out ws).length = (L.flat ws).length := by simp [LY.out]
theorem aEd (ws : List WI) (j : Nat) (h : j < ws.length) : ws = ws.take j ++ ws.getD j default :: ws.drop (j + 1) := by
 have : ws.getD j default = ws[j] := by rw [List.getD_eq_getElem?_getD, List.getElem?_eq_getElem h]; rfl
 rw [this, ← List.drop_eq_getElem_cons h, List.take_append_drop]
theorem aKn (L : LY) (ws : List WI) (j : Nat) (h : j < ws.length) {t : Nat} {i : WI} (ht : (L.one (ws.getD j default))[t]? = some i) : (L.out ws)[L.at_ ws j + t]? = some (jS (L.place ws) (L.out ws).length i) := by
 have e := aEd ws j h
 have e2 : L.flat ws = L.flat (ws.take j) ++ (L.one (ws.getD j default) ++ L.flat (ws.drop (j + 1))) := by
  conv => lhs; rw [e]
  rw [pZ]; rfl
 have hl := (List.getElem?_eq_some_iff.1 ht).1
 rw [oC]
 unfold LY.out
 rw [List.getElem?_map]
 have : (L.flat ws)[L.at_ ws j + t]? = some i := by
  rw [e2, List.getElem?_append_right (by unfold LY.at_; omega)]
  have : L.at_ ws j + t - (L.flat (ws.take j)).length = t := by unfold LY.at_; omega
  rw [this, List.getElem?_append_left hl, ht]
 rw [this]; rfl
theorem aAq (L : LY) (ws : List WI) (j : Nat) (h : j < ws.length) : L.at_ ws (j + 1) = L.at_ ws j + (L.one (ws.getD j default)).length := by
 unfold LY.at_
 have : ws.take (j + 1) = ws.take j ++ [ws.getD j default] := by
  rw [List.take_add_one, List.getD_eq_getElem?_getD, List.getElem?_eq_getElem h]; rfl
 rw [this, pZ]
 simp [LY.flat]
theorem aJJ (L : LY) (ws : List WI) : L.at_ ws ws.length = (L.out ws).length := by rw [oC]; unfold LY.at_; rw [List.take_length]
theorem iG (L : LY) (r into : Int) : (L.rdC r into).length ≤ 1 := by unfold LY.rdC; split <;> simp
theorem aBF (L : LY) (r : Int) : (L.wrC r).length ≤ 1 := by unfold LY.wrC; split <;> simp
theorem mJ (L : LY) (f : Bool) (r into : Int) : (L.rC f r into).length ≤ 1 := by
 unfold LY.rC; split
 ·exact iG L r into
 ·simp
theorem aFd (L : LY) (i : WI) : (L.wrs i).length ≤ 1 := by
 unfold LY.wrs; split
 ·exact aBF L _
 ·simp
theorem aCK (L : LY) (i : WI) : (L.one i).length ≤ 8 := by
 have h1 := iG L i.a 1
 have h2 := iG L i.b 1
 have h3 := aBF L i.d
 have h4 := mJ L (dM i.op).a i.a 1
 have h5 := mJ L (dM i.op).b i.b 2
 have h6 := mJ L (dM i.op).c i.c 3
 have h7 := aFd L i
 unfold LY.one LY.adC LY.rds
 split
 ·simp; omega
 ·split
  ·simp; omega
  ·simp; omega
theorem qA (L : LY) : ∀ ws : List WI, (L.flat ws).length ≤ 8 * ws.length
 | [] => by simp [LY.flat]
 | w :: ws => by
  have := qA L ws
  have := aCK L w
  simp only [LY.flat, List.length_append, List.length_cons]; omega
theorem aFk (L : LY) (ws : List WI) (j : Nat) : L.at_ ws j ≤ (L.out ws).length := by
 rw [oC]
 unfold LY.at_
 conv => rhs; rw [← List.take_append_drop j ws]
 rw [pZ, List.length_append]; omega
theorem aGS (L : LY) (ws : List WI) (j : Nat) : (L.place ws).getD j 0 ≤ (L.out ws).length := by
 by_cases h : j ≤ ws.length
 ·rw [zP L ws j h]; exact aFk L ws j
 ·rw [List.getD_eq_getElem?_getD, List.getElem?_eq_none (by rw [zQ]; omega)]; simp
def eG (l : List Nat) : List AV := l.map fun n => Nn n
theorem gF (l : List Nat) : (eG l).length = l.length := by simp [eG]
theorem jV (n : Nat) (l : List Nat) : cI n (eG l) = true := jP n _ (fun _ => rfl) l
theorem jF (l : List Nat) (j : Nat) (h : j < l.length) : (eG l)[j]? = some (Nn (l.getD j 0)) := by
 unfold eG
 rw [List.getElem?_map, List.getElem?_eq_getElem h, List.getD_eq_getElem?_getD, List.getElem?_eq_getElem h]; rfl
theorem tL (l : List Nat) (j x : Nat) : (eG l).set j (Nn x) = eG (l.set j x) := by
 unfold eG
 rw [List.map_set]
structure SH (H : aB) (p q r n : Nat) (us : List Int) : Prop where
 hp : p < H.length
 pq : p ≠ q
 pr : p ≠ r
 hq : H[q]? = some ⟨49, 1, [.sl r n 0 n 1]⟩
 hr : H[r]? = some ⟨3, 1, us.map fun u => I6 u⟩
 hu : us.length = n
 hb : dI H.length H = true
def SO (H : aB) (p : Nat) (l : List Nat) : aB := H.set p ⟨3, 1, eG l⟩
theorem iH (H : aB) (p : Nat) (l : List Nat) : (SO H p l).length = H.length := by simp [SO]
theorem aAi (H : aB) (p : Nat) (l m : List Nat) : (SO H p l).set p ⟨3, 1, eG m⟩ = SO H p m := by simp [SO]
theorem aGc {H : aB} {p : Nat} (hp : p < H.length) (l : List Nat) : (SO H p l)[p]? = some ⟨3, 1, eG l⟩ := by simp [SO, hp]
theorem aGb {H : aB} {p q : Nat} (h : p ≠ q) (l : List Nat) : (SO H p l)[q]? = H[q]? := by simp [SO, h]
theorem qN {n : Nat} {b : ABlk} (hb : cI n b.elems = true) : ∀ (H : aB) (p : Nat), dI n H = true → dI n (H.set p b) = true
 | [], p, h => by simp [dI]
 | x :: H, 0, h => by
  simp only [dI, Bool.and_eq_true] at h
  simp only [List.set_cons_zero, dI, hb, h.2, Bool.and_self]
 | x :: H, p + 1, h => by
  simp only [dI, Bool.and_eq_true] at h
  simp only [List.set_cons_succ, dI, h.1, qN hb H p h.2, Bool.and_self]
theorem gL {H : aB} {p : Nat} (hb : dI H.length H = true) (l : List Nat) (xs : List AV) (hx : cI H.length xs = true) : fN H.length xs (SO H p l) = some (SO H p l) := by
 unfold fN
 have e : (SO H p l).take H.length = SO H p l := List.take_of_length_le (by rw [iH]; exact Nat.le_refl _)
 rw [e, hx]
 have : dI H.length (SO H p l) = true := qN (b := ⟨3, 1, eG l⟩) (jV _ l) H p hb
 rw [this]; rfl
section
variable (G : aF) (k : Nat) (self : cE) {H : aB} {p q r n : Nat} {us : List Int} (hS : SH H p q r n us)
theorem jI {i : Nat} (h : i < n) : aM 1 (.sl p n 0 n 1) (Nn i) = some (.ptr p n i 0) := by
 unfold aM
 simp only [Int.toNat_natCast, Nat.zero_add]
 rw [if_pos (by omega), if_pos trivial]
include hS in
theorem kB {l : List Nat} (hl : l.length = n) {i : Nat} (h : i < n) : aE G false 1 (.ptr p n i 0) (SO H p l) = some (Nn (l.getD i 0)) := by
 unfold aE
 simp only [aGc hS.hp l, gF, hl, if_true, jF l i (by omega)]
 rfl
include hS in
theorem mQ {l : List Nat} (hl : l.length = n) {i : Nat} (h : i < n) (x : Nat) : fM (aV 1 (.ptr p n i 0) (Nn x) (SO H p l)) = some (.tup [], SO H p (l.set i x)) := by
 have e : aV 1 (.ptr p n i 0) (Nn x) (SO H p l) = some (SO H p (l.set i x)) := by
  unfold aV
  simp only [aGc hS.hp l, gF, hl]
  rw [if_pos ⟨trivial, rfl, rfl⟩]
  simp only [jF l i (by omega)]
  rw [if_pos (by show 0 + 1 ≤ 1; omega)]
  have : lL (Nn (l.getD i 0)) (kA (Nn (l.getD i 0)).cells 0 (Nn x).cells) = Nn x := rfl
  rw [this, tL, aAi]
 rw [e]; rfl
include hS in
theorem rO (l : List Nat) {a b : Nat} (ha : a < n) (hb : b < n) : ∃ c : Int, bD (bN.f G (k + 1)) [Nn a, Nn b, .ptr q 1 0 0] (SO H p l) = some (I6 c, SO H p l) := by
 have hu := hS.hu
 have u1 : ∀ a, a < n → (us.map fun u => I6 u)[a]? = some (I6 (us.getD a 0)) := fun a h => by
  rw [List.getElem?_map, List.getElem?_eq_getElem (by omega), List.getD_eq_getElem?_getD, List.getElem?_eq_getElem (by omega)]; rfl
 have l1 : aE G false 1 (.ptr q 1 0 0) (SO H p l) = some (.sl r n 0 n 1) := by
  unfold aE
  simp only [aGb hS.pq l, hS.hq]
  rfl
 have d1 : aM 1 (.sl r n 0 n 1) (Nn b) = some (.ptr r n b 0) := jI hb
 have d2 : aM 1 (.sl r n 0 n 1) (Nn a) = some (.ptr r n a 0) := jI ha
 have l2 : aE G false 1 (.ptr r n b 0) (SO H p l) = some (I6 (us.getD b 0)) := by
  unfold aE
  simp only [aGb hS.pr l, hS.hr, List.length_map, hu, if_true, u1 b hb]
  rfl
 have l3 : aE G false 1 (.ptr r n a 0) (SO H p l) = some (I6 (us.getD a 0)) := by
  unfold aE
  simp only [aGb hS.pr l, hS.hr, List.length_map, hu, if_true, u1 a ha]
  rfl
 refine ⟨IntKind.i64.wrap (us.getD b 0 - us.getD a 0), ?_⟩
 have b1 : aX Tryd.prog .sub 3 false (I6 (us.getD b 0)) (I6 (us.getD a 0)) = some (I6 (IntKind.i64.wrap (us.getD b 0 - us.getD a 0))) := nW _ _ _ _ _ _
 have fin : cH [I6 (IntKind.i64.wrap (us.getD b 0 - us.getD a 0))] H.length (SO H p l) = some (.ret, [I6 (IntKind.i64.wrap (us.getD b 0 - us.getD a 0))], SO H p l) := by
  unfold cH
  rw [gL hS.hb l _ rfl]; rfl
 unfold bD
 have e : bN.f G (k + 1) [Nn a, Nn b, .ptr q 1 0 0] (SO H p l) = some (I6 (IntKind.i64.wrap (us.getD b 0 - us.getD a 0)), SO H p l) := by
  rw [bN.step]
  unfold bN.c
  rw [iH]
  generalize IntKind.i64.wrap (us.getD b 0 - us.getD a 0) = c at *
  refine gQ ?_
  have fx := aMv l1 <| aMv d1 <| aMv d2 <| aMv l2 <| aMv l3 <| b1
  refine gT ?_
  exact oF fin
 rw [e]
 simp
abbrev dS (p n : Nat) : AV := .sl p n 0 n 1
abbrev cS (q : Nat) : AV := .fn 74 [.ptr q 1 0 0]
def kM (l : List Nat) (i j : Nat) : List Nat := (l.set i (l.getD j 0)).set j (l.getD i 0)
theorem nS (l : List Nat) (i j : Nat) : (kM l i j).length = l.length := by simp [kM]
theorem mL (l : List Nat) (i j : Nat) (hi : i < l.length) (hj : j < l.length) : (kM l i j).Perm l := by
 unfold kM
 rw [List.getD_eq_getElem?_getD, List.getD_eq_getElem?_getD, List.getElem?_eq_getElem hi, List.getElem?_eq_getElem hj]
 exact List.set_set_perm hi hj
theorem kI {l m : List Nat} {n : Nat} (h : m.Perm l) (hl : ∀ x ∈ l, x < n) : ∀ x ∈ m, x < n := fun x hx => hl x (h.subset hx)
theorem kX {l : List Nat} {n i : Nat} (hl : ∀ x ∈ l, x < n) (h : i < l.length) : l.getD i 0 < n := by
 rw [List.getD_eq_getElem?_getD, List.getElem?_eq_getElem h]
 exact hl _ (List.getElem_mem h)
def xs4 (p q n a b i j : Nat) : List AV := [dS p n, Nn a, Nn b, cS q, Nn i, Nn j]
def xs1 (p q n a b i : Nat) : List AV := [dS p n, Nn a, Nn b, cS q, Nn i]
include hS in
theorem aFI : q < H.length := by
 have := hS.hq
 exact (List.getElem?_eq_some_iff.1 this).1
include hS in
theorem aFT (a b i j : Nat) : cI H.length (xs4 p q n a b i j) = true := by
 have h1 : decide (p < H.length) = true := decide_eq_true hS.hp
 have h2 : decide (q < H.length) = true := decide_eq_true (aFI hS)
 simp only [xs4, dS, cS, cI, cB, h1, h2, Bool.and_self]
include hS in
theorem aAa (a b i : Nat) : cI H.length (xs1 p q n a b i) = true := by
 have h1 : decide (p < H.length) = true := decide_eq_true hS.hp
 have h2 : decide (q < H.length) = true := decide_eq_true (aFI hS)
 simp only [xs1, dS, cS, cI, cB, h1, h2, Bool.and_self]
include hS in
theorem aGF (hn : n ≤ 1000) (a b i : Nat) : ∀ (j f : Nat) (l : List Nat), l.length = n → (∀ x ∈ l, x < n) → j < n → j < f →
  ∃ (j' : Nat) (l' : List Nat), dK (aH.l4 G (k + 1) H.length self) f (xs4 p q n a b i j) (SO H p l) = some (.exit 2, xs4 p q n a b i j', SO H p l') ∧ l'.Perm l
 | j, 0, l, _, _, _, h => by omega
 | j, f + 1, l, hl, hx, hj, hf => by
  have hc : fN H.length (xs4 p q n a b i j) (SO H p l) = some (SO H p l) := gL hS.hb l _ (aFT hS a b i j)
  by_cases ha : a < j
  ·have g1 : aX Tryd.prog .gtr 3 false (Nn j) (Nn a) = some (.bool true) := oG (by omega)
   have d1 : aM 1 (.sl p n 0 n 1) (Nn j) = some (.ptr p n j 0) := jI hj
   have d2 : aM 1 (.sl p n 0 n 1) (Nn (j - 1 : Nat)) = some (.ptr p n (j - 1) 0) := jI (by omega)
   have l1 := kB G hS hl hj
   have l2 := kB G hS hl (i := j - 1) (by omega)
   have m1 : aX Tryd.prog .sub 3 true (Nn j) (.int .i64 1) = some (Nn (j - 1 : Nat)) := by
    rw [nW, eD (by omega) (by omega)]; congr 2; omega
   obtain ⟨c, hcm⟩ := rO G k hS l (kX hx (i := j) (by omega)) (kX hx (i := j - 1) (by omega))
   have cv : lE (fL (aH.env G (k + 1) self)) (cS q) [Nn (l.getD j 0), Nn (l.getD (j - 1) 0)] (SO H p l) = some (I6 c, SO H p l) := hcm
   have g2 : aX Tryd.prog .lss 3 true (I6 c) (.int .i64 0) = some (.bool (decide (c < 0))) := hJ _ _ _ _ _ _
   by_cases hcn : c < 0
   ·rw [decide_eq_true hcn] at g2
    have s1 := mQ hS hl hj (l.getD (j - 1) 0)
    have hl2 : (l.set j (l.getD (j - 1) 0)).length = n := by simp [hl]
    have s2 := mQ hS hl2 (i := j - 1) (by omega) (l.getD j 0)
    have hsw : (l.set j (l.getD (j - 1) 0)).set (j - 1) (l.getD j 0) = kM l j (j - 1) := rfl
    rw [hsw] at s2
    have hp := mL l j (j - 1) (by omega) (by omega)
    obtain ⟨j', l', h1, h2⟩ := aGF hn a b i (j - 1) f (kM l j (j - 1)) (by rw [nS]; exact hl) (kI hp hx) (by omega) (by omega)
    refine ⟨j', l', ?_, h2.trans hp⟩
    rw [bB, aH.l4]
    refine fV ?_
    refine eC hc ?_
    unfold xs4 at h1 ⊢
    generalize kM l j (j - 1) = ls at *
    generalize l.getD j 0 = y1 at *
    generalize l.getD (j - 1) 0 = y2 at *
    have fx := aMv g1 <| aMv d1 <| aMv d2 <| aMv l1 <| aMv l2 <| aMv m1 <| aMv cv <| aMv g2 <| aMv s1 <| s2
    refine gT ?_
    exact h1
   ·rw [decide_eq_false hcn] at g2
    refine ⟨j, l, ?_, List.Perm.refl _⟩
    rw [bB, aH.l4]
    refine fV ?_
    refine eC hc ?_
    unfold xs4
    generalize l.getD j 0 = y1 at *
    generalize l.getD (j - 1) 0 = y2 at *
    have fx := aMv g1 <| aMv d1 <| aMv d2 <| aMv l1 <| aMv l2 <| aMv m1 <| aMv cv <| g2
    refine gT ?_
    refine gA ?_; rfl
  ·have g1 : aX Tryd.prog .gtr 3 false (Nn j) (Nn a) = some (.bool false) := kJ (by omega)
   refine ⟨j, l, ?_, List.Perm.refl _⟩
   rw [bB, aH.l4]
   refine fV ?_
   refine eC hc ?_
   unfold xs4
   have fx := g1
   refine gT ?_
   refine gA ?_; rfl
end
section
variable (G : aF) (k : Nat) (self : cE) {H : aB} {p q r n : Nat} {us : List Int} (hS : SH H p q r n us)
theorem mE {g : cE} {args : List AV} {l l' : List Nat} (h : g args (SO H p l) = some (.tup [], SO H p l')) : bD g args (SO H p l) = some (.tup [], SO H p l') := by
 unfold bD; rw [h]; simp only [iH, Nat.le_refl, if_true]
include hS in
theorem aCl (l : List Nat) : cH [] H.length (SO H p l) = some (.ret, [.tup []], SO H p l) := by
 unfold cH
 rw [gL hS.hb l _ rfl]; rfl
include hS in
theorem aGE (hn : n ≤ 1000) (hk : n < k) (a b : Nat) (hb : b ≤ n) : ∀ (d i f : Nat) (l : List Nat), i + d = max i b → l.length = n → (∀ x ∈ l, x < n) → d < f →
  ∃ (i' : Nat) (l' : List Nat), dK (aH.l1 G (k + 1) H.length self) f (xs1 p q n a b i) (SO H p l) = some (.exit 0, xs1 p q n a b i', SO H p l') ∧ l'.Perm l
 | d, i, 0, l, _, _, _, h => by omega
 | 0, i, f + 1, l, hd, hl, hx, hf => by
  have hc : fN H.length (xs1 p q n a b i) (SO H p l) = some (SO H p l) := gL hS.hb l _ (aAa hS a b i)
  have g1 : aX Tryd.prog .lss 3 false (Nn i) (Nn b) = some (.bool false) := gI (by omega)
  refine ⟨i, l, ?_, List.Perm.refl _⟩
  rw [bB, aH.l1]
  refine fV ?_
  refine eC hc ?_
  unfold xs1
  have fx := g1
  refine gT ?_
  refine gA ?_; rfl
 | d + 1, i, f + 1, l, hd, hl, hx, hf => by
  have hc : fN H.length (xs1 p q n a b i) (SO H p l) = some (SO H p l) := gL hS.hb l _ (aAa hS a b i)
  have hib : i < b := by omega
  have g1 : aX Tryd.prog .lss 3 false (Nn i) (Nn b) = some (.bool true) := gN (by omega)
  obtain ⟨j', l1, hl4, hp⟩ := aGF G k self hS hn a b i i (k + 1) l hl hx (by omega) (by omega)
  obtain ⟨i', l', h1, h2⟩ := aGE hn hk a b hb d (i + 1) f l1 (by omega) (by rw [hp.length_eq]; exact hl) (kI hp hx) (by omega)
  refine ⟨i', l', ?_, h2.trans hp⟩
  have q2 : aX Tryd.prog .add 3 true (Nn i) (.int .i64 1) = some (Nn (i + 1)) := by
   rw [gR, eD (by omega) (by omega)]; congr 2
  have hlen := iH H p l
  rw [bB, aH.l1]
  refine fV ?_
  refine eC hc ?_
  rw [← hlen] at hl4
  unfold xs1 at h1 ⊢
  unfold xs4 at hl4
  have fx := aMv g1 <| q2
  have lx1 := hl4
  refine gT ?_
  exact h1
include hS in
theorem aCw (hn : n ≤ 1000) (hk : n < k) (a b : Nat) (ha : a ≤ b) (hb : b ≤ n) (l : List Nat) (hl : l.length = n) (hx : ∀ x ∈ l, x < n) :
  ∃ l' : List Nat, bD (aH.f G (k + 2)) [dS p n, Nn a, Nn b, cS q] (SO H p l) = some (.tup [], SO H p l') ∧ l'.Perm l := by
 obtain ⟨i', l', h1, h2⟩ := aGE G k (aH.f G (k + 1)) hS hn hk a b hb (b - (a + 1)) (a + 1) (k + 1) l (by omega) hl hx (by omega)
 refine ⟨l', mE ?_, h2⟩
 rw [aH.step]
 unfold aH.c
 rw [iH]
 have q1 : aX Tryd.prog .add 3 true (Nn a) (.int .i64 1) = some (Nn (a + 1 : Nat)) := by
  rw [gR, eD (by omega) (by omega)]; congr 2
 have fin := aCl hS l'
 unfold xs1 at h1
 have hlen := iH H p l
 refine gQ ?_
 rw [← hlen] at h1
 have fx := q1
 have lx1 := h1
 refine gT ?_
 exact oF fin
include hS in
theorem aAe (a b m i : Nat) : cI H.length [dS p n, Nn a, Nn b, Nn m, Nn i] = true := by
 have h1 : decide (p < H.length) = true := decide_eq_true hS.hp
 simp only [dS, cI, cB, h1, Bool.and_self]
include hS in
theorem aHJ (hn : n ≤ 1000) (a b m : Nat) (ha : a + m ≤ n) (hb : b + m ≤ n) : ∀ (d i f : Nat) (l : List Nat), i + d = m → l.length = n → d < f →
  ∃ (i' : Nat) (l' : List Nat), dK (aN.l1 G k H.length self) f [dS p n, Nn a, Nn b, Nn m, Nn i] (SO H p l) = some (.exit 0, [dS p n, Nn a, Nn b, Nn m, Nn i'], SO H p l') ∧ l'.Perm l
 | d, i, 0, l, _, _, h => by omega
 | 0, i, f + 1, l, hd, hl, hf => by
  have hc : fN H.length [dS p n, Nn a, Nn b, Nn m, Nn i] (SO H p l) = some (SO H p l) := gL hS.hb l _ (aAe hS a b m i)
  have g1 : aX Tryd.prog .lss 3 false (Nn i) (Nn m) = some (.bool false) := gI (by omega)
  refine ⟨i, l, ?_, List.Perm.refl _⟩
  rw [bB, aN.l1]
  refine fV ?_
  refine eC hc ?_
  have fx := g1
  refine gT ?_
  refine gA ?_; rfl
 | d + 1, i, f + 1, l, hd, hl, hf => by
  have hc : fN H.length [dS p n, Nn a, Nn b, Nn m, Nn i] (SO H p l) = some (SO H p l) := gL hS.hb l _ (aAe hS a b m i)
  have g1 : aX Tryd.prog .lss 3 false (Nn i) (Nn m) = some (.bool true) := gN (by omega)
  have e1 : aX Tryd.prog .add 3 false (Nn a) (Nn i) = some (Nn (a + i : Nat)) := by
   rw [gR, eD (by omega) (by omega)]; congr 2
  have e2 : aX Tryd.prog .add 3 false (Nn b) (Nn i) = some (Nn (b + i : Nat)) := by
   rw [gR, eD (by omega) (by omega)]; congr 2
  have e3 : aX Tryd.prog .add 3 true (Nn i) (.int .i64 1) = some (Nn (i + 1)) := by
   rw [gR, eD (by omega) (by omega)]; congr 2
  have d1 : aM 1 (.sl p n 0 n 1) (Nn (a + i : Nat)) = some (.ptr p n (a + i) 0) := jI (by omega)
  have d2 : aM 1 (.sl p n 0 n 1) (Nn (b + i : Nat)) = some (.ptr p n (b + i) 0) := jI (by omega)
  have l1 := kB G hS hl (i := a + i) (by omega)
  have l2 := kB G hS hl (i := b + i) (by omega)
  have s1 := mQ hS hl (i := a + i) (by omega) (l.getD (b + i) 0)
  have hl2 : (l.set (a + i) (l.getD (b + i) 0)).length = n := by simp [hl]
  have s2 := mQ hS hl2 (i := b + i) (by omega) (l.getD (a + i) 0)
  have hsw : (l.set (a + i) (l.getD (b + i) 0)).set (b + i) (l.getD (a + i) 0) = kM l (a + i) (b + i) := rfl
  rw [hsw] at s2
  have hp := mL l (a + i) (b + i) (by omega) (by omega)
  obtain ⟨i', l', h1, h2⟩ := aHJ hn a b m ha hb d (i + 1) f (kM l (a + i) (b + i)) (by omega) (by rw [nS]; exact hl) (by omega)
  refine ⟨i', l', ?_, h2.trans hp⟩
  rw [bB, aN.l1]
  refine fV ?_
  refine eC hc ?_
  generalize kM l (a + i) (b + i) = ls at *
  generalize l.getD (a + i) 0 = y1 at *
  generalize l.getD (b + i) 0 = y2 at *
  have fx := aMv g1 <| aMv e1 <| aMv e2 <| aMv e3 <| aMv d1 <| aMv d2 <| aMv l1 <| aMv l2 <| aMv s1 <| s2
  refine gT ?_
  exact h1
include hS in
theorem xG (hn : n ≤ 1000) (hk : n < k) (a b m : Nat) (ha : a + m ≤ n) (hb : b + m ≤ n) (x : AV) (l : List Nat) (hl : l.length = n) :
  ∃ l' : List Nat, bD (aN.f G (k + 1)) [dS p n, Nn a, Nn b, Nn m, x] (SO H p l) = some (.tup [], SO H p l') ∧ l'.Perm l := by
 obtain ⟨i', l', h1, h2⟩ := aHJ G k (aN.f G k) hS hn a b m ha hb m 0 k l (by omega) hl (by omega)
 refine ⟨l', mE ?_, h2⟩
 rw [aN.step]
 unfold aN.c
 rw [iH]
 have fin := aCl hS l'
 have h1' : dK (aN.l1 G k H.length (aN.f G k)) k [dS p n, Nn a, Nn b, Nn m, .int .i64 0] (SO H p l) = _ := h1
 refine gQ ?_
 have fx := True.intro
 have lx1 := h1'
 refine gT ?_
 exact oF fin
end
section
variable (G : aF) (k : Nat) (self : cE) {H : aB} {p q r n : Nat} {us : List Int} (hS : SH H p q r n us)
theorem nM {c : Bool} {a b : Nat} (h : a + b ≤ 100000) : aX Tryd.prog .add 3 c (Nn a) (Nn b) = some (Nn (a + b : Nat)) := by
 rw [gR, eD (by omega) (by omega)]; congr 2
theorem kG {c : Bool} {a b : Nat} (h : b ≤ a) (h2 : a ≤ 100000) : aX Tryd.prog .sub 3 c (Nn a) (Nn b) = some (Nn (a - b : Nat)) := by
 rw [nW, eD (by omega) (by omega)]; congr 2; omega
theorem mG {c : Bool} {a : Nat} (h : a ≤ 100000) : aX Tryd.prog .add 3 c (Nn a) (.int .i64 1) = some (Nn (a + 1 : Nat)) := by
 rw [gR, eD (by omega) (by omega)]; congr 2
theorem vI {c : Bool} {a b : Nat} (h : a ≠ b) : aX Tryd.prog .neq 3 c (Nn a) (Nn b) = some (.bool true) := oL (by omega)
theorem vH {c : Bool} {a b : Nat} (h : a = b) : aX Tryd.prog .neq 3 c (Nn a) (Nn b) = some (.bool false) := oH (by omega)
include hS in
theorem aAd (m : Nat) (i j : Nat) : cI H.length [dS p n, Nn m, cS q, Nn i, Nn j] = true := by
 have h1 : decide (p < H.length) = true := decide_eq_true hS.hp
 have h2 : decide (q < H.length) = true := decide_eq_true (aFI hS)
 simp only [dS, cS, cI, cB, h1, h2, Bool.and_self]
include hS in
theorem aDV (hn : n ≤ 1000) (hk : n < k) (m : Nat) (hm : m ≤ n) : ∀ (f : Nat) (i j : Nat) (l : List Nat), 1 ≤ i → 1 ≤ j → i ≤ m → m + j ≤ n → i + j ≤ f → l.length = n →
  ∃ (i' : Nat) (l' : List Nat), dK (aT.l2 G (k + 1) H.length self) f [dS p n, Nn m, cS q, Nn i, Nn j] (SO H p l) = some (.exit 0, [dS p n, Nn m, cS q, Nn i', Nn i'], SO H p l') ∧ l'.Perm l ∧ 1 ≤ i' ∧ i' ≤ m ∧ m + i' ≤ n
 | 0, i, j, l, h1, h2, _, _, h, _ => by omega
 | f + 1, i, j, l, h1, h2, h3, h4, h5, hl => by
  have hc : fN H.length [dS p n, Nn m, cS q, Nn i, Nn j] (SO H p l) = some (SO H p l) := gL hS.hb l _ (aAd hS m i j)
  by_cases hij : i = j
  ·subst hij
   have g1 : aX Tryd.prog .neq 3 false (Nn i) (Nn i) = some (.bool false) := vH rfl
   refine ⟨i, l, ?_, List.Perm.refl _, h1, h3, h4⟩
   rw [bB, aT.l2]
   refine fV ?_
   refine eC hc ?_
   have fx := g1
   refine gT ?_
   refine gA ?_; rfl
  ·have g1 : aX Tryd.prog .neq 3 false (Nn i) (Nn j) = some (.bool true) := vI hij
   have e1 : aX Tryd.prog .sub 3 false (Nn m) (Nn i) = some (Nn (m - i : Nat)) := kG h3 (by omega)
   by_cases hg : j < i
   ·have g2 : aX Tryd.prog .gtr 3 false (Nn i) (Nn j) = some (.bool true) := oG (by omega)
    have e2 : aX Tryd.prog .sub 3 false (Nn i) (Nn j) = some (Nn (i - j : Nat)) := kG (by omega) (by omega)
    obtain ⟨l1, w1, p1⟩ := xG G k hS hn hk (m - i) m j (by omega) (by omega) (cS q) l hl
    obtain ⟨i', l', w2, p2, p3⟩ := aDV hn hk m hm f (i - j) j l1 (by omega) h2 (by omega) h4 (by omega) (by rw [p1.length_eq]; exact hl)
    refine ⟨i', l', ?_, p2.trans p1, p3⟩
    rw [bB, aT.l2]
    refine fV ?_
    refine eC hc ?_
    have fx := aMv g1 <| aMv g2 <| aMv e1 <| aMv e2 <| w1
    refine gT ?_
    exact w2
   ·have g2 : aX Tryd.prog .gtr 3 false (Nn i) (Nn j) = some (.bool false) := kJ (by omega)
    have e2 : aX Tryd.prog .sub 3 false (Nn j) (Nn i) = some (Nn (j - i : Nat)) := kG (by omega) (by omega)
    have e3 : aX Tryd.prog .add 3 false (Nn m) (Nn j) = some (Nn (m + j : Nat)) := nM (by omega)
    have e4 : aX Tryd.prog .sub 3 false (Nn (m + j : Nat)) (Nn i) = some (Nn (m + j - i : Nat)) := kG (by omega) (by omega)
    obtain ⟨l1, w1, p1⟩ := xG G k hS hn hk (m - i) (m + j - i) i (by omega) (by omega) (cS q) l hl
    obtain ⟨i', l', w2, p2, p3⟩ := aDV hn hk m hm f i (j - i) l1 h1 (by omega) h3 (by omega) (by omega) (by rw [p1.length_eq]; exact hl)
    refine ⟨i', l', ?_, p2.trans p1, p3⟩
    rw [bB, aT.l2]
    refine fV ?_
    refine eC hc ?_
    have fx := aMv g1 <| aMv g2 <| aMv e1 <| aMv e2 <| aMv e3 <| aMv e4 <| w1
    refine gT ?_
    exact w2
include hS in
theorem aHw (hn : n ≤ 1000) (hk : n < k) (a m b : Nat) (ha : a < m) (hm : m < b) (hb : b ≤ n) (l : List Nat) (hl : l.length = n) :
  ∃ l' : List Nat, bD (aT.f G (k + 2)) [dS p n, Nn a, Nn m, Nn b, cS q] (SO H p l) = some (.tup [], SO H p l') ∧ l'.Perm l := by
 obtain ⟨i', l1, w1, p1, p2, p3, p4⟩ := aDV G k (aT.f G (k + 1)) hS hn hk m (by omega) (k + 1) (m - a) (b - m) l (by omega) (by omega) (by omega) (by omega) (by omega) hl
 obtain ⟨l', w2, p5⟩ := xG G k hS hn hk (m - i') m i' (by omega) (by omega) (cS q) l1 (by rw [p1.length_eq]; exact hl)
 refine ⟨l', mE ?_, p5.trans p1⟩
 rw [aT.step]
 unfold aT.c
 have e1 : aX Tryd.prog .sub 3 false (Nn m) (Nn a) = some (Nn (m - a : Nat)) := kG (by omega) (by omega)
 have e2 : aX Tryd.prog .sub 3 false (Nn b) (Nn m) = some (Nn (b - m : Nat)) := kG (by omega) (by omega)
 have e3 : aX Tryd.prog .sub 3 false (Nn m) (Nn i') = some (Nn (m - i' : Nat)) := kG (by omega) (by omega)
 have fin := aCl hS l'
 have hlen := iH H p l
 rw [← hlen] at w1 fin
 refine gQ ?_
 have fx := aMv e1 <| aMv e2 <| aMv e3 <| w2
 have lx1 := w1
 refine gT ?_
 exact oF fin
theorem qC (i j : Nat) (h : i + j ≤ 100000) : dJ .u64 (Nn (i + j : Nat)) = some (.int .u64 ((i + j : Nat) : Int)) ∧ aX Tryd.prog .shr 134 true (.int .u64 ((i + j : Nat) : Int)) (.int .u64 1) = some (.int .u64 (((i + j) / 2 : Nat) : Int)) ∧ dJ .i64 (.int .u64 (((i + j) / 2 : Nat) : Int)) = some (Nn ((i + j) / 2 : Nat)) := by
 refine ⟨?_, ?_, ?_⟩
 ·have : IntKind.u64.wrap ((i + j : Nat) : Int) = ((i + j : Nat) : Int) := iT (by omega) (by omega)
  simp only [dJ, this]
 ·exact aBB Tryd.prog 134 true .u64 (i + j) 1 (by omega)
 ·have : IntKind.i64.wrap (((i + j) / 2 : Nat) : Int) = (((i + j) / 2 : Nat) : Int) := eD (by omega) (by omega)
  simp only [dJ, this]
end
end Go.Proofs.YtlkgkfgkiidhdaaDoor.Mir
