/- Part 7 of the proof: what these functions do. -/
import Derived.Test.YtlkgkfgkiidhdaaDoorVj6
import Derived.Test.YtlkgkfgkiidhdaaDoorRows
import Derived.KernelRfl
import Derived.SizedLaws
namespace Go.Proofs.YtlkgkfgkiidhdaaDoor
open Go Go.ChangeShapes Go.WideShapes Go.RowKit Mir
set_option linter.unusedVariables false
set_option linter.unusedSimpArgs false
namespace Rk
theorem own : ownKnob Tryd.prog.godebug = none := by kernel_rfl
theorem laidOut : laidOutB Tryd.prog = true := by kernel_rfl
theorem aLy : "*" ++ "errors.errorString" = "*errors.errorString" := by decide
theorem row (u : TypeId) (h : Tryd.prog.typeName? 3 u = some "*errors.errorString") : u = 179 :=
 typeName_ptr_named (nm := "errors.errorString") (by rw [aLy]; kernel_rfl) (by kernel_rfl) (by decide) u (by rw [aLy]; exact h)
noncomputable def low : Nat := (World.holding Tryd.prog default ⟨#[], #[], []⟩).heap.size
end Rk
end Go.Proofs.YtlkgkfgkiidhdaaDoor
namespace Go.Proofs.YtlkgkfgkiidhdaaDoor.Mir
open Go
set_option linter.unusedSimpArgs false
set_option linter.unusedVariables false
set_option maxHeartbeats 8000000
set_option maxRecDepth 20000
abbrev I6 (n : Int) : AV := .int .i64 n
abbrev Nn (n : Nat) : AV := .int .i64 (n : Int)
abbrev Un (n : Nat) : AV := .int .u64 (n : Int)
theorem kH (a : Nat) (h : a < 18446744073709551616) : (BitVec.ofInt 64 (a : Int)).toNat = a := by
 rw [BitVec.toNat_ofInt]
 omega
theorem aEF (a b : Nat) (ha : a < 18446744073709551616) (hb : b < 18446744073709551616) : bits .and .u64 (a : Int) (b : Int) = ((a &&& b : Nat) : Int) := by
 have hx : a &&& b ≤ a := Nat.and_le_left
 show IntKind.u64.wrap ((BitVec.ofInt 64 (a : Int) &&& BitVec.ofInt 64 (b : Int)).toNat : Int) = _
 rw [BitVec.toNat_and, kH a ha, kH b hb, iJ (by omega) (by omega)]
theorem aKn (a b : Nat) (ha : a < 18446744073709551616) (hb : b < 18446744073709551616) : bits .or .u64 (a : Int) (b : Int) = ((a ||| b : Nat) : Int) := by
 have hx : a ||| b < 2 ^ 64 := Nat.or_lt_two_pow (by omega) (by omega)
 show IntKind.u64.wrap ((BitVec.ofInt 64 (a : Int) ||| BitVec.ofInt 64 (b : Int)).toNat : Int) = _
 rw [BitVec.toNat_or, kH a ha, kH b hb, iJ (by omega) (by omega)]
theorem aIE (a b : Nat) (ha : a < 18446744073709551616) (hb : b < 18446744073709551616) : bits .xor .u64 (a : Int) (b : Int) = ((a ^^^ b : Nat) : Int) := by
 have hx : a ^^^ b < 2 ^ 64 := Nat.xor_lt_two_pow (by omega) (by omega)
 show IntKind.u64.wrap ((BitVec.ofInt 64 (a : Int) ^^^ BitVec.ofInt 64 (b : Int)).toNat : Int) = _
 rw [BitVec.toNat_xor, kH a ha, kH b hb, iJ (by omega) (by omega)]
theorem nW (n : Nat) : IntKind.u64.wrap (n : Int) = ((n % 18446744073709551616 : Nat) : Int) := by rw [pM]; rfl
theorem vO (P : Program) (t : Nat) (c : Bool) (a b : Nat) : aU P .add t c (Un a) (Un b) = some (Un ((a + b) % 18446744073709551616)) := by
 rw [gG, ← Int.natCast_add, nW]
theorem vP (P : Program) (t : Nat) (c : Bool) (a b : Nat) : aU P .mul t c (Un a) (Un b) = some (Un (a * b % 18446744073709551616)) := by
 rw [uZ, ← Int.natCast_mul, nW]
theorem aID (P : Program) (t : Nat) (c : Bool) (a b : Nat) (hb : b < 18446744073709551616) : aU P .sub t c (Un a) (Un b) = some (Un ((a + 18446744073709551616 - b) % 18446744073709551616)) := by
 rw [mK, pM]; congr 2; omega
theorem aBk (P : Program) (t : Nat) (c : Bool) (k : IntKind) (a n : Nat) (h : n ≤ 64) : aU P .shr t c (Un a) (.int k (n : Int)) = some (Un (a / 2 ^ n)) := by
 rw [aDY _ _ _ _ _ _ _ (Int.natCast_nonneg n)]
 have e : min ((n : Int)).toNat IntKind.u64.bits = n := by rw [Int.toNat_natCast]; exact Nat.min_eq_left h
 rw [e, aAy]
theorem aIC (P : Program) (t : Nat) (c : Bool) (k : IntKind) (a n : Nat) (h : n ≤ 64) : aU P .shl t c (Un a) (.int k (n : Int)) = some (Un (a * 2 ^ n % 18446744073709551616)) := by
 rw [aHZ _ _ _ _ _ _ _ (Int.natCast_nonneg n)]
 have e : min ((n : Int)).toNat IntKind.u64.bits = n := by rw [Int.toNat_natCast]; exact Nat.min_eq_left h
 have e2 : ((a : Int) * 2 ^ n : Int) = ((a * 2 ^ n : Nat) : Int) := by push_cast; rfl
 rw [e, e2, nW]
def pY (a : Nat) : Int := if a ≥ 9223372036854775808 then (a : Int) - 18446744073709551616 else (a : Int)
def u64 (n : Int) : Nat := (n % 18446744073709551616).toNat
theorem aHK (n : Int) : u64 n < 18446744073709551616 := by unfold u64; omega
theorem aBL (a : Nat) (h : a < 18446744073709551616) : dA .i64 (Un a) = some (I6 (pY a)) := by
 rw [iT, uN]; unfold pY; congr 2; split <;> split <;> omega
theorem rN (k : IntKind) (n : Int) : dA .u64 (.int k n) = some (Un (u64 n)) := by
 rw [iT, pM]; unfold u64; congr 2; omega
theorem aBj (n : Nat) (h : n < 18446744073709551616) : u64 (n : Int) = n := by unfold u64; omega
theorem aIp (x0 x1 y0 y1 : Nat) (hx0 : x0 < 4294967296) (hx1 : x1 < 4294967296) (hy0 : y0 < 4294967296) (hy1 : y1 < 4294967296) :
  x0 * y0 ≤ 18446744065119617025 ∧ x1 * y0 ≤ 18446744065119617025 ∧ x0 * y1 ≤ 18446744065119617025 ∧ x1 * y1 ≤ 18446744065119617025 ∧
  (x1 * 4294967296 + x0) * (y1 * 4294967296 + y0) = x1 * y1 * 18446744073709551616 + (x1 * y0 + x0 * y1) * 4294967296 + x0 * y0 := by
 have b : ∀ p q : Nat, p < 4294967296 → q < 4294967296 → p * q ≤ 18446744065119617025 := fun p q hp hq => by
  have := Nat.mul_le_mul (show p ≤ 4294967295 by omega) (show q ≤ 4294967295 by omega)
  omega
 refine ⟨b _ _ hx0 hy0, b _ _ hx1 hy0, b _ _ hx0 hy1, b _ _ hx1 hy1, ?_⟩
 simp only [Nat.add_mul, Nat.mul_add]
 have e1 : x1 * 4294967296 * (y1 * 4294967296) = x1 * y1 * 18446744073709551616 := by
  rw [Nat.mul_mul_mul_comm]
 have e2 : x1 * 4294967296 * y0 = x1 * y0 * 4294967296 := by rw [Nat.mul_right_comm]
 have e3 : x0 * (y1 * 4294967296) = x0 * y1 * 4294967296 := by rw [Nat.mul_assoc]
 rw [e1, e2, e3]; omega
theorem aJV (n : Nat) : n &&& 4294967295 = n % 4294967296 := Nat.and_two_pow_sub_one_eq_mod n 32
theorem aDy (G : aG) (k : Nat) (a b : Nat) (ha : a < 18446744073709551616) (hb : b < 18446744073709551616) :
  bV.f G (k + 1) [Un a, Un b] [] = some (.tup [Un (a * b / 18446744073709551616), Un (a * b % 18446744073709551616)], []) := by
 rw [bV.step]
 unfold bV.c
 have and32 : ∀ n : Nat, n < 18446744073709551616 → aU Tryd.prog .and 30 true (Un n) (.int .u64 4294967295) = some (Un (n % 4294967296)) := fun n hn => by
  rw [aAi]; have := aEF n 4294967295 hn (by omega); rw [aJV] at this; exact congrArg (fun z => some (AV.int .u64 z)) this
 have shr32 : ∀ n : Nat, aU Tryd.prog .shr 30 true (Un n) (.int .u64 32) = some (Un (n / 4294967296)) := fun n => aBk Tryd.prog 30 true .u64 n 32 (by omega)
 obtain ⟨x0, hx0⟩ : ∃ z, z = a % 4294967296 := ⟨_, rfl⟩
 obtain ⟨x1, hx1⟩ : ∃ z, z = a / 4294967296 := ⟨_, rfl⟩
 obtain ⟨y0, hy0⟩ : ∃ z, z = b % 4294967296 := ⟨_, rfl⟩
 obtain ⟨y1, hy1⟩ : ∃ z, z = b / 4294967296 := ⟨_, rfl⟩
 have c0 := and32 a ha
 have c1 := shr32 a
 have c2 := and32 b hb
 have c3 := shr32 b
 rw [← hx0] at c0
 rw [← hx1] at c1
 rw [← hy0] at c2
 rw [← hy1] at c3
 obtain ⟨b1, b2, b3, b4, hm⟩ := aIp x0 x1 y0 y1 (by omega) (by omega) (by omega) (by omega)
 have hab : a * b = x1 * y1 * 18446744073709551616 + (x1 * y0 + x0 * y1) * 4294967296 + x0 * y0 := by
  rw [← hm]; congr 1 <;> omega
 have m : ∀ p q : Nat, p * q ≤ 18446744065119617025 → aU Tryd.prog .mul 30 false (Un p) (Un q) = some (Un (p * q)) := fun p q h => by rw [vP, Nat.mod_eq_of_lt (by omega)]
 have ad : ∀ p q : Nat, p + q < 18446744073709551616 → aU Tryd.prog .add 30 false (Un p) (Un q) = some (Un (p + q)) := fun p q h => by rw [vO, Nat.mod_eq_of_lt h]
 have c4 := m x0 y0 b1
 have c5 := m x1 y0 b2
 have c10 := m x0 y1 b3
 have c12 := m x1 y1 b4
 have c16 := vP Tryd.prog 30 false a b
 rw [hab] at c16 ⊢
 generalize x0 * y0 = A at *
 generalize x1 * y0 = B at *
 generalize x0 * y1 = C at *
 generalize x1 * y1 = D at *
 have c6 := shr32 A
 have c7 := ad B (A / 4294967296) (by omega)
 obtain ⟨E, hE⟩ : ∃ z, z = B + A / 4294967296 := ⟨_, rfl⟩
 rw [← hE] at c7
 have c8 := and32 E (by omega)
 have c9 := shr32 E
 have c11 := ad (E % 4294967296) C (by omega)
 obtain ⟨F, hF⟩ : ∃ z, z = E % 4294967296 + C := ⟨_, rfl⟩
 rw [← hF] at c11
 have c13 := ad D (E / 4294967296) (by omega)
 have c14 := shr32 F
 have c15 := ad (D + E / 4294967296) (F / 4294967296) (by omega)
 have r1 : (D * 18446744073709551616 + (B + C) * 4294967296 + A) / 18446744073709551616 = D + E / 4294967296 + F / 4294967296 := by omega
 rw [r1]
 generalize (D * 18446744073709551616 + (B + C) * 4294967296 + A) % 18446744073709551616 = Z at *
 generalize D + E / 4294967296 + F / 4294967296 = Y at *
 generalize D + E / 4294967296 = X at *
 generalize F / 4294967296 = X2 at *
 generalize E / 4294967296 = X3 at *
 generalize E % 4294967296 = X4 at *
 generalize A / 4294967296 = X5 at *
 clear hE hF hab hm
 repeat first
  | refine oB (by first | (simp only [tL, fY, fX, aCh, aCd, aCg, aCe, aCf, nV, mO, xI, c0, c1, c2, c3, c4, c5, c6, c7, c8, c9, c10, c11, c12, c13, c14, c15, c16]; first | done | (with_reducible exact rfl) | (with_reducible exact ⟨rfl, rfl⟩)) | (with_reducible exact rfl)) ?_
  | refine lB (by first | (simp only [tL, fY, fX, aCh, aCd, aCg, aCe, aCf, nV, mO, xI, c0, c1, c2, c3, c4, c5, c6, c7, c8, c9, c10, c11, c12, c13, c14, c15, c16]; first | done | (with_reducible exact rfl) | (with_reducible exact ⟨rfl, rfl⟩)) | (with_reducible exact rfl)) ?_
  | refine oT ?_
  | refine oN ?_
  | refine oX ?_
  | refine oXn ?_
  | refine oXr ?_
  | exact oF (aFc ..)
  | apply oK
  | refine lT ?_
  | refine lN ?_
  | refine lX ?_
  | refine lXn ?_
  | refine lXr ?_
  | apply lK
  | refine oI ?_
  | refine oJ rfl ?_
  | refine lI ?_
  | refine lJ rfl ?_
  | (with_reducible exact rfl)
 exact oF (aCa rfl rfl _)
def aLu (a n : Nat) : Nat := u64 ((pY a).fdiv (2 ^ n))
def bU (l : List Nat) : List AV := l.map fun n => Un n
theorem eF (l : List Nat) : (bU l).length = l.length := by simp [bU]
theorem gS (n : Nat) (l : List Nat) : bX n (bU l) = true := jI n _ (fun _ => rfl) l
theorem aFY (l : List Nat) : iM (bU l) = true := lO _ (fun _ => rfl) l
theorem jO (l : List Nat) (j : Nat) (h : j < l.length) : (bU l)[j]? = some (Un (l.getD j 0)) := by
 simp [bU, List.getD, List.getElem?_eq_getElem h]
theorem tH (l : List Nat) (j x : Nat) : bU (l.set j x) = (bU l).set j (Un x) := by simp [bU, List.map_set]
def aGw (p : Int × Int) : AV := .agg [I6 p.1, I6 p.2]
def iO (l : List (Int × Int)) : List AV := l.map aGw
theorem lS (l : List (Int × Int)) : (iO l).length = l.length := by simp [iO]
theorem sB (n : Nat) (l : List (Int × Int)) : bX n (iO l) = true := jI n _ (fun _ => rfl) l
theorem aAK {l : List Nat} {j x : Nat} (h : ∀ y ∈ l, y < 18446744073709551616) (hx : x < 18446744073709551616) : ∀ y ∈ l.set j x, y < 18446744073709551616 := by
 intro y hy
 rcases List.mem_or_eq_of_mem_set hy with h1 | rfl
 ·exact h y h1
 ·exact hx
theorem mJ (l : List Nat) : kY 1 (bU l) = true := pN 1 _ (fun _ => rfl) l
theorem aHV (l : List (Int × Int)) : kY 2 (iO l) = true := pN 2 _ (fun _ => rfl) l
theorem aIb (l : List (Int × Int)) : iM (iO l) = true := lO _ (fun _ => rfl) l
structure WI where
 op : Int
 d : Int
 a : Int
 b : Int
 c : Int
 k : Int
def WI.v (i : WI) : AV := .agg [I6 i.op, I6 i.d, I6 i.a, I6 i.b, I6 i.c, I6 i.k]
instance : Inhabited WI := ⟨⟨0, 0, 0, 0, 0, 0⟩⟩
def bO (ws : List WI) : List AV := ws.map WI.v
theorem fC (ws : List WI) : (bO ws).length = ws.length := by simp [bO]
section
variable (G : aG) (k : Nat) (self : cD) (bor : Bool) (ws : List WI) (r m : Int)
def cV (bor : Bool) (ws : List WI) (r m : Int) : AV := .agg [.ro bor (bO ws), I6 r, I6 m]
theorem fQ (n : Nat) (l : List WI) : bX n (bO l) = true := jI n _ (fun _ => rfl) l
end
def pJ (op k : Int) (a : Nat) : Nat × Bool :=
 if k < 0 ∨ 63 < k then (0, false)
 else if op = 10 then (a * 2 ^ k.toNat % 18446744073709551616, true)
 else if op = 11 then (a / 2 ^ k.toNat, true)
 else (aLu a k.toNat, true)
def iZ (op k : Int) (a b c : Nat) : Nat × Bool :=
 if op = 1 then (u64 k, true)
 else if op = 2 then (a, true)
 else if op = 3 then ((a + b) % 18446744073709551616, true)
 else if op = 4 then ((a + 18446744073709551616 - b) % 18446744073709551616, true)
 else if op = 5 then (a * b % 18446744073709551616, true)
 else if op = 6 then (a * b / 18446744073709551616, true)
 else if op = 7 then (a &&& b, true)
 else if op = 8 then (a ||| b, true)
 else if op = 9 then (a ^^^ b, true)
 else if op = 10 ∨ op = 11 ∨ op = 12 then pJ op k a
 else if op = 13 then (if a < b then 1 else 0, true)
 else if op = 14 then (if a ≠ 0 then b else c, true)
 else (0, false)
structure MS where
 regs : List Nat
 at_ : Nat
 code : Int
 mem : List Nat
 leaks : List (Int × Int)
 steps : Nat
def MS.leak (s : MS) (kind at_ : Int) : MS := { s with leaks := s.leaks ++ [(kind, at_)] }
def MS.rg (s : MS) (i : Int) : Nat := s.regs.getD i.toNat 0
def MS.set (s : MS) (i : Int) (n : Nat) : MS := { s with regs := s.regs.set i.toNat n }
def MS.touch (s : MS) (i : WI) : MS × Bool :=
 let ad := (s.rg i.a + u64 i.k) % 18446744073709551616
 let s1 := s.leak 3 (pY ad)
 if s.mem.length ≤ ad then ({ s1 with code := 3 }, false)
 else if i.op = 15 then (s1.set i.d (s.mem.getD ad 0), true)
 else ({ s1 with mem := s.mem.set ad (s.rg i.b) }, true)
def MS.branch (s : MS) (i : WI) : MS :=
 if i.op = 17 then { s with at_ := i.k.toNat }
 else if (decide (s.rg i.a = 0) == decide (i.op = 18)) = true then { s.leak 2 1 with at_ := i.k.toNat }
 else s.leak 2 0
def MS.step (s : MS) (i : WI) : MS × Bool :=
 let s := { s with at_ := s.at_ + 1 }
 if i.op = 15 ∨ i.op = 16 then s.touch i
 else if i.op = 17 ∨ i.op = 18 ∨ i.op = 19 then (s.branch i, true)
 else if i.op = 20 then ({ s with code := i.k }, false)
 else if (iZ i.op i.k (s.rg i.a) (s.rg i.b) (s.rg i.c)).2 = true then (s.set i.d (iZ i.op i.k (s.rg i.a) (s.rg i.b) (s.rg i.c)).1, true)
 else (s, true)
structure MS.Ok (s : MS) (R : Nat) : Prop where
 len : s.regs.length = R
 regs : ∀ x ∈ s.regs, x < 18446744073709551616
 mem : ∀ x ∈ s.mem, x < 18446744073709551616
 leaks : s.leaks.length ≤ 3 * s.steps
 big : s.mem.length ≤ 1000000
 few : s.steps ≤ 100000
theorem MS.Ok.rg {s : MS} {R : Nat} (h : s.Ok R) (i : Int) : s.rg i < 18446744073709551616 := by
 unfold MS.rg
 rw [List.getD_eq_getElem?_getD]
 cases hq : s.regs[i.toNat]? with
 | none => decide
 | some x => exact h.regs x (List.mem_of_getElem? hq)
theorem MS.Ok.mg {s : MS} {R : Nat} (h : s.Ok R) (i : Nat) : s.mem.getD i 0 < 18446744073709551616 := by
 rw [List.getD_eq_getElem?_getD]
 cases hq : s.mem[i]? with
 | none => decide
 | some x => exact h.mem x (List.mem_of_getElem? hq)
structure WI.Ok (i : WI) (R n : Nat) : Prop where
 op : 1 ≤ i.op ∧ i.op ≤ 20
 a : i.op ≠ 17 → i.op ≠ 20 → 0 ≤ i.a ∧ i.a < R
 d : i.op ≤ 16 → 0 ≤ i.d ∧ i.d < R
 b : i.op ≤ 16 → 0 ≤ i.b ∧ i.b < R
 c : i.op ≤ 16 → 0 ≤ i.c ∧ i.c < R
 k : 17 ≤ i.op → i.op ≤ 19 → 0 ≤ i.k ∧ i.k ≤ n
section
variable (G : aG) (i : WI)
theorem aKr (H : aB) : gC i.v H = some (.rp false i.v 0, H) := rfl
theorem gi0 : aA 0 (.rp false i.v 0) = some (.rp false i.v 0) := rfl
theorem gi1 : aA 1 (.rp false i.v 0) = some (.rp false i.v 1) := rfl
theorem gi2 : aA 2 (.rp false i.v 0) = some (.rp false i.v 2) := rfl
theorem gi3 : aA 3 (.rp false i.v 0) = some (.rp false i.v 3) := rfl
theorem gi4 : aA 4 (.rp false i.v 0) = some (.rp false i.v 4) := rfl
theorem gi5 : aA 5 (.rp false i.v 0) = some (.rp false i.v 5) := rfl
theorem aJC (H : aB) : aF G false 1 (.rp false i.v 0) H = some (I6 i.op) := rfl
theorem aLz (H : aB) : aF G false 1 (.rp false i.v 1) H = some (I6 i.d) := rfl
theorem aJD (H : aB) : aF G false 1 (.rp false i.v 2) H = some (I6 i.a) := rfl
theorem gl3 (H : aB) : aF G false 1 (.rp false i.v 3) H = some (I6 i.b) := rfl
theorem aLA (H : aB) : aF G false 1 (.rp false i.v 4) H = some (I6 i.c) := rfl
theorem aLB (H : aB) : aF G false 1 (.rp false i.v 5) H = some (I6 i.k) := rfl
end
theorem aII (op k : Int) (a b c : Nat) (ha : a < 18446744073709551616) (hb : b < 18446744073709551616) (hc : c < 18446744073709551616) : (iZ op k a b c).1 < 18446744073709551616 := by
 have hm : ∀ n : Nat, n % 18446744073709551616 < 18446744073709551616 := fun n => Nat.mod_lt _ (by decide)
 have hs : (pJ op k a).1 < 18446744073709551616 := by
  unfold pJ
  split
  ·decide
  ·split
   ·exact hm _
   ·split
    ·exact Nat.lt_of_le_of_lt (Nat.div_le_self _ _) ha
    ·exact aHK _
 unfold iZ
 by_cases e0 : op = 1
 ·rw [if_pos e0]; exact aHK _
 rw [if_neg e0]
 by_cases e1 : op = 2
 ·rw [if_pos e1]; exact ha
 rw [if_neg e1]
 by_cases e2 : op = 3
 ·rw [if_pos e2]; exact hm _
 rw [if_neg e2]
 by_cases e3 : op = 4
 ·rw [if_pos e3]; exact hm _
 rw [if_neg e3]
 by_cases e4 : op = 5
 ·rw [if_pos e4]; exact hm _
 rw [if_neg e4]
 by_cases e5 : op = 6
 ·rw [if_pos e5]; exact Nat.div_lt_of_lt_mul (Nat.mul_lt_mul'' ha hb)
 rw [if_neg e5]
 by_cases e6 : op = 7
 ·rw [if_pos e6]; exact Nat.lt_of_le_of_lt Nat.and_le_left ha
 rw [if_neg e6]
 by_cases e7 : op = 8
 ·rw [if_pos e7]; exact Nat.or_lt_two_pow (n := 64) ha hb
 rw [if_neg e7]
 by_cases e8 : op = 9
 ·rw [if_pos e8]; exact Nat.xor_lt_two_pow (n := 64) ha hb
 rw [if_neg e8]
 by_cases e9 : op = 10 ∨ op = 11 ∨ op = 12
 ·rw [if_pos e9]; exact hs
 rw [if_neg e9]
 by_cases e10 : op = 13
 ·rw [if_pos e10]; show (if a < b then 1 else 0) < 18446744073709551616; by_cases q : a < b
  ·rw [if_pos q]; decide
  ·rw [if_neg q]; decide
 rw [if_neg e10]
 by_cases e11 : op = 14
 ·rw [if_pos e11]; show (if a ≠ 0 then b else c) < 18446744073709551616; by_cases q : a ≠ 0
  ·rw [if_pos q]; exact hb
  ·rw [if_neg q]; exact hc
 rw [if_neg e11]
 decide
theorem MS.step_ok {s : MS} {R n : Nat} {i : WI} (h : s.Ok R) (hi : i.Ok R n) (hl : s.leaks.length + 1 ≤ 3 * s.steps) (hn : s.at_ < n) : (s.step i).1.Ok R ∧ (s.step i).1.at_ ≤ n ∧ (s.step i).1.steps = s.steps ∧ (s.step i).1.mem.length = s.mem.length := by
 have ok1 : ({ s with at_ := s.at_ + 1 } : MS).Ok R := ⟨h.len, h.regs, h.mem, h.leaks, h.big, h.few⟩
 unfold MS.step
 simp only
 split
 ·unfold MS.touch
  simp only [MS.leak, MS.set]
  split
  ·exact ⟨⟨h.len, h.regs, h.mem, by simpa using hl, h.big, h.few⟩, hn, rfl, rfl⟩
  ·split
   ·exact ⟨⟨by simpa using h.len, aAK h.regs (h.mg _), h.mem, by simpa using hl, h.big, h.few⟩, hn, rfl, rfl⟩
   ·exact ⟨⟨h.len, h.regs, aAK h.mem (ok1.rg _), by simpa using hl, by simpa using h.big, h.few⟩, hn, rfl, by simp⟩
 ·split
  ·rename_i h2
   have hk := hi.k (by omega) (by omega)
   unfold MS.branch
   split
   ·exact ⟨⟨h.len, h.regs, h.mem, h.leaks, h.big, h.few⟩, by simp only; omega, rfl, rfl⟩
   ·split
    ·exact ⟨⟨h.len, h.regs, h.mem, by simpa [MS.leak] using hl, h.big, h.few⟩, by simp only; omega, rfl, rfl⟩
    ·exact ⟨⟨h.len, h.regs, h.mem, by simpa [MS.leak] using hl, h.big, h.few⟩, hn, rfl, rfl⟩
  ·split
   ·exact ⟨⟨h.len, h.regs, h.mem, h.leaks, h.big, h.few⟩, hn, rfl, rfl⟩
   ·split
    ·exact ⟨⟨by simpa [MS.set] using h.len, aAK h.regs (aII _ _ _ _ _ (ok1.rg _) (ok1.rg _) (ok1.rg _)), h.mem, h.leaks, h.big, h.few⟩, hn, rfl, rfl⟩
    ·exact ⟨ok1, hn, rfl, rfl⟩
def MS.tick (s : MS) : MS := ({ s with steps := s.steps + 1 } : MS).leak 1 s.at_
def iR (cs : List WI) (fuel : Int) : Nat → MS → Option MS
 | 0, _ => none
 | f + 1, s =>
  if cs.length ≤ s.at_ then some { s with code := 3 }
  else if (s.steps : Int) = fuel then some { s with code := 4 }
  else match s.tick.step (cs.getD s.at_ default) with
   | (s', true) => iR cs fuel f s'
   | (s', false) => some s'
section
variable (G : aG) (bor : Bool) (cs : List WI)
theorem aEg (j : Nat) (h : j < cs.length) : aM 6 (.ro bor (bO cs)) (Nn j) = some (.rp bor (cs.getD j default).v 0) := by
 have h0 : (0 : Int) ≤ (j : Int) := by omega
 have e : (bO cs)[(j : Int).toNat]? = some (cs.getD j default).v := by
  rw [Int.toNat_natCast]
  simp [bO, List.getElem?_map, List.getD, List.getElem?_eq_getElem h]
 unfold aM
 simp only [e]
 rw [if_pos h0]
 rfl
end
def s0 (R : Nat) (mem : List Nat) : MS := ⟨List.replicate R 0, 0, 0, mem, [], 0⟩
theorem aHt (R : Nat) (mem : List Nat) (hm : ∀ x ∈ mem, x < 18446744073709551616) (hl : mem.length ≤ 1000000) : (s0 R mem).Ok R :=
 ⟨by simp [s0], fun x hx => by simp [s0] at hx; omega, hm, by simp [s0], hl, by simp [s0]⟩
theorem rE (l : List WI) : kY 6 (bO l) = true := pN 6 _ (fun _ => rfl) l
theorem aDC (l : List WI) : gK (bO l) = true := qU _ (fun _ => rfl) l
theorem aFX (l : List WI) : iM (bO l) = true := lO _ (fun _ => rfl) l
section
variable {cs : List WI} {fuel : Int} {f : Nat} {s s2 : MS} {i : WI}
theorem aIx (h1 : s.at_ < cs.length) (h2 : (s.steps : Int) ≠ fuel) (hi : cs.getD s.at_ default = i) (h : s.tick.step i = (s2, true)) : iR cs fuel (f + 1) s = iR cs fuel f s2 := by
 simp only [iR]
 rw [if_neg (by omega), if_neg h2, hi, h]
theorem aHq (h1 : s.at_ < cs.length) (h2 : (s.steps : Int) ≠ fuel) (hi : cs.getD s.at_ default = i) (h : s.tick.step i = (s2, false)) : iR cs fuel (f + 1) s = some s2 := by
 simp only [iR]
 rw [if_neg (by omega), if_neg h2, hi, h]
theorem aHr (h1 : cs.length ≤ s.at_) : iR cs fuel (f + 1) s = some { s with code := 3 } := by
 simp only [iR]
 rw [if_pos h1]
end
def ro (e : Nat) : Nat := if e = 0 then 1 else if e = 1 then 2 else if e = 2 then 0 else if e = 3 then 4 else if e = 4 then 3 else 5
structure Frm where
 d : Bool
 a : Bool
 b : Bool
 c : Bool
 k : Bool
def eH (op : Int) : Option Frm :=
 if op = 1 then some ⟨true, false, false, false, true⟩
 else if op = 2 then some ⟨true, true, false, false, false⟩
 else if (3 ≤ op ∧ op ≤ 9) ∨ op = 13 then some ⟨true, true, true, false, false⟩
 else if (10 ≤ op ∧ op ≤ 12) ∨ op = 15 then some ⟨true, true, false, false, true⟩
 else if op = 14 then some ⟨true, true, true, true, false⟩
 else if op = 16 then some ⟨false, true, true, false, true⟩
 else if op = 17 ∨ op = 20 then some ⟨false, false, false, false, true⟩
 else if op = 18 ∨ op = 19 then some ⟨false, true, false, false, true⟩
 else none
def cE (op : Int) : ByteArray :=
 if op = 1 then ⟨#[99, 111, 110, 115, 116]⟩ else if op = 2 then ⟨#[109, 111, 118]⟩ else if op = 3 then ⟨#[97, 100, 100]⟩ else if op = 4 then ⟨#[115, 117, 98]⟩ else if op = 5 then ⟨#[109, 117, 108]⟩
 else if op = 6 then ⟨#[104, 105, 103, 104]⟩ else if op = 7 then ⟨#[97, 110, 100]⟩ else if op = 8 then ⟨#[111, 114]⟩ else if op = 9 then ⟨#[120, 111, 114]⟩ else if op = 10 then ⟨#[115, 104, 108]⟩
 else if op = 11 then ⟨#[115, 104, 114]⟩ else if op = 12 then ⟨#[115, 97, 114]⟩ else if op = 13 then ⟨#[108, 101, 115, 115]⟩ else if op = 14 then ⟨#[115, 101, 108]⟩ else if op = 15 then ⟨#[108, 100]⟩
 else if op = 16 then ⟨#[115, 116]⟩ else if op = 17 then ⟨#[98, 114]⟩ else if op = 18 then ⟨#[98, 122]⟩ else if op = 19 then ⟨#[98, 110, 122]⟩ else if op = 20 then ⟨#[104, 97, 108, 116]⟩ else ⟨#[110, 111, 110, 101]⟩
def fL (w : ByteArray) (f : Frm) : AV := .agg [.str w, .bool f.d, .bool f.a, .bool f.b, .bool f.c, .bool f.k]
def dC (op : Int) : Frm := match eH op with | some f => f | none => ⟨false, false, false, false, false⟩
theorem aFr {op : Int} (h : 1 ≤ op ∧ op ≤ 20) : op = 1 ∨ op = 2 ∨ op = 3 ∨ op = 4 ∨ op = 5 ∨ op = 6 ∨ op = 7 ∨ op = 8 ∨ op = 9 ∨ op = 10 ∨ op = 11 ∨ op = 12 ∨ op = 13 ∨ op = 14 ∨ op = 15 ∨ op = 16 ∨ op = 17 ∨ op = 18 ∨ op = 19 ∨ op = 20 := by omega
theorem sQ {op : Int} (h : ¬ (1 ≤ op ∧ op ≤ 20)) : eH op = none := by
 unfold eH
 repeat rw [if_neg (by omega)]
theorem aDQ {op : Int} (h : ¬ (1 ≤ op ∧ op ≤ 20)) : cE op = ⟨#[110, 111, 110, 101]⟩ := by
 unfold cE
 repeat rw [if_neg (by omega)]
theorem iD (G : aG) (k : Nat) (op : Int) : dK.f G (k + 4) [I6 op] [] = some (.tup [fL (cE op) (dC op), .bool (eH op).isSome], []) := by
 by_cases h : 1 ≤ op ∧ op ≤ 20
 ·rcases aFr h with rfl | rfl | rfl | rfl | rfl | rfl | rfl | rfl | rfl | rfl | rfl | rfl | rfl | rfl | rfl | rfl | rfl | rfl | rfl | rfl <;> kernel_rfl
 ·rw [dK.step]
  unfold dK.c
  unfold dC
  rw [sQ h, aDQ h]
  refine gL ?_
  have fx := True.intro
  refine oL ?_
  refine fP ?_
  rfl
def bsV (f : Frm) : AV := .ro false [.bool f.d, .bool f.a, .bool f.b, .bool f.c, .bool f.k]
def isV (i : WI) : AV := .ro false [I6 i.d, I6 i.a, I6 i.b, I6 i.c, I6 i.k]
theorem aGk (G : aG) (k : Nat) (i : WI) (w : ByteArray) (f : Frm) : fN.f G (k + 1) [i.v, fL w f] [] = some (.tup [bsV f, isV i], []) := by kernel_rfl
abbrev eV (g : Nat) : AV := .iface 179 (.gp (ro g))
def iW (is : Bool) (r R : Int) : Bool := is && (decide (r < 0) || decide (R ≤ r))
section
variable (G : aG) (k : Nat) (self : cD) (c1 : AV) (R : Int) (hR0 : 0 ≤ R)
abbrev bxC (cv : AV) (R M : Int) : AV := .rp false (.agg [cv, I6 R, I6 M]) 0
abbrev xs6 (cv : AV) (R M : Int) (i : WI) (f : Frm) (j : Int) : List AV := [bxC cv R M, .rp false i.v 0, .nili, bsV f, isV i, I6 j]
theorem qR {bor : Bool} {xs : List AV} {k' : IntKind} {j : Nat} {y : AV} (h : xs[j]? = some y) (h1 : y.cells.length = 1) : aM 1 (.ro bor xs) (.int k' (j : Int)) = some (.rp bor y 0) := by
 unfold aM
 simp [h, h1]
theorem aJc {b bor : Bool} {H : aB} : aF G false 1 (.rp bor (.bool b) 0) H = some (.bool b) := rfl
theorem aJd {n : Int} {bor : Bool} {H : aB} : aF G false 1 (.rp bor (I6 n) 0) H = some (I6 n) := rfl
theorem sA (cv : AV) (M : Int) (i : WI) (f : Frm) (j : Nat) (hj : j < 4) (t : Bool) (p : Int) (ht : [AV.bool f.d, .bool f.a, .bool f.b, .bool f.c, .bool f.k][j]? = some (.bool t)) (hp : [I6 i.d, I6 i.a, I6 i.b, I6 i.c, I6 i.k][j]? = some (I6 p))
  (hG : G 0 = some (eV 2)) (hcl : bW 0 cv = true) (n : Nat) :
  cQ (cO.l6 G k 1 self) (n + 1) (xs6 cv R M i f j) [⟨100, 6, [fL (cE i.op) f]⟩] =
   if iW t p R = true then some (.ret, [bxC cv R M, .rp false i.v 0, eV 2, bsV f, isV i, I6 j], [⟨100, 6, [fL (cE i.op) f]⟩])
   else cQ (cO.l6 G k 1 self) n (xs6 cv R M i f (j + 1 : Nat)) [⟨100, 6, [fL (cE i.op) f]⟩] := by
 rw [aY, cO.l6]
 have hc : fE 1 (xs6 cv R M i f j) [⟨100, 6, [fL (cE i.op) f]⟩] = some [⟨100, 6, [fL (cE i.op) f]⟩] := by
  have := iH (Nat.zero_le 1) hcl
  simp [fE, bX, bW, dB, this, bsV, isV, WI.v, fL]
 have d1 : aM 1 (bsV f) (I6 j) = some (.rp false (.bool t) 0) := qR ht rfl
 have d2 : aM 1 (isV i) (I6 j) = some (.rp false (I6 p) 0) := qR hp rfl
 have l1 := fun (b bor : Bool) (H : aB) => @aJc G b bor H
 have l2 := fun (n : Int) (bor : Bool) (H : aB) => @aJd G n bor H
 have l3 : ∀ H, aF G false 1 (.gl 0) H = some (eV 2) := fun H => hG
 refine fG ?_
 refine eC hc ?_
 cases t
 ·rw [show iW false p R = false from rfl, if_neg (by simp)]
  have fx := aMP d1 <| aMP d2 <| aMP l1 <| l2
  refine oL ?_
  rfl
 ·by_cases ho : p < 0 ∨ R ≤ p
  ·have e : iW true p R = true := by unfold iW; rcases ho with h | h <;> simp [h]
   rw [if_pos e]
   have fx := aMP d1 <| aMP d2 <| aMP l1 <| aMP l2 <| l3
   refine oL ?_
   rfl
  ·have e : iW true p R = false := by unfold iW; simp; omega
   rw [if_neg (by simp [e])]
   have fx := aMP d1 <| aMP d2 <| aMP l1 <| aMP l2 <| l3
   refine oL ?_
   rfl
theorem aJR (cv : AV) (M : Int) (i : WI) (f : Frm) (hcl : bW 0 cv = true) (n : Nat) :
  cQ (cO.l6 G k 1 self) (n + 1) (xs6 cv R M i f (4 : Nat)) [⟨100, 6, [fL (cE i.op) f]⟩] = some (.exit 0, xs6 cv R M i f (4 : Nat), [⟨100, 6, [fL (cE i.op) f]⟩]) := by
 rw [aY, cO.l6]
 have hc : fE 1 (xs6 cv R M i f (4 : Nat)) [⟨100, 6, [fL (cE i.op) f]⟩] = some [⟨100, 6, [fL (cE i.op) f]⟩] := by
  have := iH (Nat.zero_le 1) hcl
  simp [fE, bX, bW, dB, this, bsV, isV, WI.v, fL]
 refine fG ?_
 refine eC hc ?_
 have fx := True.intro
 refine oL ?_
 rfl
def jL (f : Frm) (i : WI) (R : Int) : Bool := iW f.d i.d R || iW f.a i.a R || iW f.b i.b R || iW f.c i.c R
def jR (f : Frm) (i : WI) : Bool := (!f.d && decide (i.d ≠ 0)) || (!f.a && decide (i.a ≠ 0)) || (!f.b && decide (i.b ≠ 0)) || (!f.c && decide (i.c ≠ 0)) || (!f.k && decide (i.k ≠ 0))
theorem aJQ (cv : AV) (M : Int) (i : WI) (f : Frm) (hG : G 0 = some (eV 2)) (hcl : bW 0 cv = true) (n : Nat) :
  (jL f i R = true → ∃ j, cQ (cO.l6 G k 1 self) (n + 5) (xs6 cv R M i f (0 : Nat)) [⟨100, 6, [fL (cE i.op) f]⟩] = some (.ret, [bxC cv R M, .rp false i.v 0, eV 2, bsV f, isV i, j], [⟨100, 6, [fL (cE i.op) f]⟩])) ∧
  (jL f i R = false → cQ (cO.l6 G k 1 self) (n + 5) (xs6 cv R M i f (0 : Nat)) [⟨100, 6, [fL (cE i.op) f]⟩] = some (.exit 0, xs6 cv R M i f (4 : Nat), [⟨100, 6, [fL (cE i.op) f]⟩])) := by
 rw [sA G k self R cv M i f 0 (by omega) f.d i.d rfl rfl hG hcl]
 rw [sA G k self R cv M i f 1 (by omega) f.a i.a rfl rfl hG hcl]
 rw [sA G k self R cv M i f 2 (by omega) f.b i.b rfl rfl hG hcl]
 rw [sA G k self R cv M i f 3 (by omega) f.c i.c rfl rfl hG hcl]
 rw [aJR G k self R cv M i f hcl]
 unfold jL
 generalize iW f.d i.d R = o1
 generalize iW f.a i.a R = o2
 generalize iW f.b i.b R = o3
 generalize iW f.c i.c R = o4
 cases o1 <;> cases o2 <;> cases o3 <;> cases o4 <;> simp
abbrev aBq (cv : AV) (R M : Int) (i : WI) (f : Frm) (j : Int) : List AV := [bxC cv R M, .rp false i.v 0, .nili, isV i, bsV f, .int .i64 5, I6 j]
theorem nE (cv : AV) (M : Int) (i : WI) (f : Frm) (j : Nat) (hj : j < 5) (t : Bool) (p : Int) (ht : [AV.bool f.d, .bool f.a, .bool f.b, .bool f.c, .bool f.k][j]? = some (.bool t)) (hp : [I6 i.d, I6 i.a, I6 i.b, I6 i.c, I6 i.k][j]? = some (I6 p))
  (hG : G 4 = some (eV 3)) (hcl : bW 0 cv = true) (n : Nat) :
  cQ (cO.l12 G k 1 self) (n + 1) (aBq cv R M i f j) [⟨100, 6, [fL (cE i.op) f]⟩] =
   if (!t && decide (p ≠ 0)) = true then some (.ret, [bxC cv R M, .rp false i.v 0, eV 3, isV i, bsV f, .int .i64 5, I6 j], [⟨100, 6, [fL (cE i.op) f]⟩])
   else cQ (cO.l12 G k 1 self) n (aBq cv R M i f (j + 1 : Nat)) [⟨100, 6, [fL (cE i.op) f]⟩] := by
 rw [aY, cO.l12]
 have hc : fE 1 (aBq cv R M i f j) [⟨100, 6, [fL (cE i.op) f]⟩] = some [⟨100, 6, [fL (cE i.op) f]⟩] := by
  have := iH (Nat.zero_le 1) hcl
  simp [fE, bX, bW, dB, this, bsV, isV, WI.v, fL]
 have d1 : aM 1 (bsV f) (I6 j) = some (.rp false (.bool t) 0) := qR ht rfl
 have d2 : aM 1 (isV i) (I6 j) = some (.rp false (I6 p) 0) := qR hp rfl
 have l1 := fun (b bor : Bool) (H : aB) => @aJc G b bor H
 have l2 := fun (n : Int) (bor : Bool) (H : aB) => @aJd G n bor H
 have l3 : ∀ H, aF G false 1 (.gl 4) H = some (eV 3) := fun H => hG
 refine fG ?_
 refine eC hc ?_
 cases t
 ·by_cases ho : p ≠ 0
  ·rw [if_pos (by simp [ho])]
   have fx := aMP d1 <| aMP d2 <| aMP l1 <| aMP l2 <| l3
   refine oL ?_
   rfl
  ·rw [if_neg (by simp [ho])]
   have fx := aMP d1 <| aMP d2 <| aMP l1 <| aMP l2 <| l3
   refine oL ?_
   rfl
 ·rw [if_neg (by simp)]
  have fx := aMP d1 <| aMP d2 <| aMP l1 <| l2
  refine oL ?_
  rfl
theorem aIj (cv : AV) (M : Int) (i : WI) (f : Frm) (hcl : bW 0 cv = true) (n : Nat) :
  cQ (cO.l12 G k 1 self) (n + 1) (aBq cv R M i f (5 : Nat)) [⟨100, 6, [fL (cE i.op) f]⟩] = some (.exit 2, aBq cv R M i f (5 : Nat), [⟨100, 6, [fL (cE i.op) f]⟩]) := by
 rw [aY, cO.l12]
 have hc : fE 1 (aBq cv R M i f (5 : Nat)) [⟨100, 6, [fL (cE i.op) f]⟩] = some [⟨100, 6, [fL (cE i.op) f]⟩] := by
  have := iH (Nat.zero_le 1) hcl
  simp [fE, bX, bW, dB, this, bsV, isV, WI.v, fL]
 refine fG ?_
 refine eC hc ?_
 have fx := True.intro
 refine oL ?_
 rfl
theorem aIi (cv : AV) (M : Int) (i : WI) (f : Frm) (hG : G 4 = some (eV 3)) (hcl : bW 0 cv = true) (n : Nat) :
  (jR f i = true → ∃ j, cQ (cO.l12 G k 1 self) (n + 6) (aBq cv R M i f (0 : Nat)) [⟨100, 6, [fL (cE i.op) f]⟩] = some (.ret, [bxC cv R M, .rp false i.v 0, eV 3, isV i, bsV f, .int .i64 5, j], [⟨100, 6, [fL (cE i.op) f]⟩])) ∧
  (jR f i = false → cQ (cO.l12 G k 1 self) (n + 6) (aBq cv R M i f (0 : Nat)) [⟨100, 6, [fL (cE i.op) f]⟩] = some (.exit 2, aBq cv R M i f (5 : Nat), [⟨100, 6, [fL (cE i.op) f]⟩])) := by
 rw [nE G k self R cv M i f 0 (by omega) f.d i.d rfl rfl hG hcl]
 rw [nE G k self R cv M i f 1 (by omega) f.a i.a rfl rfl hG hcl]
 rw [nE G k self R cv M i f 2 (by omega) f.b i.b rfl rfl hG hcl]
 rw [nE G k self R cv M i f 3 (by omega) f.c i.c rfl rfl hG hcl]
 rw [nE G k self R cv M i f 4 (by omega) f.k i.k rfl rfl hG hcl]
 rw [aIj G k self R cv M i f hcl]
 unfold jR
 generalize (!f.d && decide (i.d ≠ 0)) = o1
 generalize (!f.a && decide (i.a ≠ 0)) = o2
 generalize (!f.b && decide (i.b ≠ 0)) = o3
 generalize (!f.c && decide (i.c ≠ 0)) = o4
 generalize (!f.k && decide (i.k ≠ 0)) = o5
 cases o1 <;> cases o2 <;> cases o3 <;> cases o4 <;> cases o5 <;> simp
end
def fK (i : WI) (R n : Int) : Option Nat :=
 if (eH i.op).isSome = false then some 4
 else if jL (dC i.op) i R = true then some 2
 else if jR (dC i.op) i = true then some 3
 else if i.op = 10 ∨ i.op = 11 ∨ i.op = 12 then (if i.k < 0 ∨ 63 < i.k then some 2 else none)
 else if i.op = 20 then (if i.k < 0 ∨ 2 < i.k then some 2 else none)
 else if i.op = 15 ∨ i.op = 16 then (if i.k < 0 ∨ 65535 < i.k then some 2 else none)
 else if i.op = 17 ∨ i.op = 18 ∨ i.op = 19 then (if i.k < 0 ∨ n < i.k then some 5 else none)
 else none
def aFa (o : Option Nat) : AV := match o with | some g => eV g | none => .nili
structure GOk (G : aG) : Prop where
 g0 : G 1 = some (eV 0)
 g2 : G 0 = some (eV 2)
 g3 : G 4 = some (eV 3)
 g4 : G 3 = some (eV 4)
 g5 : G 5 = some (eV 5)
theorem w1e {x : AV} {o : Option Nat} {H : aB} (e : aFa o = x) (hx : bW 0 x = true) : E fB [] (cA [x] 0 H) (some (aFa o, [])) := by subst e; exact oF (nB hx H)
theorem aDP {bor : Bool} (G : aG) (hg : GOk G) (k : Nat) (cs : List WI) (R M : Int) (i : WI) :
  cO.f G (k + 7) [cV bor cs R M, i.v] [] = some (aFa (fK i R cs.length), []) := by
 rw [cO.step]
 unfold cO.c cV
 have r1 : ∀ H, bF (dK.f G (k + 6)) [I6 i.op] H = _ := fun H => dO (H := H) (iD G (k + 2) i.op) rfl rfl
 have r2 : ∀ H, bF (fN.f G (k + 6)) [i.v, fL (cE i.op) (dC i.op)] H = _ := fun H => dO (H := H) (aGk G (k + 5) i _ _) rfl rfl
 have b1 : ∀ H, gC i.v H = some (.rp false i.v 0, H) := fun H => rfl
 have g0 : aA 0 (.rp false i.v 0) = some (.rp false i.v 0) := rfl
 have g5 : aA 5 (.rp false i.v 0) = some (.rp false i.v 5) := rfl
 have l0 : ∀ H, aF G false 1 (.rp false i.v 0) H = some (I6 i.op) := fun H => rfl
 have l5 : ∀ H, aF G false 1 (.rp false i.v 5) H = some (I6 i.k) := fun H => rfl
 have l6 : ∀ H, aF G true 6 (.rp false i.v 0) H = some i.v := fun H => rfl
 have e2 : ∀ H, aF G false 1 (.gl 0) H = some (eV 2) := fun H => hg.g2
 have e4 : ∀ H, aF G false 1 (.gl 3) H = some (eV 4) := fun H => hg.g4
 have e5 : ∀ H, aF G false 1 (.gl 5) H = some (eV 5) := fun H => hg.g5
 have st : fM (aV 6 (.ptr 0 1 0 0) (fL (cE i.op) (dC i.op)) [⟨100, 6, [.agg [(.str ⟨#[]⟩), (.bool false), (.bool false), (.bool false), (.bool false), (.bool false)]]⟩]) = some (.tup [], [⟨100, 6, [fL (cE i.op) (dC i.op)]⟩]) := rfl
 have ld : aF G true 6 (.ptr 0 1 0 0) [⟨100, 6, [fL (cE i.op) (dC i.op)]⟩] = some (fL (cE i.op) (dC i.op)) := rfl
 have lc : dN (.ro bor (bO cs)) = some (I6 cs.length) := by simp [dN, fC]
 have lb : dN (bsV (dC i.op)) = some (.int .i64 5) := rfl
 have hcl : bW 0 (.ro bor (bO cs)) = true := by simp [bW, fQ]
 obtain ⟨p1, p2⟩ := aJQ G (k + 6) (cO.f G (k + 6)) R (.ro bor (bO cs)) M i (dC i.op) hg.g2 hcl (k + 1)
 obtain ⟨p3, p4⟩ := aIi G (k + 6) (cO.f G (k + 6)) R (.ro bor (bO cs)) M i (dC i.op) hg.g3 hcl k
 refine gL ?_
 by_cases h0 : (eH i.op).isSome = false
 ·have e : fK i R cs.length = some 4 := by unfold fK; rw [if_pos h0]
  rw [e]
  rw [h0] at r1
  have fx := aMP r1 <| aMP b1 <| aMP g0 <| aMP l0 <| aMP st <| e4
  refine oL ?_
  exact w1e (by rfl) (by rfl)
 have h0' : (eH i.op).isSome = true := by
  cases hh : (eH i.op).isSome
  ·exact absurd hh h0
  ·rfl
 rw [h0'] at r1
 by_cases h1 : jL (dC i.op) i R = true
 ·have e : fK i R cs.length = some 2 := by unfold fK; rw [if_neg h0, if_pos h1]
  rw [e]
  obtain ⟨j, p1⟩ := p1 h1
  clear p2 p3 p4
  unfold bxC at p1
  have fx := aMP r1 <| aMP r2 <| aMP b1 <| aMP g0 <| aMP l0 <| aMP l6 <| aMP st <| aMP ld <| e2
  have lx1 := p1
  refine oL ?_
  exact w1e (by rfl) (by rfl)
 replace p2 := p2 (by simpa using h1)
 clear p1
 by_cases h2 : jR (dC i.op) i = true
 ·have e : fK i R cs.length = some 3 := by unfold fK; rw [if_neg h0, if_neg h1, if_pos h2]
  rw [e]
  obtain ⟨j, p3⟩ := p3 h2
  clear p4
  have fx := aMP r1 <| aMP r2 <| aMP b1 <| aMP g0 <| aMP l0 <| aMP l6 <| aMP st <| aMP ld <| aMP e2 <| lb
  have lx1 := p2
  have lx2 := p3
  refine oL ?_
  exact w1e (by rfl) (by rfl)
 replace p4 := p4 (by simpa using h2)
 clear p3
 have e : fK i R cs.length = (if i.op = 10 ∨ i.op = 11 ∨ i.op = 12 then (if i.k < 0 ∨ 63 < i.k then some 2 else none)
 else if i.op = 20 then (if i.k < 0 ∨ 2 < i.k then some 2 else none)
 else if i.op = 15 ∨ i.op = 16 then (if i.k < 0 ∨ 65535 < i.k then some 2 else none)
 else if i.op = 17 ∨ i.op = 18 ∨ i.op = 19 then (if i.k < 0 ∨ (cs.length : Int) < i.k then some 5 else none)
 else none) := by unfold fK; rw [if_neg h0, if_neg h1, if_neg h2]
 rw [e]
 clear e
 repeat' first
  | (with_reducible first | refine eT ?_ | refine eN ?_ | refine eS ?_ | refine eXn ?_ | refine eXr ?_ | refine eX ?_ | refine eI ?_ | refine eK ?_ | refine eV0 ?_ | refine aEV ?_ | refine aEY ?_ | refine aES ?_ | refine aEX ?_ | refine aET ?_ | refine aEU ?_)
  | ((with_reducible apply eCn); (simp only [fY, fX]; first | done | (with_reducible exact rfl)))
  | ((with_reducible apply eJ); (rfl))
  | ((with_reducible apply aEW); (first | rfl | (simp only [fY, fX]; rfl)))
  | ((with_reducible apply eL); (first | exact p2 | exact p4))
  | ((with_reducible apply eB); (first | (with_reducible exact rfl) | (simp (disch := omega) only [qf, r1, r2, b1, g0, g5, l0, l5, l6, st, ld, e2, e5, lb, lc]; first | done | (with_reducible exact rfl) | (with_reducible exact ⟨rfl, rfl⟩)) | (simp (disch := omega) only [qa, kI, AV.cells, gF, cU, lP, eQ, iC, kD, Nat.reduceLeDiff, Nat.reduceLT, Nat.reduceAdd, ↓reduceIte, r1, r2, b1, g0, g5, l0, l5, l6, st, ld, e2, e5, lb, lc]; first | done | (with_reducible exact rfl) | (with_reducible exact ⟨rfl, rfl⟩))))
  | ((with_reducible apply eR); (simp only [fY, fX]; (with_reducible exact rfl)))
  | ((with_reducible first | refine aHu ?_ ?_ | refine aHz ?_ ?_ | refine aHy ?_ ?_ | refine aHx ?_ ?_ | refine aHw ?_ ?_ | refine aHv ?_ ?_ | refine aHA ?_ ?_ | refine aCJ ?_ ?_ | refine sGd ?_ ?_ | refine aBO ?_ ?_) <;> intro hq <;> try subst hq)
 all_goals (refine w1e ?_ (by rfl); (first | (with_reducible rfl) | ((try simp (disch := omega) only [if_pos, if_neg, if_true, if_false, ↓reduceIte, aFa]) <;> first | done | rfl | omega)))
inductive VE where
 | ok
 | bare (e : Nat)
 | at_ (j e : Nat)
def veV : VE → AV
 | .ok => .nili
 | .bare e => eV e
 | .at_ j e => .iface 126 (.rp false (.agg [Nn j, eV e]) 0)
def nN (R n : Int) : List WI → Nat → VE
 | [], _ => .ok
 | i :: l, j => match fK i R n with
  | some e => .at_ j e
  | none => nN R n l (j + 1)
def iL (cs : List WI) (R M : Int) : VE :=
 if 262144 < cs.length then .bare 0
 else if R < 0 ∨ 65536 < R ∨ M < 0 ∨ 65536 < M then .bare 0
 else nN R cs.length cs 0
theorem zM (v : VE) : gI (veV v) = true := by cases v <;> rfl
section
variable {bor : Bool} (G : aG) (hg : GOk G) (k : Nat) (self : cD) (cs : List WI) (R M : Int)
abbrev xsV (bor : Bool) (cs : List WI) (R M : Int) (x : AV) (j : Nat) : List AV := [bxC (.ro bor (bO cs)) R M, x, .ro bor (bO cs), I6 cs.length, Nn j]
include hg in
theorem vR (hcl : cs.length ≤ 1000000) : ∀ (l pre : List WI) (f : Nat) (H : aB), cs = pre ++ l → l.length < f →
  ∃ o, cQ (cK.l6 G (k + 7) 0 self) f (xsV bor cs R M .nili pre.length) H = some o ∧
   (match nN R cs.length l pre.length with
    | .ok => o = (.exit 1, xsV bor cs R M .nili cs.length, [])
    | v => ∃ j H', o = (.ret, xsV bor cs R M (veV v) j, H'))
 | l, pre, 0, H, hcs, hf => by omega
 | [], pre, f + 1, H, hcs, hf => by
  rw [aY, cK.l6]
  have hl : cs.length = pre.length := by rw [hcs]; simp
  refine ⟨_, ?_, rfl⟩
  have hc : fE 0 (xsV bor cs R M .nili pre.length) H = some [] := by simp [fE, bX, bW, dB, fQ]
  refine lC hc ?_
  refine fG ?_
  have hge : ¬ (pre.length : Int) < (cs.length : Int) := by omega
  have q : aU Tryd.prog .lss 3 false (Nn pre.length) (Nn cs.length) = some (.bool false) := by rw [iA, decide_eq_false hge]
  have fx := q
  refine oL ?_
  rw [hl]
  rfl
 | i :: l, pre, f + 1, H, hcs, hf => by
  rw [aY, cK.l6]
  have hl : cs.length = pre.length + (l.length + 1) := by rw [hcs]; simp
  have hc : fE 0 (xsV bor cs R M .nili pre.length) H = some [] := by simp [fE, bX, bW, dB, fQ]
  have hi : cs.getD pre.length default = i := by rw [hcs]; simp [List.getD]
  have q : aU Tryd.prog .lss 3 false (Nn pre.length) (Nn cs.length) = some (.bool true) := by rw [iA, decide_eq_true (by omega)]
  have d1 := aEg bor cs pre.length (by omega)
  rw [hi] at d1
  have d2 : ∀ H, aF G true 6 (.rp bor i.v 0) H = some i.v := fun H => rfl
  have d3 : fM (aV 6 (.ptr 0 1 0 0) i.v [⟨29, 6, [.agg [.int .i64 0, .int .i64 0, .int .i64 0, .int .i64 0, .int .i64 0, .int .i64 0]]⟩]) = some (.tup [], [⟨29, 6, [i.v]⟩]) := rfl
  have d4 : aF G true 6 (.ptr 0 1 0 0) [⟨29, 6, [i.v]⟩] = some i.v := rfl
  have d5 : ∀ H, bF (cO.f G (k + 7)) [.agg [.ro bor (bO cs), I6 R, I6 M], i.v] H = _ := fun H => dO (H := H) (aDP G hg k cs R M i) (by simp [gK, bZ, aDC, WI.v]) (by cases fK i R cs.length <;> rfl)
  cases ho : fK i R cs.length with
  | some e =>
   have hb : nN R cs.length (i :: l) pre.length = .at_ pre.length e := by simp only [nN, ho]
   rw [hb]
   rw [ho] at d5
   have q2 : aU Tryd.prog .neq 33 true (eV e) .nili = some (.bool true) := by kernel_rfl
   refine ⟨_, ?_, pre.length, [⟨29, 6, [i.v]⟩], rfl⟩
   refine lC hc ?_
   refine fG ?_
   simp only [aFa] at d5
   have fx := aMP q <| aMP d1 <| aMP d2 <| aMP d3 <| aMP d4 <| aMP d5 <| q2
   refine oL ?_
   rfl
  | none =>
   rw [ho] at d5
   have q2 : aU Tryd.prog .neq 33 true .nili .nili = some (.bool false) := by kernel_rfl
   obtain ⟨o, h1, h2⟩ := vR hcl l (pre ++ [i]) f [⟨29, 6, [i.v]⟩] (by rw [hcs]; simp) (by simp at hf; omega)
   have hlen : (pre ++ [i]).length = pre.length + 1 := by simp
   rw [hlen] at h1 h2
   have hb : nN R cs.length (i :: l) pre.length = nN R cs.length l (pre.length + 1) := by simp only [nN, ho]
   rw [hb]
   refine ⟨o, ?_, h2⟩
   refine lC hc ?_
   refine fG ?_
   simp only [aFa] at d5
   have q3 : aU Tryd.prog .add 3 true (Nn pre.length) (.int .i64 1) = some (Nn (pre.length + 1)) := by
    rw [gG, dH (by omega) (by omega)]; congr 2
   have fx := aMP q <| aMP d1 <| aMP d2 <| aMP d3 <| aMP d4 <| aMP d5 <| aMP q2 <| q3
   refine oL ?_
   exact h1
include hg in
theorem vS (hk : cs.length < k + 7) (hcl : cs.length ≤ 1000000) : cK.f G (k + 8) [cV bor cs R M] [] = some (veV (iL cs R M), []) := by
 rw [cK.step]
 unfold cK.c cV
 obtain ⟨o, h1, h2⟩ := vR (bor := bor) G hg k (cK.f G (k + 7)) cs R M hcl cs [] (k + 7) [] rfl hk
 have e0 : ∀ H, aF G false 1 (.gl 1) H = some (eV 0) := fun H => hg.g0
 have lc : dN (.ro bor (bO cs)) = some (I6 cs.length) := by simp [dN, fC]
 refine gL ?_
 unfold iL
 by_cases hb : 262144 < cs.length
 ·rw [if_pos hb]
  have fx := aMP lc <| e0
  refine oL ?_
  exact w1 rfl rfl
 rw [if_neg hb]
 by_cases hr : R < 0 ∨ 65536 < R ∨ M < 0 ∨ 65536 < M
 ·rw [if_pos hr]
  have fx := aMP lc <| e0
  refine oL ?_
  exact w1 rfl rfl
 rw [if_neg hr]
 cases hv : nN R cs.length cs 0 with
 | ok =>
  simp only [List.length_nil, hv] at h2
  rw [h2] at h1
  have fx := aMP lc <| e0
  have lx1 := h1
  refine oL ?_
  exact w1 rfl rfl
 | bare e =>
  simp only [List.length_nil, hv] at h2
  obtain ⟨j, H', h2⟩ := h2
  rw [h2] at h1
  have fx := aMP lc <| e0
  have lx1 := h1
  refine oL ?_
  exact w1 rfl rfl
 | at_ j e =>
  simp only [List.length_nil, hv] at h2
  obtain ⟨j', H', h2⟩ := h2
  rw [h2] at h1
  have fx := aMP lc <| e0
  have lx1 := h1
  refine oL ?_
  exact w1 rfl rfl
end
theorem aEn {i : WI} {R n : Int} (h : fK i R n = none) (hR : 0 ≤ R) : i.Ok R.toNat n.toNat := by
 unfold fK at h
 have out : ∀ {t : Bool} {r : Int}, iW t r R = false → t = true → 0 ≤ r ∧ r < R := fun {t r} ho ht => by
  subst ht; simp [iW] at ho; omega
 by_cases h20 : 1 ≤ i.op ∧ i.op ≤ 20
 ·by_cases h1 : jL (dC i.op) i R = true
  ·rw [if_pos h1] at h; split at h <;> cases h
  rw [if_neg h1] at h
  by_cases h2 : jR (dC i.op) i = true
  ·rw [if_pos h2] at h; split at h <;> cases h
  rw [if_neg h2] at h
  obtain ⟨op, d, a, b, c, kk⟩ := i
  simp only at h h1 h2 h20
  simp only [jL, jR, Bool.or_eq_true, not_or, Bool.and_eq_true, Bool.not_eq_true', decide_eq_true_eq, not_and, Bool.not_eq_true] at h1 h2
  rcases aFr h20 with rfl | rfl | rfl | rfl | rfl | rfl | rfl | rfl | rfl | rfl | rfl | rfl | rfl | rfl | rfl | rfl | rfl | rfl | rfl | rfl
  all_goals (
   simp [dC, eH, iW] at h1 h2
   simp [eH] at h
   constructor <;> simp <;> omega)
 ·rw [sQ h20] at h; simp at h
theorem aDX {R n : Int} (hR : 0 ≤ R) : ∀ {l : List WI} {j : Nat}, nN R n l j = .ok → ∀ i ∈ l, i.Ok R.toNat n.toNat
 | [], _, _, i, hi => by cases hi
 | x :: l, j, h, i, hi => by
  unfold nN at h
  split at h
  ·cases h
  ·rename_i ho
   rcases List.mem_cons.1 hi with rfl | hi
   ·exact aEn ho hR
   ·exact aDX hR h i hi
theorem tP {cs : List WI} {R M : Int} (h : iL cs R M = .ok) : (0 ≤ R ∧ R ≤ 65536 ∧ 0 ≤ M ∧ M ≤ 65536 ∧ cs.length ≤ 262144) ∧ ∀ j, j < cs.length → (cs.getD j default).Ok R.toNat cs.length := by
 unfold iL at h
 by_cases h1 : 262144 < cs.length
 ·rw [if_pos h1] at h; cases h
 rw [if_neg h1] at h
 by_cases h2 : R < 0 ∨ 65536 < R ∨ M < 0 ∨ 65536 < M
 ·rw [if_pos h2] at h; cases h
 rw [if_neg h2] at h
 refine ⟨by omega, fun j hj => ?_⟩
 have := aDX (by omega) h (cs.getD j default) (by simp [List.getD, List.getElem?_eq_getElem hj])
 rwa [Int.toNat_natCast] at this
def ftV (c : Int) (p : Bool) (j : Int) : AV := .agg [I6 c, .bool p, I6 j]
inductive Cls : Frm → Int → Prop
 | c1 : Cls ⟨true, false, false, false, true⟩ 1
 | c2 : Cls ⟨true, true, false, false, false⟩ 0
 | c3 : Cls ⟨true, true, true, false, false⟩ 0
 | c4 : Cls ⟨true, true, false, false, true⟩ 2
 | c5 : Cls ⟨true, true, true, true, false⟩ 0
 | c6 : Cls ⟨true, true, false, false, true⟩ 3
 | c7 : Cls ⟨false, true, true, false, true⟩ 3
 | c8 : Cls ⟨false, false, false, false, true⟩ 4
 | c9 : Cls ⟨false, true, false, false, true⟩ 4
 | c10 : Cls ⟨false, false, false, false, true⟩ 5
section
variable (G : aG) (k : Nat) (self : cD) (cs : List WI) (R M : Int)
abbrev f0 : AV := ftV 0 false 0
end
section
variable (G : aG) (k : Nat) (self : cD) (cs : List WI) (R M : Int)
end
def VE.low : VE → Prop
 | .ok => True
 | .bare e => e < 6
 | .at_ j e => e < 6
theorem aJW (n : Nat) (h : n ≤ 63) : bits .and .i64 (n : Int) 63 = (n : Int) := by
 show IntKind.i64.wrap ((BitVec.ofInt 64 (n : Int) &&& BitVec.ofInt 64 63).toNat : Int) = _
 rw [BitVec.toNat_and, kH n (by omega)]
 have e : (BitVec.ofInt 64 (63 : Int)).toNat = 63 := rfl
 have e2 : n &&& 63 = n := by have := Nat.and_two_pow_sub_one_eq_mod n 6; simp at this; omega
 rw [e, e2, dH (by omega) (by omega)]
theorem aCI (G : aG) (k : Nat) (op d a b c n : Int) (x y z : Nat) (hx : x < 18446744073709551616) (hy : y < 18446744073709551616) (hz : z < 18446744073709551616) :
  bS.f G (k + 2) [WI.v ⟨op, d, a, b, c, n⟩, Un x, Un y, Un z] [] = some (.tup [Un (iZ op n x y z).1, .bool (iZ op n x y z).2], []) := by
 rw [bS.step]
 unfold bS.c WI.v
 obtain ⟨w, hw⟩ : ∃ w, w = bits .and .i64 n 63 := ⟨_, rfl⟩
 have k0 : aU Tryd.prog .and 2 true (I6 n) (.int .i64 63) = some (I6 w) := by rw [aAi, hw]
 obtain ⟨w2, hw2⟩ : ∃ w2, w2 = IntKind.u64.wrap w := ⟨_, rfl⟩
 have k0' : dA .u64 (I6 w) = some (.int .u64 w2) := by rw [iT, hw2]
 have hw3 : 0 ≤ n → n ≤ 63 → w2 = n := fun h0 h1 => by
  obtain ⟨m, rfl⟩ : ∃ m : Nat, n = (m : Int) := ⟨n.toNat, by omega⟩
  rw [hw2, hw, aJW m (by omega), iJ (by omega) (by omega)]
 clear hw hw2
 have k1 := rN .i64 n
 have k3 := vO Tryd.prog 30 false x y
 have k4 := aID Tryd.prog 30 false x y hy
 have k5 := vP Tryd.prog 30 false x y
 have k6 : ∀ H, bF (bV.f G (k + 1)) [Un x, Un y] H = _ := fun H => dO (H := H) (aDy G k x y hx hy) rfl rfl
 have k7 : aU Tryd.prog .and 30 false (Un x) (Un y) = some (Un (x &&& y)) := by rw [aAi, aEF x y hx hy]
 have k8 : aU Tryd.prog .or 30 false (Un x) (Un y) = some (Un (x ||| y)) := by rw [aJI, aKn x y hx hy]
 have k9 : aU Tryd.prog .xor 30 false (Un x) (Un y) = some (Un (x ^^^ y)) := by rw [aIa, aIE x y hx hy]
 have k10 : 0 ≤ n → n ≤ 63 → aU Tryd.prog .shl 30 false (Un x) (.int .u64 w2) = some (Un (x * 2 ^ n.toNat % 18446744073709551616)) := fun h0 h1 => by
  have := aIC Tryd.prog 30 false .u64 x n.toNat (by omega); rw [Int.toNat_of_nonneg h0] at this; rw [hw3 h0 h1]; exact this
 have k11 : 0 ≤ n → n ≤ 63 → aU Tryd.prog .shr 30 false (Un x) (.int .u64 w2) = some (Un (x / 2 ^ n.toNat)) := fun h0 h1 => by
  have := aBk Tryd.prog 30 false .u64 x n.toNat (by omega); rw [Int.toNat_of_nonneg h0] at this; rw [hw3 h0 h1]; exact this
 have k12 := aBL x hx
 have k13 : 0 ≤ n → n ≤ 63 → aU Tryd.prog .shr 2 false (I6 (pY x)) (.int .u64 w2) = some (I6 ((pY x).fdiv (2 ^ n.toNat))) := fun h0 h1 => by
  rw [hw3 h0 h1, aDY _ _ _ _ _ _ _ h0]
  have e : min n.toNat IntKind.i64.bits = n.toNat := Nat.min_eq_left (by have : IntKind.i64.bits = 64 := rfl; omega)
  rw [e]
 have k14 := rN .i64 ((pY x).fdiv (2 ^ n.toNat))
 have hq : u64 ((pY x).fdiv (2 ^ n.toNat)) = aLu x n.toNat := rfl
 rw [hq] at k14
 clear hw3 hq
 refine gL ?_
 repeat' first
  | (with_reducible first | refine eT ?_ | refine eN ?_ | refine eS ?_ | refine eXn ?_ | refine eXr ?_ | refine eX ?_ | refine eI ?_ | refine eK ?_ | refine eV0 ?_ | refine aEV ?_ | refine aEY ?_ | refine aES ?_ | refine aEX ?_ | refine aET ?_ | refine aEU ?_)
  | ((with_reducible apply eCn); (simp only [fY, fX]; first | done | (with_reducible exact rfl)))
  | ((with_reducible apply eJ); (rfl))
  | ((with_reducible apply aEW); (first | rfl | (simp only [fY, fX]; rfl)))
  | ((with_reducible apply eB); (first | (with_reducible exact rfl) | (simp (disch := omega) only [qf, k0, k0', k1, k3, k4, k5, k6, k7, k8, k9, k10, k11, k12, k13, k14]; first | done | (with_reducible exact rfl) | (with_reducible exact ⟨rfl, rfl⟩)) | (simp (disch := omega) only [qa, kI, AV.cells, gF, cU, lP, eQ, iC, kD, Nat.reduceLeDiff, Nat.reduceLT, Nat.reduceAdd, ↓reduceIte, k0, k0', k1, k3, k4, k5, k6, k7, k8, k9, k10, k11, k12, k13, k14]; first | done | (with_reducible exact rfl) | (with_reducible exact ⟨rfl, rfl⟩))))
  | ((with_reducible apply eR); (simp only [fY, fX]; (with_reducible exact rfl)))
  | ((with_reducible first | refine aHu ?_ ?_ | refine aHz ?_ ?_ | refine aHy ?_ ?_ | refine aHx ?_ ?_ | refine aHw ?_ ?_ | refine aHv ?_ ?_ | refine aHA ?_ ?_ | refine aCJ ?_ ?_ | refine sGd ?_ ?_ | refine aBO ?_ ?_) <;> intro hq <;> try subst hq)
 all_goals first | (refine w2b ?_ ?_ <;> ((try simp (disch := omega) only [iZ, pJ, if_pos, if_neg, if_true, if_false, ↓reduceIte]) <;> first | done | rfl | omega)) | (by_cases h10 : op = 10 ∨ op = 11 ∨ op = 12 <;> refine w2b ?_ ?_ <;> ((try simp (disch := omega) only [iZ, pJ, if_pos, if_neg, if_true, if_false, ↓reduceIte]) <;> first | done | rfl | omega))
def tN (s : MS) (wr : Int) : AV := .agg [I6 s.code, .sl 2 s.mem.length 0 s.mem.length 1, .sl 6 s.leaks.length 0 s.leaks.length 2, Nn s.steps, I6 wr]
def mF (s : MS) (wr : Int) : aB :=
 [⟨38, 5, [.agg [.int .i64 0, .nils, .sl 5 0 0 0 2, .int .i64 0, .int .i64 0]]⟩, ⟨30, 1, []⟩, ⟨30, 1, bU s.mem⟩, ⟨38, 5, [tN s wr]⟩, ⟨30, 1, bU (s.regs ++ [0])⟩, ⟨91, 2, []⟩, ⟨91, 2, iO s.leaks⟩]
def gA (s : MS) (wr : Int) (x : AV) : aB :=
 [⟨38, 5, [.agg [.int .i64 0, .nils, .sl 5 0 0 0 2, .int .i64 0, .int .i64 0]]⟩, ⟨30, 1, []⟩, ⟨30, 1, bU s.mem⟩, ⟨38, 5, [tN s wr]⟩, ⟨30, 1, bU (s.regs ++ [0])⟩, ⟨91, 2, []⟩, ⟨91, 2, iO s.leaks⟩, ⟨29, 6, [x]⟩]
def xV (s : MS) (wr : Int) (l : aB) : aB :=
 ⟨38, 5, [tN s wr]⟩ :: ⟨30, 1, []⟩ :: ⟨30, 1, bU s.mem⟩ :: ⟨38, 5, [tN s wr]⟩ :: ⟨30, 1, bU (s.regs ++ [0])⟩ :: ⟨91, 2, []⟩ :: ⟨91, 2, iO s.leaks⟩ :: l
def qM (sp : AV) (fuel : Int) (bc bor : Bool) (cs : List WI) (R : Nat) (M : Int) (pc : Nat) : List AV :=
 [sp, I6 fuel, .rp bc (.agg [.ro bor (bO cs), I6 R, I6 M]) 0, .ptr 0 1 0 0, .ptr 3 1 0 0, .sl 4 (R + 1) 0 (R + 1) 1, Nn pc]
section
variable (G : aG) (s : MS) (wr : Int) (x : AV)
abbrev zI : AV := .agg [.int .i64 0, .int .i64 0, .int .i64 0, .int .i64 0, .int .i64 0, .int .i64 0]
theorem aJO : (mF s wr).length = 7 := rfl
theorem aGO : aF G false 1 (.ptr 3 1 0 3) (mF s wr) = some (Nn s.steps) := rfl
theorem aJk (n : Int) : fM (aV 1 (.ptr 3 1 0 0) (I6 n) (mF s wr)) = some (.tup [], mF { s with code := n } wr) := rfl
theorem aLk : aF G true 5 (.ptr 3 1 0 0) (mF s wr) = some (tN s wr) := rfl
theorem aLl : fM (aV 5 (.ptr 0 1 0 0) (tN s wr) (mF s wr)) = some (.tup [], xV s wr []) := rfl
theorem aMb : fW 29 zI (mF s wr) = some (.ptr 7 1 0 0, gA s wr zI) := rfl
theorem aMd (i : WI) : fM (aV 6 (.ptr 7 1 0 0) i.v (gA s wr zI)) = some (.tup [], gA s wr i.v) := rfl
theorem aKh : aF G false 1 (.ptr 3 1 0 3) (gA s wr x) = some (Nn s.steps) := rfl
theorem aHk (n : Nat) : fM (aV 1 (.ptr 3 1 0 3) (Nn n) (gA s wr x)) = some (.tup [], gA { s with steps := n } wr x) := rfl
theorem aJu (n : Int) : fM (aV 1 (.ptr 3 1 0 0) (I6 n) (gA s wr x)) = some (.tup [], gA { s with code := n } wr x) := rfl
theorem aLm : aF G true 5 (.ptr 3 1 0 0) (gA s wr x) = some (tN s wr) := rfl
theorem aLn : fM (aV 5 (.ptr 0 1 0 0) (tN s wr) (gA s wr x)) = some (.tup [], xV s wr [⟨29, 6, [x]⟩]) := rfl
theorem aDD : aF G false 1 (.ptr 3 1 0 2) (gA s wr x) = some (.sl 6 s.leaks.length 0 s.leaks.length 2) := rfl
theorem aMf : aF G false 1 (.ptr 3 1 0 1) (gA s wr x) = some (.sl 2 s.mem.length 0 s.mem.length 1) := rfl
theorem rI0 (i : WI) : aF G false 1 (.ptr 7 1 0 0) (gA s wr i.v) = some (I6 i.op) := rfl
theorem rI1 (i : WI) : aF G false 1 (.ptr 7 1 0 1) (gA s wr i.v) = some (I6 i.d) := rfl
theorem rI2 (i : WI) : aF G false 1 (.ptr 7 1 0 2) (gA s wr i.v) = some (I6 i.a) := rfl
theorem rI3 (i : WI) : aF G false 1 (.ptr 7 1 0 3) (gA s wr i.v) = some (I6 i.b) := rfl
theorem rI4 (i : WI) : aF G false 1 (.ptr 7 1 0 4) (gA s wr i.v) = some (I6 i.c) := rfl
theorem rI5 (i : WI) : aF G false 1 (.ptr 7 1 0 5) (gA s wr i.v) = some (I6 i.k) := rfl
theorem rI6 (i : WI) : aF G true 6 (.ptr 7 1 0 0) (gA s wr i.v) = some i.v := rfl
theorem aIu (p : Int × Int) (hl : s.leaks.length ≤ 1000000) : eE 91 2 (.sl 6 s.leaks.length 0 s.leaks.length 2) (.ro false [aGw p]) (gA s wr x) =
  some (.sl 6 (s.leaks.length + 1) 0 (s.leaks.length + 1) 2, (gA s wr x).set 6 ⟨91, 2, iO (s.leaks ++ [p])⟩) := by
 have e : (gA s wr x)[6]? = some ⟨91, 2, iO s.leaks⟩ := rfl
 unfold eE
 simp only [e, gB, lS, List.length_singleton]
 rw [if_pos (by refine ⟨?_, ?_, ?_, ?_, ?_⟩ <;> first | trivial | rfl | omega)]
 have e2 : (iO s.leaks).take s.leaks.length = iO s.leaks := List.take_of_length_le (by rw [lS]; exact Nat.le_refl _)
 have e3 : (iO s.leaks).drop (s.leaks.length + 1) = [] := List.drop_of_length_le (by rw [lS]; omega)
 rw [e2, e3, List.append_nil]
 have e4 : iO s.leaks ++ [aGw p] = iO (s.leaks ++ [p]) := by simp [iO]
 rw [e4, lS]; simp
theorem aIv (p : Int × Int) : fM (aV 1 (.ptr 3 1 0 2) (.sl 6 (s.leaks.length + 1) 0 (s.leaks.length + 1) 2) ((gA s wr x).set 6 ⟨91, 2, iO (s.leaks ++ [p])⟩)) =
  some (.tup [], gA (s.leak p.1 p.2) wr x) := by
 have e : (s.leak p.1 p.2).leaks.length = s.leaks.length + 1 := by simp [MS.leak]
 unfold gA tN
 rw [e]
 rfl
theorem aKg (R : Nat) (j : Int) (h0 : 0 ≤ j) (hj : j ≤ R) (hR : s.regs.length = R) : aF G false 1 (.ptr 4 (R + 1) j.toNat 0) (gA s wr x) = some (Un (s.rg j)) := by
 have e : (gA s wr x)[4]? = some ⟨30, 1, bU (s.regs ++ [0])⟩ := rfl
 have hl : (s.regs ++ [0]).length = R + 1 := by simp [hR]
 have h1 : j.toNat < (s.regs ++ [0]).length := by rw [hl]; omega
 have e2 : (s.regs ++ [0]).getD j.toNat 0 = s.rg j := by
  unfold MS.rg
  simp only [List.getD_eq_getElem?_getD]
  by_cases hlt : j.toNat < s.regs.length
  ·rw [List.getElem?_append_left hlt]
  ·rw [List.getElem?_append_right (by omega), List.getElem?_eq_none (l := s.regs) (by omega)]
   have : j.toNat - s.regs.length = 0 := by omega
   rw [this]; rfl
 unfold aF
 simp only [e, eF, hl, jO _ _ h1, if_true, e2]
 rfl
theorem aLo (R : Nat) (j : Int) (n : Nat) (h0 : 0 ≤ j) (hj : j < R) (hR : s.regs.length = R) : fM (aV 1 (.ptr 4 (R + 1) j.toNat 0) (Un n) (gA s wr x)) = some (.tup [], gA (s.set j n) wr x) := by
 have e : (gA s wr x)[4]? = some ⟨30, 1, bU (s.regs ++ [0])⟩ := rfl
 have hl : (s.regs ++ [0]).length = R + 1 := by simp [hR]
 have h1 : j.toNat < (s.regs ++ [0]).length := by rw [hl]; omega
 have e2 : (s.set j n).regs ++ [0] = (s.regs ++ [0]).set j.toNat n := by
  unfold MS.set
  rw [List.set_append_left _ _ (by omega)]
 unfold aV
 simp only [e, eF, hl, jO _ _ h1]
 unfold gA
 rw [e2, tH]
 rfl
theorem aMe (j : Nat) (h : j < s.mem.length) : aF G false 1 (.ptr 2 s.mem.length j 0) (gA s wr x) = some (Un (s.mem.getD j 0)) := by
 have e : (gA s wr x)[2]? = some ⟨30, 1, bU s.mem⟩ := rfl
 unfold aF
 simp only [e, eF, jO _ _ h, if_true]
 rfl
theorem aMc (n : Nat) (h : n < s.mem.length) : aM 1 (.sl 2 s.mem.length 0 s.mem.length 1) (Un n) = some (.ptr 2 s.mem.length n 0) := by
 have h0 : (0 : Int) ≤ (n : Int) := by omega
 have h' : (n : Int) < (s.mem.length : Int) := by omega
 simp [aM, h0, h']
theorem aMg (j n : Nat) (h : j < s.mem.length) : fM (aV 1 (.ptr 2 s.mem.length j 0) (Un n) (gA s wr x)) = some (.tup [], gA { s with mem := s.mem.set j n } wr x) := by
 have e : (gA s wr x)[2]? = some ⟨30, 1, bU s.mem⟩ := rfl
 unfold aV
 simp only [e, eF, jO _ _ h]
 unfold gA tN
 simp only [List.length_set, tH]
 rfl
theorem idR (R : Nat) (j : Int) (h0 : 0 ≤ j) (hj : j ≤ R) : aM 1 (.sl 4 (R + 1) 0 (R + 1) 1) (I6 j) = some (.ptr 4 (R + 1) j.toNat 0) := by
 have h' : j < ((R + 1 : Nat) : Int) := by omega
 simp only [aM]
 rw [if_pos ⟨h0, h'⟩, if_pos trivial, Nat.zero_add]
end
structure WI.Ok2 (i : WI) (R n : Nat) : Prop where
 ok : i.Ok R n
 sh : 10 ≤ i.op → i.op ≤ 12 → 0 ≤ i.k ∧ i.k ≤ 63
 ha : 0 ≤ i.a ∧ i.a ≤ R
 hb : 0 ≤ i.b ∧ i.b ≤ R
theorem aEH {op n : Int} {a b c : Nat} (h : 1 ≤ op ∧ op ≤ 14) (hs : 10 ≤ op → op ≤ 12 → 0 ≤ n ∧ n ≤ 63) : (iZ op n a b c).2 = true := by
 by_cases e : op = 10 ∨ op = 11 ∨ op = 12
 ·have := hs (by omega) (by omega)
  have e2 : iZ op n a b c = pJ op n a := by
   unfold iZ
   simp (disch := omega) only [if_neg, if_pos]
  rw [e2]
  unfold pJ
  rw [if_neg (by omega)]
  split
  ·rfl
  ·split <;> rfl
 ·have : op = 1 ∨ op = 2 ∨ op = 3 ∨ op = 4 ∨ op = 5 ∨ op = 6 ∨ op = 7 ∨ op = 8 ∨ op = 9 ∨ op = 13 ∨ op = 14 := by omega
  rcases this with rfl | rfl | rfl | rfl | rfl | rfl | rfl | rfl | rfl | rfl | rfl <;> simp [iZ]
theorem aCw {i : WI} {R n : Int} (h : fK i R n = none) (hR : 0 ≤ R) : i.Ok2 R.toNat n.toNat := by
 have h0 := aEn h hR
 unfold fK at h
 have h20 := h0.op
 by_cases h1 : jL (dC i.op) i R = true
 ·rw [if_pos h1] at h; split at h <;> cases h
 rw [if_neg h1] at h
 by_cases h2 : jR (dC i.op) i = true
 ·rw [if_pos h2] at h; split at h <;> cases h
 rw [if_neg h2] at h
 obtain ⟨op, d, a, b, c, kk⟩ := i
 simp only at h h1 h2 h20
 simp only [jL, jR, Bool.or_eq_true, not_or, Bool.and_eq_true, Bool.not_eq_true', decide_eq_true_eq, not_and, Bool.not_eq_true] at h1 h2
 rcases aFr h20 with rfl | rfl | rfl | rfl | rfl | rfl | rfl | rfl | rfl | rfl | rfl | rfl | rfl | rfl | rfl | rfl | rfl | rfl | rfl | rfl
 all_goals (
  simp [dC, eH, iW] at h1 h2
  simp [eH] at h
  exact ⟨h0, by simp; try omega, by simp; omega, by simp; omega⟩)
theorem aCT (G : aG) (k : Nat) (b : Bool) : cX.f G (k + 1) [.bool b] [] = some (.int .i64 (if b = true then 1 else 0), []) := by cases b <;> kernel_rfl
section
variable (G : aG) (k : Nat) (self : cD) (fuel : Int) (bc bor : Bool) (cs : List WI) (R : Nat) (s : MS) (wr : Int)
theorem aDH (sp : AV) (hsp : bW 0 sp = true) (M : Int) (pc : Nat) (H : aB) (hH : H.take 7 = mF s wr) : fE 7 (qM sp fuel bc bor cs R M pc) H = some (mF s wr) := by
 have h1 := iH (Nat.zero_le 7) hsp
 have h2 : dB 7 (mF s wr) = true := by simp [mF, tN, dB, bX, bW, gS, sB]
 unfold fE
 rw [hH, h2]
 simp [qM, bX, bW, fQ, h1]
theorem aHp (lp : dY) (i : WI) (H : aB) (hH : H.take 7 = mF s wr) (hs : s.Ok R) (hi : i.Ok2 R cs.length) (hcl : cs.length ≤ 100000) (hat : s.at_ < cs.length) (hci : cs.getD s.at_ default = i)
  (hst : (s.steps : Int) < fuel) (hst2 : s.steps ≤ 99998) (M : Int) (hM : M = s.mem.length) :
  bK.l4 G (k + 3) 7 self lp (qM .nils fuel bc bor cs R M s.at_) H =
   match s.tick.step i with
   | (s', true) => lp (qM .nils fuel bc bor cs R M s'.at_) (gA s' wr i.v)
   | (s', false) => some (.ret, qM .nils fuel bc bor cs R M s.at_, xV s' wr [⟨29, 6, [i.v]⟩]) := by
 rw [bK.l4]
 have hc := aDH fuel bc bor cs R s wr .nils rfl M s.at_ H hH
 unfold qM at *
 have hll : s.leaks.length ≤ 999990 := by have := hs.leaks; omega
 refine fG ?_
 refine eC hc ?_
 have lc : dN (.ro bor (bO cs)) = some (I6 cs.length) := by simp [dN, fC]
 have q1 : aU Tryd.prog .geq 3 false (Nn s.at_) (I6 cs.length) = some (.bool false) := by rw [kK, decide_eq_false (by omega)]
 have q2 : aU Tryd.prog .geq 2 false (Nn s.steps) (I6 fuel) = some (.bool false) := by rw [kK, decide_eq_false (by omega)]
 have q3 : aU Tryd.prog .add 2 true (Nn s.steps) (.int .i64 1) = some (Nn (s.steps + 1)) := by
  rw [gG, dH (by omega) (by omega)]; congr 2
 have q4 : aU Tryd.prog .add 3 true (Nn s.at_) (.int .i64 1) = some (Nn (s.at_ + 1)) := by
  rw [gG, dH (by omega) (by omega)]; congr 2
 have d1 := aEg bor cs s.at_ hat
 rw [hci] at d1
 have d2 : ∀ H, aF G true 6 (.rp bor i.v 0) H = some i.v := fun H => rfl
 have p1 := aGO G s wr
 have p2 := aMb s wr
 have p3 := aMd s wr i
 have p4 := aKh G s wr i.v
 have p5 := aHk s wr i.v (s.steps + 1)
 obtain ⟨s1, hs1⟩ : ∃ s1 : MS, s1 = { s with steps := s.steps + 1 } := ⟨_, rfl⟩
 have hl1 : s1.leaks.length = s.leaks.length := by rw [hs1]
 rw [← hs1] at p5
 have p6 := aDD G s1 wr i.v
 have p7 : eE 91 2 (.sl 6 s1.leaks.length 0 s1.leaks.length 2) (.ro false [.agg [.int .i64 1, Nn s.at_]]) (gA s1 wr i.v) = _ := aIu s1 wr i.v (1, s.at_) (by omega)
 have p8 := aIv s1 wr i.v (1, s.at_)
 have ht : s1.leak 1 s.at_ = s.tick := by rw [hs1]; rfl
 simp only [ht] at p8
 obtain ⟨t, htt⟩ : ∃ t, t = s.tick := ⟨_, rfl⟩
 have tok : t.Ok R := by
  rw [htt]; exact ⟨hs.len, hs.regs, hs.mem, by have := hs.leaks; simp [MS.tick, MS.leak]; omega, hs.big, by simp [MS.tick, MS.leak]; omega⟩
 have tat : t.at_ = s.at_ := by rw [htt]; rfl
 have tll : t.leaks.length ≤ 999991 := by rw [htt]; simp [MS.tick, MS.leak]; omega
 have tmem : t.mem = s.mem := by rw [htt]; rfl
 rw [← htt] at p8 ⊢
 clear htt ht hs1 hH hc
 have tR := tok.len
 obtain ⟨a0, a1⟩ := hi.ha
 obtain ⟨b0, b1⟩ := hi.hb
 have r2 := rI2 G t wr i
 have r3 := rI3 G t wr i
 have r0 := rI0 G t wr i
 have i2 := idR R i.a a0 a1
 have i3 := idR R i.b b0 b1
 have l2 := aKg G t wr i.v R i.a a0 a1 tR
 have l3 := aKg G t wr i.v R i.b b0 b1 tR
 have r5 := rI5 G t wr i
 have fx := aMP lc <| aMP q1 <| aMP q2 <| aMP q3 <| aMP q4 <| aMP d1 <| aMP d2 <| aMP p1 <| aMP p2 <| aMP p3 <| aMP p4 <| aMP p5 <| aMP p6 <| aMP p7 <| aMP p8 <| aMP r0 <| aMP r2 <| aMP r3 <| aMP i2 <| aMP i3 <| aMP l2 <| l3
 refine gE ?_
 clear lc q1 q2 q3 d1 d2 p1 p2 p3 p4 p5 p6 p7 p8 i2 i3 l2 l3 hci
 have e0 : t.step i = (let u : MS := { t with at_ := t.at_ + 1 };
  if i.op = 15 ∨ i.op = 16 then u.touch i
  else if i.op = 17 ∨ i.op = 18 ∨ i.op = 19 then (u.branch i, true)
  else if i.op = 20 then ({ u with code := i.k }, false)
  else if (iZ i.op i.k (t.rg i.a) (t.rg i.b) (t.rg i.c)).2 = true then (u.set i.d (iZ i.op i.k (t.rg i.a) (t.rg i.b) (t.rg i.c)).1, true)
  else (u, true)) := rfl
 have eat : t.at_ + 1 = s.at_ + 1 := by rw [tat]
 have hop := hi.ok.op
 subst hM
 by_cases h1 : i.op = 15 ∨ i.op = 16
 ·obtain ⟨ad, had⟩ : ∃ z, z = (t.rg i.a + u64 i.k) % 18446744073709551616 := ⟨_, rfl⟩
  have hadl : ad < 18446744073709551616 := by rw [had]; exact Nat.mod_lt _ (by decide)
  have c1 : dA .u64 (I6 i.k) = some (Un (u64 i.k)) := rN ..
  have c2 := vO Tryd.prog 30 false (t.rg i.a) (u64 i.k)
  rw [← had] at c2
  have c3 := aBL ad hadl
  have p6 := aDD G t wr i.v
  have p7 : eE 91 2 (.sl 6 t.leaks.length 0 t.leaks.length 2) (.ro false [.agg [.int .i64 3, I6 (pY ad)]]) (gA t wr i.v) = _ := aIu t wr i.v (3, pY ad) (by omega)
  have p8 := aIv t wr i.v (3, pY ad)
  have e1 : t.step i = (if t.mem.length ≤ ad then ({ (({ t with at_ := t.at_ + 1 } : MS).leak 3 (pY ad)) with code := 3 }, false) else if i.op = 15 then (({ t with at_ := t.at_ + 1 } : MS).leak 3 (pY ad) |>.set i.d (t.mem.getD ad 0), true) else ({ (({ t with at_ := t.at_ + 1 } : MS).leak 3 (pY ad)) with mem := t.mem.set ad (t.rg i.b) }, true)) := by
   rw [e0]
   simp only
   rw [if_pos h1]
   unfold MS.touch
   simp only
   rw [had]; rfl
  rw [e1]
  clear e0 e1 had
  have hml : t.mem.length = s.mem.length := by rw [tmem]
  have hbig := hs.big
  obtain ⟨t1, ht1⟩ : ∃ t1, t1 = t.leak 3 (pY ad) := ⟨_, rfl⟩
  have t1m : t1.mem = t.mem := by rw [ht1]; rfl
  have t1r : t1.regs = t.regs := by rw [ht1]; rfl
  simp only [← ht1] at p8
  have r0' := rI0 G t1 wr i
  have r1' := rI1 G t1 wr i
  have cM : dA .u64 (I6 (s.mem.length : Int)) = some (Un s.mem.length) := by rw [rN, aBj _ (by omega)]
  have bcM : ∀ H, aF G false 1 (.rp bc (.agg [.ro bor (bO cs), I6 R, I6 (s.mem.length : Int)]) 2) H = some (I6 (s.mem.length : Int)) := fun H => rfl
  by_cases hin : t.mem.length ≤ ad
  ·rw [if_pos hin]
   have q5 : aU Tryd.prog .geq 30 false (Un ad) (Un s.mem.length) = some (.bool true) := by rw [kK, decide_eq_true (by omega)]
   have z1 := aJu t1 wr i.v 3
   have z2 := aLm G { t1 with code := 3 } wr i.v
   have z3 := aLn { t1 with code := 3 } wr i.v
   repeat' first
    | (with_reducible first | refine eT ?_ | refine eN ?_ | refine eS ?_ | refine eXn ?_ | refine eXr ?_ | refine eX ?_ | refine eI ?_ | refine eK ?_ | refine eV0 ?_ | refine aEV ?_ | refine aEY ?_ | refine aES ?_ | refine aEX ?_ | refine aET ?_ | refine aEU ?_)
    | ((with_reducible apply eCn); (simp only [fY, fX]; first | done | (with_reducible exact rfl)))
    | ((with_reducible apply eJ); (rfl))
    | ((with_reducible apply aEW); (first | rfl | (simp only [fY, fX]; rfl)))
    | ((with_reducible apply eB); (first | (with_reducible exact rfl) | (simp (disch := omega) only [qf, r5, c1, c2, c3, p6, p7, p8, cM, bcM, q5, z1, z2, z3]; first | done | (with_reducible exact rfl) | (with_reducible exact ⟨rfl, rfl⟩)) | (simp (disch := omega) only [qa, kI, AV.cells, gF, cU, lP, eQ, iC, kD, Nat.reduceLeDiff, Nat.reduceLT, Nat.reduceAdd, ↓reduceIte, r5, c1, c2, c3, p6, p7, p8, cM, bcM, q5, z1, z2, z3]; first | done | (with_reducible exact rfl) | (with_reducible exact ⟨rfl, rfl⟩))))
    | ((with_reducible apply eR); (simp only [fY, fX]; (with_reducible exact rfl)))
    | ((with_reducible first | refine aHu ?_ ?_ | refine aHz ?_ ?_ | refine aHy ?_ ?_ | refine aHx ?_ ?_ | refine aHw ?_ ?_ | refine aHv ?_ ?_ | refine aHA ?_ ?_ | refine aCJ ?_ ?_ | refine sGd ?_ ?_ | refine aBO ?_ ?_) <;> intro hq <;> try subst hq)
   all_goals (rw [ht1]; refine fP ?_; rfl)
  ·rw [if_neg hin]
   have q5 : aU Tryd.prog .geq 30 false (Un ad) (Un s.mem.length) = some (.bool false) := by rw [kK, decide_eq_false (by omega)]
   have m1 := aMf G t1 wr i.v
   have m2 := aMc t1 ad (by rw [t1m]; omega)
   have m3 := aMe G t1 wr i.v ad (by rw [t1m]; omega)
   by_cases h15 : i.op = 15
   ·rw [if_pos h15]
    have q6 : aU Tryd.prog .eql 3 true (I6 i.op) (.int .i64 15) = some (.bool true) := by rw [jT, decide_eq_true h15]
    obtain ⟨d0, dR⟩ := hi.ok.d (by omega)
    have m4 := idR R i.d d0 (by omega)
    have m5 := aLo t1 wr i.v R i.d (t1.mem.getD ad 0) d0 dR (by rw [t1r]; exact tR)
    have fx := aMP r5 <| aMP c1 <| aMP c2 <| aMP c3 <| aMP p6 <| aMP p7 <| aMP p8 <| aMP cM <| aMP bcM <| aMP q5 <| aMP q6 <| aMP r0' <| aMP r1' <| aMP m1 <| aMP m2 <| aMP m3 <| aMP m4 <| m5
    refine oL ?_
    rw [t1m, ht1, ← eat]; refine fP ?_; rfl
   ·rw [if_neg h15]
    have q6 : aU Tryd.prog .eql 3 true (I6 i.op) (.int .i64 15) = some (.bool false) := by rw [jT, decide_eq_false h15]
    have m5 := aMg t1 wr i.v ad (t.rg i.b) (by rw [t1m]; omega)
    have fx := aMP r5 <| aMP c1 <| aMP c2 <| aMP c3 <| aMP p6 <| aMP p7 <| aMP p8 <| aMP cM <| aMP bcM <| aMP q5 <| aMP q6 <| aMP r0' <| aMP r1' <| aMP m1 <| aMP m2 <| aMP m3 <| m5
    refine oL ?_
    rw [t1m, ht1, ← eat]; refine fP ?_; rfl
 by_cases h2 : i.op = 17 ∨ i.op = 18 ∨ i.op = 19
 ·have hk := hi.ok.k (by omega) (by omega)
  have nk : I6 i.k = Nn i.k.toNat := by show AV.int .i64 i.k = .int .i64 _; congr 1; omega
  rw [nk] at r5
  have e1 : t.step i = (({ t with at_ := t.at_ + 1 } : MS).branch i, true) := by
   rw [e0]
   simp only
   rw [if_neg h1, if_pos h2]
  rw [e1]
  clear e0 e1
  by_cases h17 : i.op = 17
  ·unfold MS.branch
   rw [if_pos h17]
   have fx := aMP r0 <| r5
   refine oL ?_
   refine fP ?_; rfl
  ·unfold MS.branch
   rw [if_neg h17]
   have p6 := aDD G t wr i.v
   have z0 : aU Tryd.prog .eql 30 true (Un (t.rg i.a)) (.int .u64 0) = some (.bool (decide (t.rg i.a = 0))) := by
    rw [jT]; congr 2; simp only [decide_eq_decide]; omega
   have z1 : aU Tryd.prog .eql 3 true (I6 i.op) (.int .i64 18) = some (.bool (decide (i.op = 18))) := jT ..
   have z2 : aU Tryd.prog .eql 4 false (.bool (decide (t.rg i.a = 0))) (.bool (decide (i.op = 18))) = some (.bool (decide (t.rg i.a = 0) == decide (i.op = 18))) := aAk Tryd.underlying4 ..
   have z3 : ∀ b H, bF (cX.f G (k + 3)) [.bool b] H = _ := fun b H => dO (H := H) (aCT G (k + 2) b) rfl rfl
   have rgu : (({ t with at_ := t.at_ + 1 } : MS).rg i.a) = t.rg i.a := rfl
   rw [rgu]
   by_cases hg : (decide (t.rg i.a = 0) == decide (i.op = 18)) = true
   ·rw [if_pos hg]
    rw [hg] at z2
    have z3' := z3 true
    rw [if_pos rfl] at z3'
    have p7 : eE 91 2 (.sl 6 t.leaks.length 0 t.leaks.length 2) (.ro false [.agg [.int .i64 2, .int .i64 1]]) (gA t wr i.v) = _ := aIu t wr i.v (2, 1) (by omega)
    have p8 := aIv t wr i.v (2, 1)
    have r5' : ∀ y, aF G false 1 (.ptr 7 1 0 5) (gA (t.leak 2 y) wr i.v) = some (Nn i.k.toNat) := fun y => by rw [rI5, nk]
    clear z3
    have w18 : aU Tryd.prog .eql 3 true (I6 i.op) (.int .i64 17) = some (.bool false) := by rw [jT, decide_eq_false h17]
    generalize decide (t.rg i.a = 0) = g1 at *
    generalize hg2 : decide (i.op = 18) = g2 at *
    have w19 : g2 = false → aU Tryd.prog .eql 3 true (I6 i.op) (.int .i64 19) = some (.bool true) := fun h => by
     subst h; simp at hg2; rw [jT, decide_eq_true (by omega)]
    cases hgg : g2
    ·rw [hgg] at z1 z2
     have w19 := w19 hgg
     have fx := aMP r0 <| aMP r5' <| aMP p6 <| aMP p7 <| aMP p8 <| aMP z0 <| aMP z1 <| aMP z2 <| aMP z3' <| aMP w18 <| w19
     refine oL ?_
     refine fP ?_; rfl
    ·rw [hgg] at z1 z2
     have fx := aMP r0 <| aMP r5' <| aMP p6 <| aMP p7 <| aMP p8 <| aMP z0 <| aMP z1 <| aMP z2 <| aMP z3' <| w18
     refine oL ?_
     refine fP ?_; rfl
   ·rw [if_neg hg]
    rw [Bool.not_eq_true] at hg
    rw [hg] at z2
    have z3' := z3 false
    rw [if_neg (by decide)] at z3'
    have p7 : eE 91 2 (.sl 6 t.leaks.length 0 t.leaks.length 2) (.ro false [.agg [.int .i64 2, .int .i64 0]]) (gA t wr i.v) = _ := aIu t wr i.v (2, 0) (by omega)
    have p8 := aIv t wr i.v (2, 0)
    clear z3
    have w18 : aU Tryd.prog .eql 3 true (I6 i.op) (.int .i64 17) = some (.bool false) := by rw [jT, decide_eq_false h17]
    generalize decide (t.rg i.a = 0) = g1 at *
    generalize hg2 : decide (i.op = 18) = g2 at *
    have w19 : g2 = false → aU Tryd.prog .eql 3 true (I6 i.op) (.int .i64 19) = some (.bool true) := fun h => by
     subst h; simp at hg2; rw [jT, decide_eq_true (by omega)]
    cases hgg : g2
    ·rw [hgg] at z1 z2
     have w19 := w19 hgg
     have fx := aMP r0 <| aMP p6 <| aMP p7 <| aMP p8 <| aMP z0 <| aMP z1 <| aMP z2 <| aMP z3' <| aMP w18 <| w19
     refine oL ?_
     rw [← eat]; refine fP ?_; rfl
    ·rw [hgg] at z1 z2
     have fx := aMP r0 <| aMP p6 <| aMP p7 <| aMP p8 <| aMP z0 <| aMP z1 <| aMP z2 <| aMP z3' <| w18
     refine oL ?_
     rw [← eat]; refine fP ?_; rfl
 by_cases h3 : i.op = 20
 ·have e1 : t.step i = ({ ({ t with at_ := t.at_ + 1 } : MS) with code := i.k }, false) := by
   rw [e0]
   simp only
   rw [if_neg h1, if_neg h2, if_pos h3]
  rw [e1]
  clear e0 e1
  have z1 := aJu t wr i.v i.k
  have z2 := aLm G { t with code := i.k } wr i.v
  have z3 := aLn { t with code := i.k } wr i.v
  have fx := aMP r0 <| aMP r5 <| aMP z1 <| aMP z2 <| z3
  refine oL ?_
  refine fP ?_; rfl
 ·have hv := aEH (n := i.k) (a := t.rg i.a) (b := t.rg i.b) (c := t.rg i.c) (show 1 ≤ i.op ∧ i.op ≤ 14 by omega) hi.sh
  have e1 : t.step i = (({ t with at_ := t.at_ + 1 } : MS).set i.d (iZ i.op i.k (t.rg i.a) (t.rg i.b) (t.rg i.c)).1, true) := by
   rw [e0]
   simp only
   rw [if_neg h1, if_neg h2, if_neg h3, if_pos hv]
  rw [e1]
  clear e0 e1
  obtain ⟨d0, dR⟩ := hi.ok.d (by omega)
  obtain ⟨c0, cR⟩ := hi.ok.c (by omega)
  have z1 := rI6 G t wr i
  have z2 := rI4 G t wr i
  have z3 := idR R i.c c0 (by omega)
  have z4 := aKg G t wr i.v R i.c c0 (by omega) tR
  have z5 : ∀ H, bF (bS.f G (k + 3)) [i.v, Un (t.rg i.a), Un (t.rg i.b), Un (t.rg i.c)] H = _ := fun H => dO (H := H) (aCI G (k + 1) i.op i.d i.a i.b i.c i.k _ _ _ (tok.rg _) (tok.rg _) (tok.rg _)) rfl rfl
  have z6 := rI1 G t wr i
  have z7 := idR R i.d d0 (by omega)
  have z8 := aLo t wr i.v R i.d (iZ i.op i.k (t.rg i.a) (t.rg i.b) (t.rg i.c)).1 d0 dR tR
  rw [hv] at z5
  generalize (iZ i.op i.k (t.rg i.a) (t.rg i.b) (t.rg i.c)).1 = v at *
  have fx := aMP r0 <| aMP z1 <| aMP z2 <| aMP z3 <| aMP z4 <| aMP z5 <| aMP z6 <| aMP z7 <| z8
  refine oL ?_
  rw [← eat]; refine fP ?_; rfl
end
section
variable (G : aG) (k : Nat) (self : cD) (fuel : Int) (bc bor : Bool) (cs : List WI) (R : Nat) (wr : Int)
theorem aEz (hcl : cs.length ≤ 100000) (hcs : ∀ j, j < cs.length → (cs.getD j default).Ok2 R cs.length) (hf : fuel ≤ 99998) (M : Int) : ∀ (f : Nat) (s s' : MS) (H : aB), iR cs fuel f s = some s' → s.Ok R → (s.steps : Int) ≤ fuel → M = s.mem.length → s.at_ ≤ cs.length → H.take 7 = mF s wr →
  ∃ pc l, cQ (bK.l4 G (k + 3) 7 self) f (qM .nils fuel bc bor cs R M s.at_) H = some (.ret, qM .nils fuel bc bor cs R M pc, xV s' wr l)
 | 0, s, s', H, h, hs, hst, hM, hat, hH => by simp [iR] at h
 | f + 1, s, s', H, h, hs, hst, hM, hat, hH => by
  have few := hs.few
  rw [aY]
  simp only [iR] at h
  by_cases h1 : cs.length ≤ s.at_
  ·rw [if_pos h1] at h
   simp only [Option.some.injEq] at h
   refine ⟨s.at_, [], ?_⟩
   rw [bK.l4]
   have hc := aDH fuel bc bor cs R s wr .nils rfl M s.at_ H hH
   unfold qM at *
   have lc : dN (.ro bor (bO cs)) = some (I6 cs.length) := by simp [dN, fC]
   have q1 : aU Tryd.prog .geq 3 false (Nn s.at_) (I6 cs.length) = some (.bool true) := by rw [kK, decide_eq_true (by omega)]
   have z1 := aJk s wr 3
   have z2 := aLk G { s with code := 3 } wr
   have z3 := aLl { s with code := 3 } wr
   rw [h] at z1 z2 z3
   refine fG ?_
   refine eC hc ?_
   have fx := aMP lc <| aMP q1 <| aMP z1 <| aMP z2 <| z3
   refine oL ?_
   refine fP ?_; rfl
  rw [if_neg h1] at h
  by_cases h2 : (s.steps : Int) = fuel
  ·rw [if_pos h2] at h
   simp only [Option.some.injEq] at h
   refine ⟨s.at_, [], ?_⟩
   rw [bK.l4]
   have hc := aDH fuel bc bor cs R s wr .nils rfl M s.at_ H hH
   unfold qM at *
   have lc : dN (.ro bor (bO cs)) = some (I6 cs.length) := by simp [dN, fC]
   have q1 : aU Tryd.prog .geq 3 false (Nn s.at_) (I6 cs.length) = some (.bool false) := by rw [kK, decide_eq_false (by omega)]
   have q2 : aU Tryd.prog .geq 2 false (Nn s.steps) (I6 fuel) = some (.bool true) := by rw [kK, decide_eq_true (by omega)]
   have p1 := aGO G s wr
   have z1 := aJk s wr 4
   have z2 := aLk G { s with code := 4 } wr
   have z3 := aLl { s with code := 4 } wr
   rw [h] at z1 z2 z3
   refine fG ?_
   refine eC hc ?_
   have fx := aMP lc <| aMP q1 <| aMP q2 <| aMP p1 <| aMP z1 <| aMP z2 <| z3
   refine oL ?_
   refine fP ?_; rfl
  rw [if_neg h2] at h
  have hi := hcs s.at_ (by omega)
  rw [aHp G k self fuel bc bor cs R s wr _ (cs.getD s.at_ default) H hH hs hi hcl (by omega) rfl (by omega) (by omega) M hM]
  have okt : s.tick.Ok R := ⟨hs.len, hs.regs, hs.mem, by have := hs.leaks; simp [MS.tick, MS.leak]; omega, hs.big, by simp [MS.tick, MS.leak]; omega⟩
  obtain ⟨o1, o2, o3, o4⟩ := MS.step_ok okt hi.ok (by have := hs.leaks; simp [MS.tick, MS.leak]; omega) (show s.tick.at_ < cs.length from by show s.at_ < _; omega)
  have tm : s.tick.mem = s.mem := rfl
  have tst : s.tick.steps = s.steps + 1 := rfl
  obtain ⟨s2, b, hsb⟩ : ∃ s2 b, s.tick.step (cs.getD s.at_ default) = (s2, b) := ⟨_, _, rfl⟩
  rw [hsb] at h o1 o2 o3 o4 ⊢
  simp only at h o1 o2 o3 o4
  cases b
  ·simp only [Option.some.injEq] at h
   subst h
   exact ⟨s.at_, _, rfl⟩
  ·exact aEz hcl hcs hf M f s2 s' _ h o1 (by rw [o3, tst]; omega) (by rw [o4, tm]; exact hM) o2 rfl
abbrev aBl : ABlk := ⟨38, 5, [.agg [.int .i64 0, .nils, .nils, .int .i64 0, .int .i64 0]]⟩
def kZ (l : List Nat) : aB := [aBl, ⟨30, 1, []⟩, ⟨30, 1, bU l⟩]
theorem sR (b : Bool) (mem : List Nat) (hml : mem.length ≤ 1000000) : ∀ (suf pre : List Nat) (f : Nat), mem = pre ++ suf → suf.length < f →
  cQ (aX.l3 G k 3 self) f [.ro b (bU mem), .sl 2 pre.length 0 pre.length 1, Nn pre.length] (kZ pre) = some (.exit 0, [.ro b (bU mem), .sl 2 mem.length 0 mem.length 1, Nn mem.length], kZ mem)
 | suf, pre, 0, hm, hf => by omega
 | [], pre, f + 1, hm, hf => by
  rw [aY, aX.l3]
  have hl : mem = pre := by rw [hm]; simp
  have hc : fE 3 [.ro b (bU mem), .sl 2 pre.length 0 pre.length 1, Nn pre.length] (kZ pre) = some (kZ pre) := by
   simp [fE, kZ, bX, bW, dB, gS]
  have lc : dN (.ro b (bU mem)) = some (I6 mem.length) := by simp [dN, eF]
  have q : aU Tryd.prog .lss 3 false (Nn pre.length) (Nn mem.length) = some (.bool false) := by rw [iA, decide_eq_false (by rw [hl]; omega)]
  refine fG ?_
  refine eC hc ?_
  have fx := aMP lc <| q
  refine oL ?_
  rw [hl]
  refine fP ?_; rfl
 | a :: suf, pre, f + 1, hm, hf => by
  rw [aY, aX.l3]
  have hl : mem.length = pre.length + (suf.length + 1) := by rw [hm]; simp
  have hc : fE 3 [.ro b (bU mem), .sl 2 pre.length 0 pre.length 1, Nn pre.length] (kZ pre) = some (kZ pre) := by
   simp [fE, kZ, bX, bW, dB, gS]
  have lc : dN (.ro b (bU mem)) = some (I6 mem.length) := by simp [dN, eF]
  have q : aU Tryd.prog .lss 3 false (Nn pre.length) (Nn mem.length) = some (.bool true) := by rw [iA, decide_eq_true (by omega)]
  have ha : mem.getD pre.length 0 = a := by rw [hm]; simp [List.getD]
  have d1 : aM 1 (.ro b (bU mem)) (Nn pre.length) = some (.rp b (Un a) 0) := by
   have := jO mem pre.length (by omega)
   rw [ha] at this
   exact qR this rfl
  have d2 : ∀ H, aF G false 1 (.rp b (Un a) 0) H = some (Un a) := fun H => rfl
  have d3 : eE 30 1 (.sl 2 pre.length 0 pre.length 1) (.ro false [Un a]) (kZ pre) = some (.sl 2 (pre ++ [a]).length 0 (pre ++ [a]).length 1, kZ (pre ++ [a])) := by
   have e : (kZ pre)[2]? = some ⟨30, 1, bU pre⟩ := rfl
   unfold eE
   simp only [e, gB, eF, List.length_singleton]
   rw [if_pos (by refine ⟨?_, ?_, ?_, ?_, ?_⟩ <;> first | trivial | rfl | omega)]
   have e2 : (bU pre).take pre.length = bU pre := List.take_of_length_le (by rw [eF]; exact Nat.le_refl _)
   have e3 : (bU pre).drop (pre.length + 1) = [] := List.drop_of_length_le (by rw [eF]; omega)
   rw [e2, e3, List.append_nil]
   have e4 : bU pre ++ [Un a] = bU (pre ++ [a]) := by simp [bU]
   rw [e4, eF]; simp [kZ]
  have d4 : aU Tryd.prog .add 3 true (Nn pre.length) (.int .i64 1) = some (Nn (pre ++ [a]).length) := by
   rw [gG, dH (by omega) (by omega)]; congr 2; simp
  have ih := sR b mem hml suf (pre ++ [a]) f (by rw [hm]; simp) (by simp at hf; omega)
  refine fG ?_
  refine eC hc ?_
  have fx := aMP lc <| aMP q <| aMP d1 <| aMP d2 <| aMP d3 <| d4
  refine oL ?_
  exact ih
theorem aBn (b : Bool) (mem : List Nat) (hml : mem.length ≤ 1000000) (hk : mem.length < k) : aX.f G (k + 1) [.ro b (bU mem)] [aBl] = some (.sl 2 mem.length 0 mem.length 1, kZ mem) := by
 rw [aX.step]
 unfold aX.c
 have lc : dN (.ro b (bU mem)) = some (I6 mem.length) := by simp [dN, eF]
 have ms : dX 30 1 (.int .u64 0) (.int .i64 0) (I6 mem.length) [aBl, ⟨30, 1, []⟩] = some (.sl 2 0 0 0 1, kZ []) := by
  unfold dX
  simp only
  rw [if_pos (by omega)]
  rfl
 have lp : cQ (aX.l3 G k 3 (aX.f G k)) k [.ro b (bU mem), .sl 2 0 0 0 1, .int .i64 0] (kZ []) = _ := sR G k (aX.f G k) b mem hml mem [] k rfl hk
 refine gL ?_
 have fx := aMP lc <| ms
 have lx1 := lp
 refine oL ?_
 refine fP ?_; rfl
def mE (s : MS) (wr : Int) : AV := .agg [I6 s.code, .ro false (bU s.mem), .ro false (iO s.leaks), Nn s.steps, I6 wr]
theorem aBm (s : MS) (wr : Int) : gI (mE s wr) = true := by simp [mE, gI, iM, aFY, aIb]
theorem aHj (s : MS) (wr : Int) (l : aB) : kT [aF G true 5 (.ptr 0 1 0 0) (xV s wr l)] ([] : aB).length (xV s wr l) = some (.ret, [mE s wr], []) := by
 have f1 := sY (H := xV s wr l) (b := 2) (n0 := 0) (d := 4) (ty := 30) rfl (by omega) (eF s.mem) (mJ _) (gS 0 _)
 have f2 := sY (H := xV s wr l) (b := 6) (n0 := 0) (d := 4) (ty := 91) rfl (by omega) (lS s.leaks) (aHV _) (sB 0 _)
 have f3 : qY (xV s wr l) 0 6 (tN s wr) = some (mE s wr) :=
  aAB (by simp [bX, bW]) (gJ (nQ rfl 5) (gJ f1 (gJ f2 (gJ (nQ rfl 5) (gJ (nQ rfl 5) pD)))))
 have hl : aF G true 5 (.ptr 0 1 0 0) (xV s wr l) = some (tN s wr) := rfl
 unfold kT
 rw [hl]
 simp only [rD]
 exact aAA f3 rfl
theorem aFu (M : Int) (mem : List Nat) (bm : Bool) (hR : R ≤ 100000) (hm : ∀ x ∈ mem, x < 18446744073709551616) (hml : mem.length ≤ 1000000) (hM : M = mem.length) (h0 : 0 ≤ fuel) (hf : fuel ≤ 99998) (hcl : cs.length ≤ 100000)
  (hcs : ∀ j, j < cs.length → (cs.getD j default).Ok2 R cs.length) (hk : mem.length < k + 2) (s' : MS) (hrun : iR cs fuel (k + 3) (s0 R mem) = some s') :
  bK.f G (k + 4) [cV bor cs R M, .nils, .ro bm (bU mem), I6 fuel] [] = some (mE s' (-1), []) := by
 rw [bK.step]
 unfold bK.c cV
 obtain ⟨pc, l, lp⟩ := aEz G k (bK.f G (k + 3)) fuel false bor cs R (-1) hcl hcs hf M (k + 3) (s0 R mem) s' (mF (s0 R mem) (-1)) hrun (aHt R mem hm hml) (by simp only [s0]; omega) (by simpa [s0] using hM) (by simp [s0]) rfl
 have w1_ : bB (aX.f G (k + 3)) [.ro bm (bU mem)] [aBl] = some (.sl 2 mem.length 0 mem.length 1, [aBl, ⟨30, 1, []⟩, ⟨30, 1, bU mem⟩]) := mN (aBn G (k + 2) bm mem hml hk) (by simp [kZ])
 have q1 : aU Tryd.prog .add 3 true (I6 R) (.int .i64 1) = some (I6 (R + 1 : Nat)) := by
  rw [gG, dH (by omega) (by omega)]; congr 2
 have c5 : dX 30 1 (.int .u64 0) (I6 (R + 1 : Nat)) (I6 (R + 1 : Nat)) [aBl, ⟨30, 1, []⟩, ⟨30, 1, bU mem⟩, ⟨38, 5, [.agg [.int .i64 0, .sl 2 mem.length 0 mem.length 1, .nils, .int .i64 0, .int .i64 (-1)]]⟩] =
   some (.sl 4 (R + 1) 0 (R + 1) 1, [aBl, ⟨30, 1, []⟩, ⟨30, 1, bU mem⟩, ⟨38, 5, [.agg [.int .i64 0, .sl 2 mem.length 0 mem.length 1, .nils, .int .i64 0, .int .i64 (-1)]]⟩, ⟨30, 1, bU (List.replicate R 0 ++ [0])⟩]) := by
  unfold dX
  have : (0 : Int) ≤ (R + 1 : Nat) ∧ ((R + 1 : Nat) : Int) ≤ (R + 1 : Nat) ∧ ((R + 1 : Nat) : Int) ≤ 1099511627776 := by omega
  have e : List.replicate R 0 ++ [0] = List.replicate (R + 1) 0 := by rw [List.replicate_succ']
  rw [e]
  simp only [this, and_self, if_true, Int.toNat_natCast, bU, List.map_replicate]
  rfl
 refine gL ?_
 have fx := aMP w1_ <| aMP q1 <| c5
 refine gE ?_
 refine eV1 (H1 := [⟨38, 5, [.agg [.int .i64 0, .nils, .sl 5 0 0 0 2, .int .i64 0, .int .i64 0]]⟩, ⟨30, 1, []⟩, ⟨30, 1, bU mem⟩, ⟨38, 5, [.agg [.int .i64 0, .sl 2 mem.length 0 mem.length 1, .nils, .int .i64 0, .int .i64 (-1)]]⟩, ⟨30, 1, bU (List.replicate R 0 ++ [0])⟩, ⟨91, 2, []⟩]) rfl ?_
 refine eV1 (H1 := mF (s0 R mem) (-1)) rfl ?_
 refine eV0 ?_
 rw [aJO]
 refine eK ?_
 refine eL lp ?_
 have fx := True.intro
 refine gE ?_
 exact oF (aHj G s' (-1) l)
end
theorem nM (G : aG) (k : Nat) (self : cD) (p q : Bool) (a : List Nat) (hla : a.length ≤ 1000000) : ∀ (suf pre : List Nat) (f : Nat), a = pre ++ suf → suf.length < f →
  cQ (bA.l4 G k 0 self) f [.ro p (bU a), .ro q (bU a), .bool false, Nn pre.length] [] = some (.exit 0, [.ro p (bU a), .ro q (bU a), .bool false, Nn a.length], [])
 | suf, pre, 0, hm, hf => by omega
 | [], pre, f + 1, hm, hf => by
  rw [aY, bA.l4]
  have hl : a = pre := by rw [hm]; simp
  have hc : fE 0 [.ro p (bU a), .ro q (bU a), .bool false, Nn pre.length] [] = some [] := by simp [fE, bX, bW, dB, gS]
  have lc : dN (.ro p (bU a)) = some (I6 a.length) := by simp [dN, eF]
  have qq : aU Tryd.prog .lss 3 false (Nn pre.length) (Nn a.length) = some (.bool false) := by rw [iA, decide_eq_false (by rw [hl]; omega)]
  refine fG ?_
  refine eC hc ?_
  have fx := aMP lc <| qq
  refine oL ?_
  rw [hl]
  refine fP ?_; rfl
 | x :: suf, pre, f + 1, hm, hf => by
  rw [aY, bA.l4]
  have hl : a.length = pre.length + (suf.length + 1) := by rw [hm]; simp
  have hc : fE 0 [.ro p (bU a), .ro q (bU a), .bool false, Nn pre.length] [] = some [] := by simp [fE, bX, bW, dB, gS]
  have lc : dN (.ro p (bU a)) = some (I6 a.length) := by simp [dN, eF]
  have qq : aU Tryd.prog .lss 3 false (Nn pre.length) (Nn a.length) = some (.bool true) := by rw [iA, decide_eq_true (by omega)]
  have ha : a.getD pre.length 0 = x := by rw [hm]; simp [List.getD]
  have d1 : ∀ b, aM 1 (.ro b (bU a)) (Nn pre.length) = some (.rp b (Un x) 0) := fun b => by
   have := jO a pre.length (by omega)
   rw [ha] at this
   exact qR this rfl
  have d2 : ∀ b H, aF G false 1 (.rp b (Un x) 0) H = some (Un x) := fun b H => rfl
  have d4 : aU Tryd.prog .add 3 true (Nn pre.length) (.int .i64 1) = some (Nn (pre ++ [x]).length) := by
   rw [gG, dH (by omega) (by omega)]; congr 2; simp
  have d5 : aU Tryd.prog .eql 30 false (Un x) (Un x) = some (.bool true) := mQ rfl
  have ih := nM G k self p q a hla suf (pre ++ [x]) f (by rw [hm]; simp) (by simp at hf; omega)
  refine fG ?_
  refine eC hc ?_
  have fx := aMP lc <| aMP qq <| aMP d1 <| aMP d2 <| aMP d4 <| d5
  refine oL ?_
  exact ih
theorem tQ (G : aG) (k : Nat) (p q : Bool) (a : List Nat) (hla : a.length ≤ 1000000) (hk : a.length < k) : bA.f G (k + 1) [.ro p (bU a), .ro q (bU a)] [] = some (.bool true, []) := by
 rw [bA.step]
 unfold bA.c
 have lc : ∀ b, dN (.ro b (bU a)) = some (I6 a.length) := fun b => by simp [dN, eF]
 have lp : cQ (bA.l4 G k 0 (bA.f G k)) k [.ro p (bU a), .ro q (bU a), .bool false, .int .i64 0] [] = _ := nM G k (bA.f G k) p q a hla a [] k rfl hk
 refine gL ?_
 have fx := lc
 have lx1 := lp
 refine oL ?_
 exact w1b rfl
theorem aGE {x : AV} {t e : TypeId} (hu : Tryd.prog.underlying t = some (.slice e)) (he : Tryd.prog.underlying e = some (.int .u64)) (h : IsT Tryd.prog t x) :
  ∃ l : List Nat, x = .ro false (bU l) ∧ (∀ n ∈ l, n < 18446744073709551616) := by
 obtain ⟨l, rfl, hw, hl⟩ := h.of_ints hu he
 refine ⟨l.map Int.toNat, ?_, ?_⟩
 ·unfold bU
  rw [List.map_map]
  congr 1
  apply List.map_congr_left
  intro n hn
  obtain ⟨h1, h2⟩ := aHQ (hw n hn)
  show AV.int .u64 n = AV.int .u64 ((n.toNat : Nat) : Int)
  rw [Int.toNat_of_nonneg h1]
 ·intro n hn
  obtain ⟨z, hz, rfl⟩ := List.mem_map.1 hn
  have := aHQ (hw z hz)
  omega
theorem zF (cs : List WI) (fuel : Int) : ∀ (f : Nat) (s s' : MS), iR cs fuel f s = some s' → ∀ d, iR cs fuel (f + d) s = some s'
 | 0, s, s', h, d => by simp [iR] at h
 | f + 1, s, s', h, d => by
  rw [show f + 1 + d = (f + d) + 1 by omega]
  simp only [iR] at h ⊢
  by_cases h1 : cs.length ≤ s.at_
  ·rw [if_pos h1] at h ⊢; exact h
  rw [if_neg h1] at h ⊢
  by_cases h2 : (s.steps : Int) = fuel
  ·rw [if_pos h2] at h ⊢; exact h
  rw [if_neg h2] at h ⊢
  obtain ⟨s2, b, hsb⟩ : ∃ s2 b, s.tick.step (cs.getD s.at_ default) = (s2, b) := ⟨_, _, rfl⟩
  rw [hsb] at h ⊢
  cases b
  ·exact h
  ·exact zF cs fuel f s2 s' h d
theorem aEA (cs : List WI) (fuel : Int) (R : Nat) (hf : fuel ≤ 99999) (hcs : ∀ j, j < cs.length → (cs.getD j default).Ok R cs.length) : ∀ (f : Nat) (s s' : MS), iR cs fuel f s = some s' → s.Ok R → s.at_ ≤ cs.length → (s.steps : Int) ≤ fuel →
  s'.Ok R ∧ (s'.steps : Int) ≤ fuel ∧ s'.mem.length = s.mem.length
 | 0, s, s', h, _, _, _ => by simp [iR] at h
 | f + 1, s, s', h, hs, hat, hst => by
  simp only [iR] at h
  by_cases h1 : cs.length ≤ s.at_
  ·rw [if_pos h1] at h; simp only [Option.some.injEq] at h; subst h
   exact ⟨⟨hs.len, hs.regs, hs.mem, hs.leaks, hs.big, hs.few⟩, hst, rfl⟩
  rw [if_neg h1] at h
  by_cases h2 : (s.steps : Int) = fuel
  ·rw [if_pos h2] at h; simp only [Option.some.injEq] at h; subst h
   exact ⟨⟨hs.len, hs.regs, hs.mem, hs.leaks, hs.big, hs.few⟩, hst, rfl⟩
  rw [if_neg h2] at h
  have okt : s.tick.Ok R := ⟨hs.len, hs.regs, hs.mem, by have := hs.leaks; simp [MS.tick, MS.leak]; omega, hs.big, by simp [MS.tick, MS.leak]; omega⟩
  obtain ⟨o1, o2, o3, o4⟩ := MS.step_ok okt (hcs s.at_ (by omega)) (by have := hs.leaks; simp [MS.tick, MS.leak]; omega) (show s.tick.at_ < cs.length from by show s.at_ < _; omega)
  have tst : s.tick.steps = s.steps + 1 := rfl
  have tm : s.tick.mem = s.mem := rfl
  obtain ⟨s2, b, hsb⟩ : ∃ s2 b, s.tick.step (cs.getD s.at_ default) = (s2, b) := ⟨_, _, rfl⟩
  rw [hsb] at h o1 o2 o3 o4
  simp only at h o1 o2 o3 o4
  cases b
  ·simp only [Option.some.injEq] at h
   subst h
   exact ⟨o1, by rw [o3, tst]; omega, by rw [o4, tm]⟩
  ·obtain ⟨r1, r2, r3⟩ := aEA cs fuel R hf hcs f s2 s' h o1 o2 (by rw [o3, tst]; omega)
   exact ⟨r1, r2, by rw [r3, o4, tm]⟩
theorem aBC {R n : Int} (hR : 0 ≤ R) : ∀ {l : List WI} {j : Nat}, nN R n l j = .ok → ∀ i ∈ l, i.Ok2 R.toNat n.toNat
 | [], _, _, i, hi => by cases hi
 | x :: l, j, h, i, hi => by
  unfold nN at h
  split at h
  ·cases h
  ·rename_i ho
   rcases List.mem_cons.1 hi with rfl | hi
   ·exact aCw ho hR
   ·exact aBC hR h i hi
theorem xJ {cs : List WI} {R M : Int} (h : iL cs R M = .ok) : ∀ j, j < cs.length → (cs.getD j default).Ok2 R.toNat cs.length := by
 obtain ⟨⟨hR0, _⟩, _⟩ := tP h
 unfold iL at h
 by_cases h1 : 262144 < cs.length
 ·rw [if_pos h1] at h; cases h
 rw [if_neg h1] at h
 by_cases h2 : R < 0 ∨ 65536 < R ∨ M < 0 ∨ 65536 < M
 ·rw [if_pos h2] at h; cases h
 rw [if_neg h2] at h
 intro j hj
 have := aBC (by omega) h (cs.getD j default) (by simp [List.getD, List.getElem?_eq_getElem hj])
 rwa [Int.toNat_natCast] at this
structure LY where
 slot : List Nat
 word : List Nat
 M : Nat
def LY.sl (L : LY) (r : Int) : Nat := L.slot.getD r.toNat 0
def LY.wd (L : LY) (r : Int) : Nat := L.word.getD r.toNat 0
def LY.rdC (L : LY) (r into : Int) : List WI := if L.sl r = 0 then [⟨15, into, 0, 0, 0, L.wd r⟩] else []
def LY.rdR (L : LY) (r into : Int) : Int := if L.sl r = 0 then into else L.sl r
def LY.wrR (L : LY) (r : Int) : Int := if L.sl r = 0 then 1 else L.sl r
def LY.wrC (L : LY) (r : Int) : List WI := if L.sl r = 0 then [⟨16, 0, 0, 1, 0, L.wd r⟩] else []
def LY.adC (L : LY) (i : WI) : List WI := L.rdC i.a 1 ++ [⟨1, 2, 0, 0, 0, i.k⟩, ⟨3, 2, L.rdR i.a 1, 2, 0, 0⟩, ⟨1, 3, 0, 0, 0, (L.M : Int)⟩, ⟨13, 3, 2, 3, 0, 0⟩, ⟨18, 0, 3, 0, 0, -1⟩]
def LY.rC (L : LY) (f : Bool) (r into : Int) : List WI := if f = true then L.rdC r into else []
def LY.rR (L : LY) (f : Bool) (r into : Int) : Int := if f = true then L.rdR r into else r
def LY.rds (L : LY) (i : WI) : List WI := L.rC (dC i.op).a i.a 1 ++ (L.rC (dC i.op).b i.b 2 ++ L.rC (dC i.op).c i.c 3)
def LY.ins (L : LY) (i : WI) : WI := ⟨i.op, if (dC i.op).d = true then L.wrR i.d else i.d, L.rR (dC i.op).a i.a 1, L.rR (dC i.op).b i.b 2, L.rR (dC i.op).c i.c 3, i.k⟩
def LY.wrs (L : LY) (i : WI) : List WI := if (dC i.op).d = true then L.wrC i.d else []
def LY.one (L : LY) (i : WI) : List WI :=
 if i.op = 15 then L.adC i ++ ([⟨15, L.wrR i.d, 2, 0, 0, 0⟩] ++ L.wrC i.d)
 else if i.op = 16 then L.adC i ++ (L.rdC i.b 1 ++ [⟨16, 0, 2, L.rdR i.b 1, 0, 0⟩])
 else L.rds i ++ ([L.ins i] ++ L.wrs i)
def LY.flat (L : LY) : List WI → List WI
 | [] => []
 | w :: ws => L.one w ++ L.flat ws
theorem pR (L : LY) : ∀ l m : List WI, L.flat (l ++ m) = L.flat l ++ L.flat m
 | [], m => rfl
 | w :: l, m => by simp only [List.cons_append, LY.flat, pR L l m, List.append_assoc]
def LY.at_ (L : LY) (ws : List WI) (j : Nat) : Nat := (L.flat (ws.take j)).length
def LY.pos (L : LY) (b : Nat) : List WI → List Nat
 | [] => []
 | w :: ws => b :: L.pos (b + (L.one w).length) ws
theorem aAS (L : LY) : ∀ (ws : List WI) (b : Nat), (L.pos b ws).length = ws.length
 | [], b => rfl
 | w :: ws, b => by simp only [LY.pos, List.length_cons, aAS L ws]
theorem aEr (L : LY) : ∀ (ws : List WI) (b j : Nat), j ≤ ws.length → (L.pos b ws ++ [b + (L.flat ws).length]).getD j 0 = b + (L.flat (ws.take j)).length
 | [], b, 0, h => by simp [LY.pos, LY.flat]
 | [], b, j + 1, h => by simp at h
 | w :: ws, b, 0, h => by simp [LY.pos, LY.flat]
 | w :: ws, b, j + 1, h => by
  have h2 := aEr L ws (b + (L.one w).length) j (by simpa using h)
  simp only [LY.pos, LY.flat, List.length_append, List.cons_append, List.getD_cons_succ, List.take_succ_cons]
  rw [show b + ((L.one w).length + (L.flat ws).length) = b + (L.one w).length + (L.flat ws).length by omega, h2]
  omega
def LY.place (L : LY) (ws : List WI) : List Nat := L.pos 0 ws ++ [(L.flat ws).length]
theorem zA (L : LY) (ws : List WI) (j : Nat) (h : j ≤ ws.length) : (L.place ws).getD j 0 = L.at_ ws j := by
 have := aEr L ws 0 j h
 simp only [Nat.zero_add] at this
 exact this
theorem zB (L : LY) (ws : List WI) : (L.place ws).length = ws.length + 1 := by simp [LY.place, aAS]
def jK (P : List Nat) (n : Nat) (i : WI) : WI := if i.op = 17 ∨ i.op = 18 ∨ i.op = 19 then (if i.k = -1 then { i with k := n } else { i with k := (P.getD i.k.toNat 0 : Nat) }) else i
def LY.out (L : LY) (ws : List WI) : List WI := (L.flat ws).map (jK (L.place ws) (L.flat ws).length)
theorem nU (L : LY) (ws : List WI) : (L.out ws).length = (L.flat ws).length := by simp [LY.out]
theorem aDO (ws : List WI) (j : Nat) (h : j < ws.length) : ws = ws.take j ++ ws.getD j default :: ws.drop (j + 1) := by
 have : ws.getD j default = ws[j] := by rw [List.getD_eq_getElem?_getD, List.getElem?_eq_getElem h]; rfl
 rw [this, ← List.drop_eq_getElem_cons h, List.take_append_drop]
theorem aKf (L : LY) (ws : List WI) (j : Nat) (h : j < ws.length) {t : Nat} {i : WI} (ht : (L.one (ws.getD j default))[t]? = some i) : (L.out ws)[L.at_ ws j + t]? = some (jK (L.place ws) (L.out ws).length i) := by
 have e := aDO ws j h
 have e2 : L.flat ws = L.flat (ws.take j) ++ (L.one (ws.getD j default) ++ L.flat (ws.drop (j + 1))) := by
  conv => lhs; rw [e]
  rw [pR]; rfl
 have hl := (List.getElem?_eq_some_iff.1 ht).1
 rw [nU]
 unfold LY.out
 rw [List.getElem?_map]
 have : (L.flat ws)[L.at_ ws j + t]? = some i := by
  rw [e2, List.getElem?_append_right (by unfold LY.at_; omega)]
  have : L.at_ ws j + t - (L.flat (ws.take j)).length = t := by unfold LY.at_; omega
  rw [this, List.getElem?_append_left hl, ht]
 rw [this]; rfl
theorem aAf (L : LY) (ws : List WI) (j : Nat) (h : j < ws.length) : L.at_ ws (j + 1) = L.at_ ws j + (L.one (ws.getD j default)).length := by
 unfold LY.at_
 have : ws.take (j + 1) = ws.take j ++ [ws.getD j default] := by
  rw [List.take_add_one, List.getD_eq_getElem?_getD, List.getElem?_eq_getElem h]; rfl
 rw [this, pR]
 simp [LY.flat]
theorem aJG (L : LY) (ws : List WI) : L.at_ ws ws.length = (L.out ws).length := by rw [nU]; unfold LY.at_; rw [List.take_length]
theorem gX (L : LY) (r into : Int) : (L.rdC r into).length ≤ 1 := by unfold LY.rdC; split <;> simp
theorem aBp (L : LY) (r : Int) : (L.wrC r).length ≤ 1 := by unfold LY.wrC; split <;> simp
theorem lY (L : LY) (f : Bool) (r into : Int) : (L.rC f r into).length ≤ 1 := by
 unfold LY.rC; split
 ·exact gX L r into
 ·simp
theorem aEJ (L : LY) (i : WI) : (L.wrs i).length ≤ 1 := by
 unfold LY.wrs; split
 ·exact aBp L _
 ·simp
theorem aCv (L : LY) (i : WI) : (L.one i).length ≤ 8 := by
 have h1 := gX L i.a 1
 have h2 := gX L i.b 1
 have h3 := aBp L i.d
 have h4 := lY L (dC i.op).a i.a 1
 have h5 := lY L (dC i.op).b i.b 2
 have h6 := lY L (dC i.op).c i.c 3
 have h7 := aEJ L i
 unfold LY.one LY.adC LY.rds
 split
 ·simp; omega
 ·split
  ·simp; omega
  ·simp; omega
theorem pS (L : LY) : ∀ ws : List WI, (L.flat ws).length ≤ 8 * ws.length
 | [] => by simp [LY.flat]
 | w :: ws => by
  have := pS L ws
  have := aCv L w
  simp only [LY.flat, List.length_append, List.length_cons]; omega
theorem aEP (L : LY) (ws : List WI) (j : Nat) : L.at_ ws j ≤ (L.out ws).length := by
 rw [nU]
 unfold LY.at_
 conv => rhs; rw [← List.take_append_drop j ws]
 rw [pR, List.length_append]; omega
theorem aGL (L : LY) (ws : List WI) (j : Nat) : (L.place ws).getD j 0 ≤ (L.out ws).length := by
 by_cases h : j ≤ ws.length
 ·rw [zA L ws j h]; exact aEP L ws j
 ·rw [List.getD_eq_getElem?_getD, List.getElem?_eq_none (by rw [zB]; omega)]; simp
theorem aIB (a : Nat) (h : a < 18446744073709551616) : u64 (pY a) = a := by unfold u64 pY; split <;> omega
theorem aEB (a : Nat) (h : a < 65536) : pY a = a := by unfold pY; rw [if_neg (by omega)]
theorem eO (l : List Nat) (i j x : Nat) (hi : i < l.length) : (l.set i x).getD j 0 = if i = j then x else l.getD j 0 := by
 rw [List.getD_eq_getElem?_getD, List.getD_eq_getElem?_getD, List.getElem?_set]
 by_cases h : i = j
 ·rw [if_pos h, if_pos h, if_pos hi]; rfl
 ·rw [if_neg h, if_neg h]
section
variable {r : List Nat} {p : Nat} {cd : Int} {mem : List Nat} {lk : List (Int × Int)} {st : Nat} {d a b c k op : Int} {y : Nat}
abbrev jB (r : List Nat) (a : Int) : Nat := r.getD a.toNat 0
theorem aHC (ho : 1 ≤ op ∧ op ≤ 14) (hv : (iZ op k (jB r a) (jB r b) (jB r c)).2 = true) : MS.step (MS.tick ⟨r, p, cd, mem, lk, st⟩) ⟨op, d, a, b, c, k⟩ = (⟨r.set d.toNat (iZ op k (jB r a) (jB r b) (jB r c)).1, p + 1, cd, mem, lk ++ [(1, (p : Int))], st + 1⟩, true) := by
 unfold MS.step
 simp only
 rw [if_neg (by omega), if_neg (by omega), if_neg (by omega)]
 exact if_pos hv
theorem aKl (ho : op = 15 ∨ op = 16) (hy : (jB r a + u64 k) % 18446744073709551616 = y) (hm : mem.length ≤ y) : MS.step (MS.tick ⟨r, p, cd, mem, lk, st⟩) ⟨op, d, a, b, c, k⟩ = (⟨r, p + 1, 3, mem, lk ++ [(1, (p : Int))] ++ [(3, pY y)], st + 1⟩, false) := by
 subst hy
 unfold MS.step
 simp only
 rw [if_pos ho]
 unfold MS.touch
 exact if_pos hm
theorem aJy (hy : (jB r a + u64 k) % 18446744073709551616 = y) (hm : y < mem.length) : MS.step (MS.tick ⟨r, p, cd, mem, lk, st⟩) ⟨15, d, a, b, c, k⟩ = (⟨r.set d.toNat (mem.getD y 0), p + 1, cd, mem, lk ++ [(1, (p : Int))] ++ [(3, pY y)], st + 1⟩, true) := by
 subst hy
 unfold MS.step
 simp only
 rw [if_pos (by decide)]
 unfold MS.touch
 exact (if_neg (Nat.not_le.2 hm)).trans (if_pos rfl)
theorem aJz (hy : (jB r a + u64 k) % 18446744073709551616 = y) (hm : y < mem.length) : MS.step (MS.tick ⟨r, p, cd, mem, lk, st⟩) ⟨16, d, a, b, c, k⟩ = (⟨r, p + 1, cd, mem.set y (jB r b), lk ++ [(1, (p : Int))] ++ [(3, pY y)], st + 1⟩, true) := by
 subst hy
 unfold MS.step
 simp only
 rw [if_pos (by decide)]
 unfold MS.touch
 exact (if_neg (Nat.not_le.2 hm)).trans (if_neg (show ¬ (16 : Int) = 15 by decide))
theorem aJw : MS.step (MS.tick ⟨r, p, cd, mem, lk, st⟩) ⟨17, d, a, b, c, k⟩ = (⟨r, k.toNat, cd, mem, lk ++ [(1, (p : Int))], st + 1⟩, true) := by
 unfold MS.step
 simp only
 rw [if_neg (by decide), if_pos (by decide)]
 unfold MS.branch
 rw [if_pos rfl]; rfl
theorem aJx (ho : op = 18 ∨ op = 19) (g : Bool) (hg : (decide (jB r a = 0) == decide (op = 18)) = g) : MS.step (MS.tick ⟨r, p, cd, mem, lk, st⟩) ⟨op, d, a, b, c, k⟩ = (⟨r, if g = true then k.toNat else p + 1, cd, mem, lk ++ [(1, (p : Int))] ++ [(2, if g = true then 1 else 0)], st + 1⟩, true) := by
 unfold MS.step
 simp only
 rw [if_neg (by omega), if_pos (by omega)]
 unfold MS.branch
 have e : (decide (MS.rg { (MS.tick ⟨r, p, cd, mem, lk, st⟩) with at_ := (MS.tick ⟨r, p, cd, mem, lk, st⟩).at_ + 1 } a = 0) == decide (op = 18)) = g := hg
 simp only [e]
 rw [if_neg (by omega)]
 cases g
 ·rfl
 ·rfl
theorem aHB : MS.step (MS.tick ⟨r, p, cd, mem, lk, st⟩) ⟨20, d, a, b, c, k⟩ = (⟨r, p + 1, k, mem, lk ++ [(1, (p : Int))], st + 1⟩, false) := by
 unfold MS.step
 simp only
 rw [if_neg (by decide), if_neg (by decide)]; exact if_pos trivial
end
def At (cs : List WI) (p : Nat) (i : WI) : Prop := cs[p]? = some i
def kC (cs : List WI) (fuel : Int) (q : MS) (m : Nat) (q2 : MS) : Prop := ∀ f, iR cs fuel (f + m) q = iR cs fuel f q2
def aCZ (cs : List WI) (fuel : Int) (q : MS) (m : Nat) (q2 : MS) : Prop := ∀ f, iR cs fuel (f + m) q = some q2
section
variable {cs : List WI} {fuel : Int} {r : List Nat} {p : Nat} {cd : Int} {mem : List Nat} {lk : List (Int × Int)} {st : Nat} {d a b c k op : Int} {y : Nat} {q q2 q3 : MS} {m n : Nat}
theorem kC.refl : kC cs fuel q 0 q := fun f => rfl
theorem kC.trans (h : kC cs fuel q m q2) (h2 : kC cs fuel q2 n q3) : kC cs fuel q (m + n) q3 := fun f => by
 rw [show f + (m + n) = f + n + m by omega, h, h2]
theorem kC.ends (h : kC cs fuel q m q2) (h2 : aCZ cs fuel q2 n q3) : aCZ cs fuel q (m + n) q3 := fun f => by
 rw [show f + (m + n) = f + n + m by omega, h, h2]
theorem At.lt {i : WI} (h : At cs p i) : p < cs.length ∧ cs.getD p default = i := by
 unfold At at h
 refine ⟨(List.getElem?_eq_some_iff.1 h).1, ?_⟩
 rw [List.getD_eq_getElem?_getD, h]; rfl
theorem aBB {i : WI} {s2 : MS} (h : At cs p i) (hs : (st : Int) < fuel) (e : MS.step (MS.tick ⟨r, p, cd, mem, lk, st⟩) i = (s2, true)) : kC cs fuel ⟨r, p, cd, mem, lk, st⟩ 1 s2 :=
 fun f => aIx (s := ⟨r, p, cd, mem, lk, st⟩) h.lt.1 (show ((st : Nat) : Int) ≠ fuel by omega) h.lt.2 e
theorem aHX {i : WI} {s2 : MS} (h : At cs p i) (hs : (st : Int) < fuel) (e : MS.step (MS.tick ⟨r, p, cd, mem, lk, st⟩) i = (s2, false)) : aCZ cs fuel ⟨r, p, cd, mem, lk, st⟩ 1 s2 :=
 fun f => aHq (s := ⟨r, p, cd, mem, lk, st⟩) h.lt.1 (show ((st : Nat) : Int) ≠ fuel by omega) h.lt.2 e
theorem aFQ (h : cs.length ≤ p) : aCZ cs fuel ⟨r, p, cd, mem, lk, st⟩ 1 ⟨r, p, 3, mem, lk, st⟩ := fun f => aHr (s := ⟨r, p, cd, mem, lk, st⟩) h
theorem qO {x : Nat} (h : At cs p ⟨op, d, a, b, c, k⟩) (ho : 1 ≤ op ∧ op ≤ 14) (hv : iZ op k (jB r a) (jB r b) (jB r c) = (x, true)) (hs : (st : Int) < fuel) : kC cs fuel ⟨r, p, cd, mem, lk, st⟩ 1 ⟨r.set d.toNat x, p + 1, cd, mem, lk ++ [(1, (p : Int))], st + 1⟩ := by
 have := aHC (r := r) (p := p) (cd := cd) (mem := mem) (lk := lk) (st := st) (d := d) (a := a) (b := b) (c := c) (k := k) ho (by rw [hv])
 rw [hv] at this
 exact aBB h hs this
theorem aFS (h : At cs p ⟨15, d, a, b, c, k⟩) (hy : (jB r a + u64 k) % 18446744073709551616 = y) (hm : y < mem.length) (hs : (st : Int) < fuel) : kC cs fuel ⟨r, p, cd, mem, lk, st⟩ 1 ⟨r.set d.toNat (mem.getD y 0), p + 1, cd, mem, lk ++ [(1, (p : Int))] ++ [(3, pY y)], st + 1⟩ := aBB h hs (aJy hy hm)
theorem aFT (h : At cs p ⟨16, d, a, b, c, k⟩) (hy : (jB r a + u64 k) % 18446744073709551616 = y) (hm : y < mem.length) (hs : (st : Int) < fuel) : kC cs fuel ⟨r, p, cd, mem, lk, st⟩ 1 ⟨r, p + 1, cd, mem.set y (jB r b), lk ++ [(1, (p : Int))] ++ [(3, pY y)], st + 1⟩ := aBB h hs (aJz hy hm)
theorem aKM (h : At cs p ⟨17, d, a, b, c, k⟩) (hs : (st : Int) < fuel) : kC cs fuel ⟨r, p, cd, mem, lk, st⟩ 1 ⟨r, k.toNat, cd, mem, lk ++ [(1, (p : Int))], st + 1⟩ := aBB h hs aJw
theorem aIS (h : At cs p ⟨op, d, a, b, c, k⟩) (ho : op = 18 ∨ op = 19) (g : Bool) (hg : (decide (jB r a = 0) == decide (op = 18)) = g) (hs : (st : Int) < fuel) : kC cs fuel ⟨r, p, cd, mem, lk, st⟩ 1 ⟨r, if g = true then k.toNat else p + 1, cd, mem, lk ++ [(1, (p : Int))] ++ [(2, if g = true then 1 else 0)], st + 1⟩ := aBB h hs (aJx ho g hg)
theorem aFR (h : At cs p ⟨20, d, a, b, c, k⟩) (hs : (st : Int) < fuel) : aCZ cs fuel ⟨r, p, cd, mem, lk, st⟩ 1 ⟨r, p + 1, k, mem, lk ++ [(1, (p : Int))], st + 1⟩ := aHX h hs aHB
end
theorem aHM (k : Int) (x y z : Nat) : iZ 1 k x y z = (u64 k, true) := by simp [iZ]
theorem aHN (k : Int) (x y z : Nat) : iZ 3 k x y z = ((x + y) % 18446744073709551616, true) := by simp [iZ]
theorem aKp (k : Int) (x y z : Nat) : iZ 5 k x y z = (x * y % 18446744073709551616, true) := by simp [iZ]
theorem aIH (k : Int) (x y z : Nat) : iZ 13 k x y z = (if x < y then 1 else 0, true) := by simp [iZ]
theorem aFD {op : Int} (h : 1 ≤ op ∧ op ≤ 14) (k : Int) {a b c a2 b2 c2 : Nat} (ha : (dC op).a = true → a2 = a) (hb : (dC op).b = true → b2 = b) (hc : (dC op).c = true → c2 = c) : iZ op k a2 b2 c2 = iZ op k a b c := by
 have : op = 1 ∨ op = 2 ∨ op = 3 ∨ op = 4 ∨ op = 5 ∨ op = 6 ∨ op = 7 ∨ op = 8 ∨ op = 9 ∨ op = 10 ∨ op = 11 ∨ op = 12 ∨ op = 13 ∨ op = 14 := by omega
 rcases this with rfl | rfl | rfl | rfl | rfl | rfl | rfl | rfl | rfl | rfl | rfl | rfl | rfl | rfl <;> simp [dC, eH] at ha hb hc <;> simp [iZ, pJ, ha, hb, hc]
structure LY.Ok (L : LY) (R S N : Nat) : Prop where
 s6 : 6 ≤ S
 n : N ≤ 65536
 mn : L.M ≤ N
 sl : ∀ r, r < R → L.slot.getD r 0 ≠ 0 → 4 ≤ L.slot.getD r 0 ∧ L.slot.getD r 0 < S
 wd : ∀ r, r < R → L.slot.getD r 0 = 0 → L.M ≤ L.word.getD r 0 ∧ L.word.getD r 0 < N
 slI : ∀ r t, r < R → t < R → r ≠ t → L.slot.getD r 0 ≠ 0 → L.slot.getD t 0 ≠ L.slot.getD r 0
 wdI : ∀ r t, r < R → t < R → r ≠ t → L.slot.getD r 0 = 0 → L.slot.getD t 0 = 0 → L.word.getD t 0 ≠ L.word.getD r 0
structure RelA (L : LY) (R S N : Nat) (sr sm qr qm : List Nat) : Prop where
 sl : sr.length = R
 ql : qr.length = S
 z : qr.getD 0 0 = 0
 sml : sm.length = L.M
 qml : qm.length = N
 rs : ∀ r, r < R → L.slot.getD r 0 ≠ 0 → qr.getD (L.slot.getD r 0) 0 = sr.getD r 0
 rm : ∀ r, r < R → L.slot.getD r 0 = 0 → qm.getD (L.word.getD r 0) 0 = sr.getD r 0
 mem : ∀ j, j < L.M → qm.getD j 0 = sm.getD j 0
section
variable {L : LY} {R S N : Nat} {sr sm qr qm qr2 : List Nat}
theorem RelA.scr (hL : L.Ok R S N) (h : RelA L R S N sr sm qr qm) (hl : qr2.length = S) (he : ∀ j, j = 0 ∨ 4 ≤ j → qr2.getD j 0 = qr.getD j 0) : RelA L R S N sr sm qr2 qm :=
 ⟨h.sl, hl, by rw [he 0 (.inl rfl)]; exact h.z, h.sml, h.qml, fun r hr h0 => by rw [he _ (.inr (hL.sl r hr h0).1)]; exact h.rs r hr h0, h.rm, h.mem⟩
theorem RelA.set (hL : L.Ok R S N) (h : RelA L R S N sr sm qr qm) {t x : Nat} (ht : 1 ≤ t ∧ t ≤ 3) : RelA L R S N sr sm (qr.set t x) qm := by
 have := hL.s6
 refine h.scr hL (by rw [List.length_set]; exact h.ql) (fun j hj => ?_)
 rw [eO _ _ _ _ (by rw [h.ql]; omega), if_neg (by omega)]
theorem RelA.slot (hL : L.Ok R S N) (h : RelA L R S N sr sm qr qm) {d : Int} (hd : 0 ≤ d ∧ d < R) (h0 : L.sl d ≠ 0) (x : Nat) : RelA L R S N (sr.set d.toNat x) sm (qr.set (L.sl d) x) qm := by
 have hb := hL.sl d.toNat (by omega) h0
 have hlt : L.sl d < qr.length := by rw [h.ql]; exact hb.2
 refine ⟨by rw [List.length_set]; exact h.sl, by rw [List.length_set]; exact h.ql, ?_, h.sml, h.qml, fun r hr hr0 => ?_, fun r hr hr0 => ?_, h.mem⟩
 ·have hb4 : 4 ≤ L.sl d := hb.1
  rw [eO _ _ _ _ hlt, if_neg (by omega)]; exact h.z
 ·rw [eO _ _ _ _ hlt, eO _ _ _ _ (by rw [h.sl]; omega)]
  by_cases e : d.toNat = r
  ·subst e; rw [if_pos (show L.sl d = L.slot.getD d.toNat 0 from rfl), if_pos rfl]
  ·have hne : ¬ L.sl d = L.slot.getD r 0 := hL.slI r d.toNat hr (by omega) (by omega) hr0
   rw [if_neg hne, if_neg e]; exact h.rs r hr hr0
 ·have e : ¬ d.toNat = r := fun e => h0 (by unfold LY.sl; rw [e]; exact hr0)
  rw [eO _ _ _ _ (by rw [h.sl]; omega), if_neg e]; exact h.rm r hr hr0
theorem RelA.word (hL : L.Ok R S N) (h : RelA L R S N sr sm qr qm) {d : Int} (hd : 0 ≤ d ∧ d < R) (h0 : L.sl d = 0) (x : Nat) : RelA L R S N (sr.set d.toNat x) sm qr (qm.set (L.wd d) x) := by
 have hb := hL.wd d.toNat (by omega) h0
 have hlt : L.wd d < qm.length := by rw [h.qml]; exact hb.2
 refine ⟨by rw [List.length_set]; exact h.sl, h.ql, h.z, h.sml, by rw [List.length_set]; exact h.qml, fun r hr hr0 => ?_, fun r hr hr0 => ?_, fun j hj => ?_⟩
 ·have e : ¬ d.toNat = r := fun e => hr0 (by rw [← e]; exact h0)
  rw [eO _ _ _ _ (by rw [h.sl]; omega), if_neg e]; exact h.rs r hr hr0
 ·rw [eO _ _ _ _ hlt, eO _ _ _ _ (by rw [h.sl]; omega)]
  by_cases e : d.toNat = r
  ·subst e; rw [if_pos (show L.wd d = L.word.getD d.toNat 0 from rfl), if_pos rfl]
  ·have hne : ¬ L.wd d = L.word.getD r 0 := hL.wdI r d.toNat hr (by omega) (by omega) hr0 h0
   rw [if_neg hne, if_neg e]; exact h.rm r hr hr0
 ·have hb1 : L.M ≤ L.wd d := hb.1
  rw [eO _ _ _ _ hlt, if_neg (by omega)]; exact h.mem j hj
theorem RelA.store (hL : L.Ok R S N) (h : RelA L R S N sr sm qr qm) {y x : Nat} (hy : y < L.M) : RelA L R S N sr (sm.set y x) qr (qm.set y x) := by
 have hn := hL.mn
 refine ⟨h.sl, h.ql, h.z, by rw [List.length_set]; exact h.sml, by rw [List.length_set]; exact h.qml, h.rs, fun r hr hr0 => ?_, fun j hj => ?_⟩
 ·have hb := hL.wd r hr hr0
  rw [eO _ _ _ _ (by rw [h.qml]; omega), if_neg (by omega)]; exact h.rm r hr hr0
 ·rw [eO _ _ _ _ (by rw [h.qml]; omega), eO _ _ _ _ (by rw [h.sml]; omega), h.mem j hj]
end
def AtC (cs : List WI) (P : List Nat) (p : Nat) (C : List WI) : Prop := ∀ t i, C[t]? = some i → At cs (p + t) (jK P cs.length i)
theorem AtC.left {cs : List WI} {P : List Nat} {p : Nat} {A B : List WI} (h : AtC cs P p (A ++ B)) : AtC cs P p A := fun t i ht => h t i (by
 rw [List.getElem?_append_left (List.getElem?_eq_some_iff.1 ht).1]; exact ht)
theorem AtC.right {cs : List WI} {P : List Nat} {p : Nat} {A B : List WI} (h : AtC cs P p (A ++ B)) : AtC cs P (p + A.length) B := fun t i ht => by
 have := h (A.length + t) i (by rw [List.getElem?_append_right (by omega), show A.length + t - A.length = t by omega]; exact ht)
 rw [show p + A.length + t = p + (A.length + t) by omega]; exact this
theorem AtC.get {cs : List WI} {P : List Nat} {p : Nat} {C : List WI} (h : AtC cs P p C) (t : Nat) {i : WI} (ht : C[t]? = some i) (hb : ¬ (i.op = 17 ∨ i.op = 18 ∨ i.op = 19)) : At cs (p + t) i := by
 have := h t i ht
 unfold jK at this
 rwa [if_neg hb] at this
theorem AtC.head {cs : List WI} {P : List Nat} {p : Nat} {i : WI} {C : List WI} (h : AtC cs P p (i :: C)) (hb : ¬ (i.op = 17 ∨ i.op = 18 ∨ i.op = 19)) : At cs p i := h.get 0 rfl hb
def LY.rdL (L : LY) (p : Nat) (v : Int) : List (Int × Int) := if L.sl v = 0 then [(1, (p : Int)), (3, (L.wd v : Int))] else []
def LY.rL (L : LY) (f : Bool) (p : Nat) (v : Int) : List (Int × Int) := if f = true then L.rdL p v else []
def LY.rdsL (L : LY) (p : Nat) (i : WI) : List (Int × Int) :=
 L.rL (dC i.op).a p i.a ++ (L.rL (dC i.op).b (p + (L.rC (dC i.op).a i.a 1).length) i.b ++ L.rL (dC i.op).c (p + (L.rC (dC i.op).a i.a 1).length + (L.rC (dC i.op).b i.b 2).length) i.c)
def LY.adL (L : LY) (p : Nat) (i : WI) : List (Int × Int) :=
 L.rdL p i.a ++ [(1, ((p + (L.rdC i.a 1).length : Nat) : Int)), (1, ((p + (L.rdC i.a 1).length + 1 : Nat) : Int)), (1, ((p + (L.rdC i.a 1).length + 2 : Nat) : Int)), (1, ((p + (L.rdC i.a 1).length + 3 : Nat) : Int)), (1, ((p + (L.rdC i.a 1).length + 4 : Nat) : Int))]
section
variable {L : LY} {R S N : Nat} {sr sm qr qm : List Nat} {cs : List WI} {P : List Nat} {fuel : Int} {p : Nat} {cd : Int} {lk : List (Int × Int)} {st : Nat}
theorem aHL {n : Nat} (h : n < 65536) : (0 + u64 (n : Int)) % 18446744073709551616 = n := by unfold u64; omega
theorem aGg (hL : L.Ok R S N) (h : RelA L R S N sr sm qr qm) {v into : Int} (hv : 0 ≤ v ∧ v < R) (hi : 1 ≤ into ∧ into ≤ 3) (hA : AtC cs P p (L.rdC v into)) (hs : (st : Int) < fuel) :
  ∃ r2, kC cs fuel ⟨qr, p, cd, qm, lk, st⟩ (L.rdC v into).length ⟨r2, p + (L.rdC v into).length, cd, qm, lk ++ L.rdL p v, st + (L.rdC v into).length⟩ ∧ r2.length = S ∧ (∀ j, j ≠ into.toNat → r2.getD j 0 = qr.getD j 0) ∧ jB r2 (L.rdR v into) = jB sr v := by
 have hs6 := hL.s6
 by_cases h0 : L.sl v = 0
 ·have hb := hL.wd v.toNat (by omega) h0
  have hn := hL.n
  have hw : L.wd v < 65536 := by show L.word.getD v.toNat 0 < 65536; omega
  unfold LY.rdC at hA
  unfold LY.rdC LY.rdL LY.rdR
  rw [if_pos h0] at hA
  simp only [if_pos h0]
  have a0 := hA.head (by show ¬ ((15 : Int) = 17 ∨ (15 : Int) = 18 ∨ (15 : Int) = 19); decide)
  have g := aFS (r := qr) (cd := cd) (mem := qm) (lk := lk) (st := st) (fuel := fuel) (y := L.wd v) a0 (by rw [show jB qr 0 = 0 from h.z]; exact aHL hw) (by rw [h.qml]; exact hb.2) hs
  rw [aEB _ hw, List.append_assoc] at g
  refine ⟨_, g, by rw [List.length_set]; exact h.ql, fun j hj => ?_, ?_⟩
  ·rw [eO _ _ _ _ (by rw [h.ql]; omega), if_neg (by omega)]
  ·show (qr.set into.toNat (qm.getD (L.wd v) 0)).getD into.toNat 0 = _
   rw [eO _ _ _ _ (by rw [h.ql]; omega), if_pos rfl]
   exact h.rm v.toNat (by omega) h0
 ·unfold LY.rdC LY.rdL LY.rdR
  simp only [if_neg h0]
  refine ⟨qr, ?_, h.ql, fun j _ => rfl, ?_⟩
  ·rw [List.append_nil]; exact kC.refl
  ·show qr.getD ((L.sl v : Int)).toNat 0 = _
   rw [Int.toNat_natCast]
   exact h.rs v.toNat (by omega) h0
theorem aDo (hL : L.Ok R S N) (h : RelA L R S N sr sm qr qm) (f : Bool) {v into : Int} (hv : f = true → 0 ≤ v ∧ v < R) (hi : 1 ≤ into ∧ into ≤ 3) (hA : AtC cs P p (L.rC f v into)) (hs : (st : Int) < fuel) :
  ∃ r2, kC cs fuel ⟨qr, p, cd, qm, lk, st⟩ (L.rC f v into).length ⟨r2, p + (L.rC f v into).length, cd, qm, lk ++ L.rL f p v, st + (L.rC f v into).length⟩ ∧ r2.length = S ∧ (∀ j, j ≠ into.toNat → r2.getD j 0 = qr.getD j 0) ∧ (f = true → jB r2 (L.rR f v into) = jB sr v) := by
 cases f with
 | true =>
  obtain ⟨r2, h1, h2, h3, h4⟩ := aGg hL h (hv rfl) hi hA (cd := cd) (lk := lk) hs
  exact ⟨r2, h1, h2, h3, fun _ => h4⟩
 | false =>
  refine ⟨qr, ?_, h.ql, fun j _ => rfl, fun e => by cases e⟩
  show kC cs fuel _ 0 ⟨qr, p, cd, qm, lk ++ [], st⟩
  rw [List.append_nil]; exact kC.refl
theorem aDE (hL : L.Ok R S N) {v into : Int} (hv : 0 ≤ v ∧ v < R) (hi : 0 ≤ into) : (L.rdR v into).toNat = into.toNat ∨ 4 ≤ (L.rdR v into).toNat := by
 unfold LY.rdR
 by_cases h0 : L.sl v = 0
 ·rw [if_pos h0]; exact .inl rfl
 ·rw [if_neg h0, Int.toNat_natCast]; exact .inr (hL.sl v.toNat (by omega) h0).1
theorem aGh (hL : L.Ok R S N) (h : RelA L R S N sr sm qr qm) {i : WI} (ha : (dC i.op).a = true → 0 ≤ i.a ∧ i.a < R) (hb : (dC i.op).b = true → 0 ≤ i.b ∧ i.b < R) (hc : (dC i.op).c = true → 0 ≤ i.c ∧ i.c < R) (hA : AtC cs P p (L.rds i)) (hs : (st : Int) + 3 < fuel) :
  ∃ r2, kC cs fuel ⟨qr, p, cd, qm, lk, st⟩ (L.rds i).length ⟨r2, p + (L.rds i).length, cd, qm, lk ++ L.rdsL p i, st + (L.rds i).length⟩ ∧ RelA L R S N sr sm r2 qm ∧
   ((dC i.op).a = true → jB r2 (L.rR (dC i.op).a i.a 1) = jB sr i.a) ∧ ((dC i.op).b = true → jB r2 (L.rR (dC i.op).b i.b 2) = jB sr i.b) ∧ ((dC i.op).c = true → jB r2 (L.rR (dC i.op).c i.c 3) = jB sr i.c) := by
 unfold LY.rds at hA ⊢
 unfold LY.rdsL
 have la := lY L (dC i.op).a i.a 1
 have lb := lY L (dC i.op).b i.b 2
 obtain ⟨r1, g1, l1, e1, v1⟩ := aDo hL h (dC i.op).a ha (into := 1) (by decide) hA.left (cd := cd) (lk := lk) (st := st) (fuel := fuel) (by omega)
 have h1 : RelA L R S N sr sm r1 qm := h.scr hL l1 (fun j hj => e1 j (by show j ≠ 1; omega))
 obtain ⟨r2, g2, l2, e2, v2⟩ := aDo hL h1 (dC i.op).b hb (into := 2) (by decide) hA.right.left (cd := cd) (lk := lk ++ L.rL (dC i.op).a p i.a) (st := st + (L.rC (dC i.op).a i.a 1).length) (fuel := fuel) (by push_cast; omega)
 have h2 : RelA L R S N sr sm r2 qm := h1.scr hL l2 (fun j hj => e2 j (by show j ≠ 2; omega))
 obtain ⟨r3, g3, l3, e3, v3⟩ := aDo hL h2 (dC i.op).c hc (into := 3) (by decide) hA.right.right (cd := cd) (lk := lk ++ L.rL (dC i.op).a p i.a ++ L.rL (dC i.op).b (p + (L.rC (dC i.op).a i.a 1).length) i.b) (st := st + (L.rC (dC i.op).a i.a 1).length + (L.rC (dC i.op).b i.b 2).length) (fuel := fuel) (by push_cast; omega)
 have h3 : RelA L R S N sr sm r3 qm := h2.scr hL l3 (fun j hj => e3 j (by show j ≠ 3; omega))
 refine ⟨r3, ?_, h3, fun f => ?_, fun f => ?_, v3⟩
 ·have g := (g1.trans g2).trans g3
  simp only [List.length_append, List.append_assoc, Nat.add_assoc] at g ⊢
  exact g
 ·have hx := aDE hL (ha f) (into := 1) (by decide)
  have e : L.rR (dC i.op).a i.a 1 = L.rdR i.a 1 := by unfold LY.rR; rw [if_pos f]
  rw [← v1 f]
  unfold jB
  rw [e, e3 _ (by show _ ≠ 3; have : (1 : Int).toNat = 1 := rfl; omega), e2 _ (by show _ ≠ 2; have : (1 : Int).toNat = 1 := rfl; omega)]
 ·have hx := aDE hL (hb f) (into := 2) (by decide)
  have e : L.rR (dC i.op).b i.b 2 = L.rdR i.b 2 := by unfold LY.rR; rw [if_pos f]
  rw [← v2 f]
  unfold jB
  rw [e, e3 _ (by show _ ≠ 3; have : (2 : Int).toNat = 2 := rfl; omega)]
theorem aJa (hL : L.Ok R S N) (h : RelA L R S N sr sm qr qm) {d : Int} (hd : 0 ≤ d ∧ d < R) (x : Nat) (hA : AtC cs P p (L.wrC d)) (hs : (st : Int) < fuel) :
  ∃ r2 m2, kC cs fuel ⟨qr.set (L.wrR d).toNat x, p, cd, qm, lk, st⟩ (L.wrC d).length ⟨r2, p + (L.wrC d).length, cd, m2, lk ++ L.rdL p d, st + (L.wrC d).length⟩ ∧ RelA L R S N (sr.set d.toNat x) sm r2 m2 := by
 have hs6 := hL.s6
 by_cases h0 : L.sl d = 0
 ·have hb := hL.wd d.toNat (by omega) h0
  have hn := hL.n
  have hw : L.wd d < 65536 := by show L.word.getD d.toNat 0 < 65536; omega
  unfold LY.wrC at hA
  unfold LY.wrC LY.rdL LY.wrR
  rw [if_pos h0] at hA
  simp only [if_pos h0]
  have a0 := hA.head (by show ¬ ((16 : Int) = 17 ∨ (16 : Int) = 18 ∨ (16 : Int) = 19); decide)
  have hz : (qr.set 1 x).getD 0 0 = 0 := by rw [eO _ _ _ _ (by rw [h.ql]; omega), if_neg (by decide)]; exact h.z
  have h1 : (qr.set 1 x).getD 1 0 = x := by rw [eO _ _ _ _ (by rw [h.ql]; omega), if_pos rfl]
  have g := aFT (r := qr.set 1 x) (cd := cd) (mem := qm) (lk := lk) (st := st) (fuel := fuel) (y := L.wd d) a0 (by rw [show jB (qr.set 1 x) 0 = 0 from hz]; exact aHL hw) (by rw [h.qml]; exact hb.2) hs
  rw [aEB _ hw, List.append_assoc, show jB (qr.set 1 x) 1 = x from h1] at g
  exact ⟨_, _, g, (h.set hL (t := 1) (x := x) (by decide)).word hL hd h0 x⟩
 ·unfold LY.wrC LY.rdL LY.wrR
  simp only [if_neg h0]
  refine ⟨_, qm, ?_, h.slot hL hd h0 x⟩
  rw [List.append_nil, Int.toNat_natCast]; exact kC.refl
theorem aCb {P : List Nat} {n : Nat} {a : Int} : jK P n ⟨18, 0, a, 0, 0, -1⟩ = ⟨18, 0, a, 0, 0, (n : Int)⟩ := by
 unfold jK
 rw [if_pos (by show (18 : Int) = 17 ∨ (18 : Int) = 18 ∨ (18 : Int) = 19; decide), if_pos rfl]
theorem uY (L : LY) (i : WI) : (L.adC i).length = (L.rdC i.a 1).length + 5 := by simp [LY.adC]
theorem aKU (hL : L.Ok R S N) (h : RelA L R S N sr sm qr qm) {i : WI} (ha : 0 ≤ i.a ∧ i.a < R) (hA : AtC cs P p (L.adC i)) (hs : (st : Int) + 6 < fuel) (g : Bool) (hg : decide (L.M ≤ (jB sr i.a + u64 i.k) % 18446744073709551616) = g) :
  ∃ r2, kC cs fuel ⟨qr, p, cd, qm, lk, st⟩ (L.adC i).length ⟨r2, if g = true then cs.length else p + (L.adC i).length, cd, qm, lk ++ (L.adL p i ++ [(2, if g = true then 1 else 0)]), st + (L.adC i).length⟩ ∧ RelA L R S N sr sm r2 qm ∧ jB r2 2 = (jB sr i.a + u64 i.k) % 18446744073709551616 := by
 have hs6 := hL.s6
 have lr := gX L i.a 1
 rw [uY]
 unfold LY.adC at hA
 unfold LY.adL
 obtain ⟨r1, g1, l1, e1, v1⟩ := aGg hL h ha (into := 1) (by decide) hA.left (cd := cd) (lk := lk) (st := st) (fuel := fuel) (by omega)
 have h1 : RelA L R S N sr sm r1 qm := h.scr hL l1 (fun j hj => e1 j (by show j ≠ 1; omega))
 have hB := hA.right
 generalize (L.rdC i.a 1).length = n at *
 have hx := aDE hL ha (into := 1) (by decide)
 generalize hrd : L.rdR i.a 1 = ra at *
 have hxa : ra.toNat ≠ 2 := by have : (1 : Int).toNat = 1 := rfl; omega
 have n17 : ∀ {o : Int}, o = 1 ∨ o = 3 ∨ o = 13 → ¬ (o = 17 ∨ o = 18 ∨ o = 19) := by omega
 have a0 := hB.get 0 (i := ⟨1, 2, 0, 0, 0, i.k⟩) rfl (n17 (.inl rfl))
 have a1 := hB.get 1 (i := ⟨3, 2, ra, 2, 0, 0⟩) rfl (n17 (.inr (.inl rfl)))
 have a2 := hB.get 2 (i := ⟨1, 3, 0, 0, 0, (L.M : Int)⟩) rfl (n17 (.inl rfl))
 have a3 := hB.get 3 (i := ⟨13, 3, 2, 3, 0, 0⟩) rfl (n17 (.inr (.inr rfl)))
 have a4 := hB 4 ⟨18, 0, 3, 0, 0, -1⟩ rfl
 rw [aCb] at a4
 have hln : ∀ (r : List Nat) (t x : Nat), r.length = S → (r.set t x).length = S := fun r t x hr => by rw [List.length_set]; exact hr
 have gs : ∀ (r : List Nat) (t j x : Nat), r.length = S → t ≤ 3 → (r.set t x).getD j 0 = if t = j then x else r.getD j 0 := fun r t j x hr ht => eO _ _ _ _ (by omega)
 have t2 : (2 : Int).toNat = 2 := rfl
 have t3 : (3 : Int).toNat = 3 := rfl
 have s1 := qO (r := r1) (cd := cd) (mem := qm) (lk := lk ++ L.rdL p i.a) (st := st + n) (fuel := fuel) a0 (by decide) (aHM _ _ _ _) (by push_cast; omega)
 obtain ⟨r2, hr2⟩ : ∃ r2, r2 = r1.set (2 : Int).toNat (u64 i.k) := ⟨_, rfl⟩
 rw [← hr2] at s1
 have l2 : r2.length = S := by rw [hr2]; exact hln _ _ _ l1
 have x2 : jB r2 2 = u64 i.k := by rw [hr2, t2]; exact (gs _ _ _ _ l1 (by decide)).trans (if_pos rfl)
 have xa : jB r2 ra = jB sr i.a := by
  rw [hr2, t2]; exact ((gs _ _ _ _ l1 (by decide)).trans (if_neg (Ne.symm hxa))).trans v1
 have h2 : RelA L R S N sr sm r2 qm := by rw [hr2]; exact h1.set hL (by decide)
 have s2 := qO (r := r2) (cd := cd) (mem := qm) (lk := lk ++ L.rdL p i.a ++ [(1, ((p + n + 0 : Nat) : Int))]) (st := st + n + 1) (fuel := fuel) a1 (by show (1 : Int) ≤ 3 ∧ (3 : Int) ≤ 14; decide) (aHN _ _ _ _) (by push_cast; omega)
 rw [xa, x2] at s2
 generalize (jB sr i.a + u64 i.k) % 18446744073709551616 = ad at *
 obtain ⟨r3, hr3⟩ : ∃ r3, r3 = r2.set (2 : Int).toNat ad := ⟨_, rfl⟩
 rw [← hr3] at s2
 have l3 : r3.length = S := by rw [hr3]; exact hln _ _ _ l2
 have h3 : RelA L R S N sr sm r3 qm := by rw [hr3]; exact h2.set hL (by decide)
 have x3 : jB r3 2 = ad := by rw [hr3, t2]; exact (gs _ _ _ _ l2 (by decide)).trans (if_pos rfl)
 have s3 := qO (r := r3) (cd := cd) (mem := qm) (lk := lk ++ L.rdL p i.a ++ [(1, ((p + n + 0 : Nat) : Int))] ++ [(1, ((p + n + 1 : Nat) : Int))]) (st := st + n + 1 + 1) (fuel := fuel) a2 (by decide) (aHM _ _ _ _) (by push_cast; omega)
 have eM : u64 (L.M : Int) = L.M := aBj _ (by have := hL.mn; have := hL.n; omega)
 rw [eM] at s3
 obtain ⟨r4, hr4⟩ : ∃ r4, r4 = r3.set (3 : Int).toNat L.M := ⟨_, rfl⟩
 rw [← hr4] at s3
 have l4 : r4.length = S := by rw [hr4]; exact hln _ _ _ l3
 have h4 : RelA L R S N sr sm r4 qm := by rw [hr4]; exact h3.set hL (by decide)
 have x4 : jB r4 2 = ad := by rw [hr4, t3]; exact ((gs _ _ _ _ l3 (by decide)).trans (if_neg (by decide))).trans x3
 have y4 : jB r4 3 = L.M := by rw [hr4, t3]; exact (gs _ _ _ _ l3 (by decide)).trans (if_pos rfl)
 have s4 := qO (r := r4) (cd := cd) (mem := qm) (lk := lk ++ L.rdL p i.a ++ [(1, ((p + n + 0 : Nat) : Int))] ++ [(1, ((p + n + 1 : Nat) : Int))] ++ [(1, ((p + n + 2 : Nat) : Int))]) (st := st + n + 1 + 1 + 1) (fuel := fuel) a3 (by show (1 : Int) ≤ 13 ∧ (13 : Int) ≤ 14; decide) (aIH _ _ _ _) (by push_cast; omega)
 rw [x4, y4] at s4
 obtain ⟨r5, hr5⟩ : ∃ r5, r5 = r4.set (3 : Int).toNat (if ad < L.M then 1 else 0) := ⟨_, rfl⟩
 rw [← hr5] at s4
 have l5 : r5.length = S := by rw [hr5]; exact hln _ _ _ l4
 have h5 : RelA L R S N sr sm r5 qm := by rw [hr5]; exact h4.set hL (by decide)
 have x5 : jB r5 2 = ad := by rw [hr5, t3]; exact ((gs _ _ _ _ l4 (by decide)).trans (if_neg (by decide))).trans x4
 have y5 : jB r5 3 = if ad < L.M then 1 else 0 := by rw [hr5, t3]; exact (gs _ _ _ _ l4 (by decide)).trans (if_pos rfl)
 have s5 := aIS (r := r5) (cd := cd) (mem := qm) (lk := lk ++ L.rdL p i.a ++ [(1, ((p + n + 0 : Nat) : Int))] ++ [(1, ((p + n + 1 : Nat) : Int))] ++ [(1, ((p + n + 2 : Nat) : Int))] ++ [(1, ((p + n + 3 : Nat) : Int))]) (st := st + n + 1 + 1 + 1 + 1) (fuel := fuel) a4 (.inl rfl) g (by
  rw [y5, ← hg]
  by_cases hlt : ad < L.M
  ·rw [if_pos hlt, decide_eq_false (show ¬ L.M ≤ ad by omega)]; decide
  ·rw [if_neg hlt, decide_eq_true (show L.M ≤ ad by omega)]; decide) (by push_cast; omega)
 refine ⟨r5, ?_, h5, x5⟩
 have G := ((((g1.trans s1).trans s2).trans s3).trans s4).trans s5
 rw [Int.toNat_natCast] at G
 simp only [List.append_assoc, Nat.add_assoc, List.cons_append, List.nil_append, Nat.add_zero, Nat.zero_add, Nat.reduceAdd] at G ⊢
 exact G
end
end Go.Proofs.YtlkgkfgkiidhdaaDoor.Mir
