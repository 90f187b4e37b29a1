/- Part 12 of the proof: what these functions do. -/
import Derived.Test.YtdfglgnflldkpaaDoorVe11
import Derived.KernelRfl
namespace Go.Proofs.YtdfglgnflldkpaaDoor.Mir
open Go
set_option linter.unusedSimpArgs false
set_option linter.unusedVariables false
set_option maxHeartbeats 8000000
set_option maxRecDepth 20000
def ro (e : Nat) : Nat := if e = 0 then 0 else if e = 1 then 5 else if e = 2 then 1 else if e = 3 then 3 else if e = 4 then 2 else 4
structure Frm where
 d : Bool
 a : Bool
 b : Bool
 c : Bool
 k : Bool
def kF (op : Int) : Option Frm :=
 if op = 1 then some ⟨true, false, false, false, true⟩
 else if op = 2 then some ⟨true, true, false, false, false⟩
 else if (3 ≤ op ∧ op ≤ 9) ∨ op = 13 then some ⟨true, true, true, false, false⟩
 else if (10 ≤ op ∧ op ≤ 12) ∨ op = 15 then some ⟨true, true, false, false, true⟩
 else if op = 14 then some ⟨true, true, true, true, false⟩
 else if op = 16 then some ⟨false, true, true, false, true⟩
 else if op = 17 ∨ op = 20 then some ⟨false, false, false, false, true⟩
 else if op = 18 ∨ op = 19 then some ⟨false, true, false, false, true⟩
 else none
def gT (op : Int) : ByteArray :=
 if op = 1 then ⟨#[99, 111, 110, 115, 116]⟩ else if op = 2 then ⟨#[109, 111, 118]⟩ else if op = 3 then ⟨#[97, 100, 100]⟩ else if op = 4 then ⟨#[115, 117, 98]⟩ else if op = 5 then ⟨#[109, 117, 108]⟩
 else if op = 6 then ⟨#[104, 105, 103, 104]⟩ else if op = 7 then ⟨#[97, 110, 100]⟩ else if op = 8 then ⟨#[111, 114]⟩ else if op = 9 then ⟨#[120, 111, 114]⟩ else if op = 10 then ⟨#[115, 104, 108]⟩
 else if op = 11 then ⟨#[115, 104, 114]⟩ else if op = 12 then ⟨#[115, 97, 114]⟩ else if op = 13 then ⟨#[108, 101, 115, 115]⟩ else if op = 14 then ⟨#[115, 101, 108]⟩ else if op = 15 then ⟨#[108, 100]⟩
 else if op = 16 then ⟨#[115, 116]⟩ else if op = 17 then ⟨#[98, 114]⟩ else if op = 18 then ⟨#[98, 122]⟩ else if op = 19 then ⟨#[98, 110, 122]⟩ else if op = 20 then ⟨#[104, 97, 108, 116]⟩ else ⟨#[110, 111, 110, 101]⟩
def lU (w : ByteArray) (f : Frm) : AV := .agg [.str w, .bool f.d, .bool f.a, .bool f.b, .bool f.c, .bool f.k]
def mC (op : Int) : Frm := match kF op with | some f => f | none => ⟨false, false, false, false, false⟩
theorem aDQ {op : Int} (h : 1 ≤ op ∧ op ≤ 20) : op = 1 ∨ op = 2 ∨ op = 3 ∨ op = 4 ∨ op = 5 ∨ op = 6 ∨ op = 7 ∨ op = 8 ∨ op = 9 ∨ op = 10 ∨ op = 11 ∨ op = 12 ∨ op = 13 ∨ op = 14 ∨ op = 15 ∨ op = 16 ∨ op = 17 ∨ op = 18 ∨ op = 19 ∨ op = 20 := by omega
theorem oC {op : Int} (h : ¬ (1 ≤ op ∧ op ≤ 20)) : kF op = none := by
 unfold kF
 repeat rw [if_neg (by omega)]
theorem aFD {op : Int} (h : ¬ (1 ≤ op ∧ op ≤ 20)) : gT op = ⟨#[110, 111, 110, 101]⟩ := by
 unfold gT
 repeat rw [if_neg (by omega)]
theorem aHx (G : aG) (k : Nat) (op : Int) : gU.f G (k + 4) [I6 op] [] = some (.tup [lU (gT op) (mC op), .bool (kF op).isSome], []) := by
 by_cases h : 1 ≤ op ∧ op ≤ 20
 ·rcases aDQ h with rfl | rfl | rfl | rfl | rfl | rfl | rfl | rfl | rfl | rfl | rfl | rfl | rfl | rfl | rfl | rfl | rfl | rfl | rfl | rfl <;> kernel_rfl
 ·rw [gU.step]
  unfold gU.c
  unfold mC
  rw [oC h, aFD h]
  refine eZ ?_
  have fx := True.intro
  refine gM ?_
  refine iA ?_
  rfl
def bsV (f : Frm) : AV := .ro false [.bool f.d, .bool f.a, .bool f.b, .bool f.c, .bool f.k]
def isV (i : WI) : AV := .ro false [I6 i.d, I6 i.a, I6 i.b, I6 i.c, I6 i.k]
theorem aHR (G : aG) (k : Nat) (i : WI) (w : ByteArray) (f : Frm) : gZ.f G (k + 1) [i.v, lU w f] [] = some (.tup [bsV f, isV i], []) := by kernel_rfl
abbrev eV (g : Nat) : AV := .iface 180 (.gp (ro g))
def nW (is : Bool) (r R : Int) : Bool := is && (decide (r < 0) || decide (R ≤ r))
section
variable (G : aG) (k : Nat) (self : cN) (c1 : AV) (R : Int) (hR0 : 0 ≤ R)
abbrev bxC (cv : AV) (R M : Int) : AV := .rp false (.agg [cv, I6 R, I6 M]) 0
abbrev xs6 (cv : AV) (R M : Int) (i : WI) (f : Frm) (j : Int) : List AV := [bxC cv R M, .rp false i.v 0, .nili, bsV f, isV i, I6 j]
theorem tV {bor : Bool} {xs : List AV} {k' : IntKind} {j : Nat} {y : AV} (h : xs[j]? = some y) (h1 : y.cells.length = 1) : cJ 1 (.ro bor xs) (.int k' (j : Int)) = some (.rp bor y 0) := by
 unfold cJ
 simp [h, h1]
theorem aMa {b bor : Bool} {H : aF} : aC G false 1 (.rp bor (.bool b) 0) H = some (.bool b) := rfl
theorem aLY {n : Int} {bor : Bool} {H : aF} : aC G false 1 (.rp bor (I6 n) 0) H = some (I6 n) := rfl
theorem wH (cv : AV) (M : Int) (i : WI) (f : Frm) (j : Nat) (hj : j < 4) (t : Bool) (p : Int) (ht : [AV.bool f.d, .bool f.a, .bool f.b, .bool f.c, .bool f.k][j]? = some (.bool t)) (hp : [I6 i.d, I6 i.a, I6 i.b, I6 i.c, I6 i.k][j]? = some (I6 p))
  (hG : G 1 = some (eV 2)) (hcl : cG 0 cv = true) (n : Nat) :
  gV (dW.l6 G k 1 self) (n + 1) (xs6 cv R M i f j) [⟨163, 6, [lU (gT i.op) f]⟩] =
   if nW t p R = true then some (.ret, [bxC cv R M, .rp false i.v 0, eV 2, bsV f, isV i, I6 j], [⟨163, 6, [lU (gT i.op) f]⟩])
   else gV (dW.l6 G k 1 self) n (xs6 cv R M i f (j + 1 : Nat)) [⟨163, 6, [lU (gT i.op) f]⟩] := by
 rw [fJ, dW.l6]
 have hc : iR 1 (xs6 cv R M i f j) [⟨163, 6, [lU (gT i.op) f]⟩] = some [⟨163, 6, [lU (gT i.op) f]⟩] := by
  have := lE (Nat.zero_le 1) hcl
  simp [iR, dH, cG, dY, this, bsV, isV, WI.v, lU]
 have d1 : cJ 1 (bsV f) (I6 j) = some (.rp false (.bool t) 0) := tV ht rfl
 have d2 : cJ 1 (isV i) (I6 j) = some (.rp false (I6 p) 0) := tV hp rfl
 have l1 := fun (b bor : Bool) (H : aF) => @aMa G b bor H
 have l2 := fun (n : Int) (bor : Bool) (H : aF) => @aLY G n bor H
 have l3 : ∀ H, aC G false 1 (.gl 1) H = some (eV 2) := fun H => hG
 refine jT ?_
 refine eC hc ?_
 cases t
 ·rw [show nW false p R = false from rfl, if_neg (by simp)]
  have fx := aPQ d1 <| aPQ d2 <| aPQ l1 <| l2
  refine gM ?_
  rfl
 ·by_cases ho : p < 0 ∨ R ≤ p
  ·have e : nW true p R = true := by unfold nW; rcases ho with h | h <;> simp [h]
   rw [if_pos e]
   have fx := aPQ d1 <| aPQ d2 <| aPQ l1 <| aPQ l2 <| l3
   refine gM ?_
   rfl
  ·have e : nW true p R = false := by unfold nW; simp; omega
   rw [if_neg (by simp [e])]
   have fx := aPQ d1 <| aPQ d2 <| aPQ l1 <| aPQ l2 <| l3
   refine gM ?_
   rfl
theorem aMY (cv : AV) (M : Int) (i : WI) (f : Frm) (hcl : cG 0 cv = true) (n : Nat) :
  gV (dW.l6 G k 1 self) (n + 1) (xs6 cv R M i f (4 : Nat)) [⟨163, 6, [lU (gT i.op) f]⟩] = some (.exit 0, xs6 cv R M i f (4 : Nat), [⟨163, 6, [lU (gT i.op) f]⟩]) := by
 rw [fJ, dW.l6]
 have hc : iR 1 (xs6 cv R M i f (4 : Nat)) [⟨163, 6, [lU (gT i.op) f]⟩] = some [⟨163, 6, [lU (gT i.op) f]⟩] := by
  have := lE (Nat.zero_le 1) hcl
  simp [iR, dH, cG, dY, this, bsV, isV, WI.v, lU]
 refine jT ?_
 refine eC hc ?_
 have fx := True.intro
 refine gM ?_
 rfl
def vQ (f : Frm) (i : WI) (R : Int) : Bool := nW f.d i.d R || nW f.a i.a R || nW f.b i.b R || nW f.c i.c R
def vO (f : Frm) (i : WI) : Bool := (!f.d && decide (i.d ≠ 0)) || (!f.a && decide (i.a ≠ 0)) || (!f.b && decide (i.b ≠ 0)) || (!f.c && decide (i.c ≠ 0)) || (!f.k && decide (i.k ≠ 0))
theorem aMm (cv : AV) (M : Int) (i : WI) (f : Frm) (hG : G 1 = some (eV 2)) (hcl : cG 0 cv = true) (n : Nat) :
  (vQ f i R = true → ∃ j, gV (dW.l6 G k 1 self) (n + 5) (xs6 cv R M i f (0 : Nat)) [⟨163, 6, [lU (gT i.op) f]⟩] = some (.ret, [bxC cv R M, .rp false i.v 0, eV 2, bsV f, isV i, j], [⟨163, 6, [lU (gT i.op) f]⟩])) ∧
  (vQ f i R = false → gV (dW.l6 G k 1 self) (n + 5) (xs6 cv R M i f (0 : Nat)) [⟨163, 6, [lU (gT i.op) f]⟩] = some (.exit 0, xs6 cv R M i f (4 : Nat), [⟨163, 6, [lU (gT i.op) f]⟩])) := by
 rw [wH G k self R cv M i f 0 (by omega) f.d i.d rfl rfl hG hcl]
 rw [wH G k self R cv M i f 1 (by omega) f.a i.a rfl rfl hG hcl]
 rw [wH G k self R cv M i f 2 (by omega) f.b i.b rfl rfl hG hcl]
 rw [wH G k self R cv M i f 3 (by omega) f.c i.c rfl rfl hG hcl]
 rw [aMY G k self R cv M i f hcl]
 unfold vQ
 generalize nW f.d i.d R = o1
 generalize nW f.a i.a R = o2
 generalize nW f.b i.b R = o3
 generalize nW f.c i.c R = o4
 cases o1 <;> cases o2 <;> cases o3 <;> cases o4 <;> simp
abbrev aCn (cv : AV) (R M : Int) (i : WI) (f : Frm) (j : Int) : List AV := [bxC cv R M, .rp false i.v 0, .nili, isV i, bsV f, .int .i64 5, I6 j]
theorem qB (cv : AV) (M : Int) (i : WI) (f : Frm) (j : Nat) (hj : j < 5) (t : Bool) (p : Int) (ht : [AV.bool f.d, .bool f.a, .bool f.b, .bool f.c, .bool f.k][j]? = some (.bool t)) (hp : [I6 i.d, I6 i.a, I6 i.b, I6 i.c, I6 i.k][j]? = some (I6 p))
  (hG : G 3 = some (eV 3)) (hcl : cG 0 cv = true) (n : Nat) :
  gV (dW.l12 G k 1 self) (n + 1) (aCn cv R M i f j) [⟨163, 6, [lU (gT i.op) f]⟩] =
   if (!t && decide (p ≠ 0)) = true then some (.ret, [bxC cv R M, .rp false i.v 0, eV 3, isV i, bsV f, .int .i64 5, I6 j], [⟨163, 6, [lU (gT i.op) f]⟩])
   else gV (dW.l12 G k 1 self) n (aCn cv R M i f (j + 1 : Nat)) [⟨163, 6, [lU (gT i.op) f]⟩] := by
 rw [fJ, dW.l12]
 have hc : iR 1 (aCn cv R M i f j) [⟨163, 6, [lU (gT i.op) f]⟩] = some [⟨163, 6, [lU (gT i.op) f]⟩] := by
  have := lE (Nat.zero_le 1) hcl
  simp [iR, dH, cG, dY, this, bsV, isV, WI.v, lU]
 have d1 : cJ 1 (bsV f) (I6 j) = some (.rp false (.bool t) 0) := tV ht rfl
 have d2 : cJ 1 (isV i) (I6 j) = some (.rp false (I6 p) 0) := tV hp rfl
 have l1 := fun (b bor : Bool) (H : aF) => @aMa G b bor H
 have l2 := fun (n : Int) (bor : Bool) (H : aF) => @aLY G n bor H
 have l3 : ∀ H, aC G false 1 (.gl 3) H = some (eV 3) := fun H => hG
 refine jT ?_
 refine eC hc ?_
 cases t
 ·by_cases ho : p ≠ 0
  ·rw [if_pos (by simp [ho])]
   have fx := aPQ d1 <| aPQ d2 <| aPQ l1 <| aPQ l2 <| l3
   refine gM ?_
   rfl
  ·rw [if_neg (by simp [ho])]
   have fx := aPQ d1 <| aPQ d2 <| aPQ l1 <| aPQ l2 <| l3
   refine gM ?_
   rfl
 ·rw [if_neg (by simp)]
  have fx := aPQ d1 <| aPQ d2 <| aPQ l1 <| l2
  refine gM ?_
  rfl
theorem aKP (cv : AV) (M : Int) (i : WI) (f : Frm) (hcl : cG 0 cv = true) (n : Nat) :
  gV (dW.l12 G k 1 self) (n + 1) (aCn cv R M i f (5 : Nat)) [⟨163, 6, [lU (gT i.op) f]⟩] = some (.exit 2, aCn cv R M i f (5 : Nat), [⟨163, 6, [lU (gT i.op) f]⟩]) := by
 rw [fJ, dW.l12]
 have hc : iR 1 (aCn cv R M i f (5 : Nat)) [⟨163, 6, [lU (gT i.op) f]⟩] = some [⟨163, 6, [lU (gT i.op) f]⟩] := by
  have := lE (Nat.zero_le 1) hcl
  simp [iR, dH, cG, dY, this, bsV, isV, WI.v, lU]
 refine jT ?_
 refine eC hc ?_
 have fx := True.intro
 refine gM ?_
 rfl
theorem aLp (cv : AV) (M : Int) (i : WI) (f : Frm) (hG : G 3 = some (eV 3)) (hcl : cG 0 cv = true) (n : Nat) :
  (vO f i = true → ∃ j, gV (dW.l12 G k 1 self) (n + 6) (aCn cv R M i f (0 : Nat)) [⟨163, 6, [lU (gT i.op) f]⟩] = some (.ret, [bxC cv R M, .rp false i.v 0, eV 3, isV i, bsV f, .int .i64 5, j], [⟨163, 6, [lU (gT i.op) f]⟩])) ∧
  (vO f i = false → gV (dW.l12 G k 1 self) (n + 6) (aCn cv R M i f (0 : Nat)) [⟨163, 6, [lU (gT i.op) f]⟩] = some (.exit 2, aCn cv R M i f (5 : Nat), [⟨163, 6, [lU (gT i.op) f]⟩])) := by
 rw [qB G k self R cv M i f 0 (by omega) f.d i.d rfl rfl hG hcl]
 rw [qB G k self R cv M i f 1 (by omega) f.a i.a rfl rfl hG hcl]
 rw [qB G k self R cv M i f 2 (by omega) f.b i.b rfl rfl hG hcl]
 rw [qB G k self R cv M i f 3 (by omega) f.c i.c rfl rfl hG hcl]
 rw [qB G k self R cv M i f 4 (by omega) f.k i.k rfl rfl hG hcl]
 rw [aKP G k self R cv M i f hcl]
 unfold vO
 generalize (!f.d && decide (i.d ≠ 0)) = o1
 generalize (!f.a && decide (i.a ≠ 0)) = o2
 generalize (!f.b && decide (i.b ≠ 0)) = o3
 generalize (!f.c && decide (i.c ≠ 0)) = o4
 generalize (!f.k && decide (i.k ≠ 0)) = o5
 cases o1 <;> cases o2 <;> cases o3 <;> cases o4 <;> cases o5 <;> simp
end
def jJ (i : WI) (R n : Int) : Option Nat :=
 if (kF i.op).isSome = false then some 4
 else if vQ (mC i.op) i R = true then some 2
 else if vO (mC i.op) i = true then some 3
 else if i.op = 10 ∨ i.op = 11 ∨ i.op = 12 then (if i.k < 0 ∨ 63 < i.k then some 2 else none)
 else if i.op = 20 then (if i.k < 0 ∨ 2 < i.k then some 2 else none)
 else if i.op = 15 ∨ i.op = 16 then (if i.k < 0 ∨ 65535 < i.k then some 2 else none)
 else if i.op = 17 ∨ i.op = 18 ∨ i.op = 19 then (if i.k < 0 ∨ n < i.k then some 5 else none)
 else none
def aHg (o : Option Nat) : AV := match o with | some g => eV g | none => .nili
structure GOk (G : aG) : Prop where
 g0 : G 0 = some (eV 0)
 g2 : G 1 = some (eV 2)
 g3 : G 3 = some (eV 3)
 g4 : G 2 = some (eV 4)
 g5 : G 4 = some (eV 5)
theorem w1e {x : AV} {o : Option Nat} {H : aF} (e : aHg o = x) (hx : cG 0 x = true) : E gA [] (bH [x] 0 H) (some (aHg o, [])) := by subst e; exact oF (nF hx H)
theorem aFH {bor : Bool} (G : aG) (hg : GOk G) (k : Nat) (cs : List WI) (R M : Int) (i : WI) :
  dW.f G (k + 7) [cV bor cs R M, i.v] [] = some (aHg (jJ i R cs.length), []) := by
 rw [dW.step]
 unfold dW.c cV
 have r1 : ∀ H, aD (gU.f G (k + 6)) [I6 i.op] H = _ := fun H => aE (H := H) (aHx G (k + 2) i.op) rfl rfl
 have r2 : ∀ H, aD (gZ.f G (k + 6)) [i.v, lU (gT i.op) (mC i.op)] H = _ := fun H => aE (H := H) (aHR G (k + 5) i _ _) rfl rfl
 have b1 : ∀ H, dV i.v H = some (.rp false i.v 0, H) := fun H => rfl
 have g0 : aA 0 (.rp false i.v 0) = some (.rp false i.v 0) := rfl
 have g5 : aA 5 (.rp false i.v 0) = some (.rp false i.v 5) := rfl
 have l0 : ∀ H, aC G false 1 (.rp false i.v 0) H = some (I6 i.op) := fun H => rfl
 have l5 : ∀ H, aC G false 1 (.rp false i.v 5) H = some (I6 i.k) := fun H => rfl
 have l6 : ∀ H, aC G true 6 (.rp false i.v 0) H = some i.v := fun H => rfl
 have e2 : ∀ H, aC G false 1 (.gl 1) H = some (eV 2) := fun H => hg.g2
 have e4 : ∀ H, aC G false 1 (.gl 2) H = some (eV 4) := fun H => hg.g4
 have e5 : ∀ H, aC G false 1 (.gl 4) H = some (eV 5) := fun H => hg.g5
 have st : fB (aL 6 (.ptr 0 1 0 0) (lU (gT i.op) (mC i.op)) [⟨163, 6, [.agg [(.str ⟨#[]⟩), (.bool false), (.bool false), (.bool false), (.bool false), (.bool false)]]⟩]) = some (.tup [], [⟨163, 6, [lU (gT i.op) (mC i.op)]⟩]) := rfl
 have ld : aC G true 6 (.ptr 0 1 0 0) [⟨163, 6, [lU (gT i.op) (mC i.op)]⟩] = some (lU (gT i.op) (mC i.op)) := rfl
 have lc : dQ (.ro bor (iE cs)) = some (I6 cs.length) := by simp [dQ, kE]
 have lb : dQ (bsV (mC i.op)) = some (.int .i64 5) := rfl
 have hcl : cG 0 (.ro bor (iE cs)) = true := by simp [cG, jV]
 obtain ⟨p1, p2⟩ := aMm G (k + 6) (dW.f G (k + 6)) R (.ro bor (iE cs)) M i (mC i.op) hg.g2 hcl (k + 1)
 obtain ⟨p3, p4⟩ := aLp G (k + 6) (dW.f G (k + 6)) R (.ro bor (iE cs)) M i (mC i.op) hg.g3 hcl k
 refine eZ ?_
 by_cases h0 : (kF i.op).isSome = false
 ·have e : jJ i R cs.length = some 4 := by unfold jJ; rw [if_pos h0]
  rw [e]
  rw [h0] at r1
  have fx := aPQ r1 <| aPQ b1 <| aPQ g0 <| aPQ l0 <| aPQ st <| e4
  refine gM ?_
  exact w1e (by rfl) (by rfl)
 have h0' : (kF i.op).isSome = true := by
  cases hh : (kF i.op).isSome
  ·exact absurd hh h0
  ·rfl
 rw [h0'] at r1
 by_cases h1 : vQ (mC i.op) i R = true
 ·have e : jJ i R cs.length = some 2 := by unfold jJ; rw [if_neg h0, if_pos h1]
  rw [e]
  obtain ⟨j, p1⟩ := p1 h1
  clear p2 p3 p4
  unfold bxC at p1
  have fx := aPQ r1 <| aPQ r2 <| aPQ b1 <| aPQ g0 <| aPQ l0 <| aPQ l6 <| aPQ st <| aPQ ld <| e2
  have lx1 := p1
  refine gM ?_
  exact w1e (by rfl) (by rfl)
 replace p2 := p2 (by simpa using h1)
 clear p1
 by_cases h2 : vO (mC i.op) i = true
 ·have e : jJ i R cs.length = some 3 := by unfold jJ; rw [if_neg h0, if_neg h1, if_pos h2]
  rw [e]
  obtain ⟨j, p3⟩ := p3 h2
  clear p4
  have fx := aPQ r1 <| aPQ r2 <| aPQ b1 <| aPQ g0 <| aPQ l0 <| aPQ l6 <| aPQ st <| aPQ ld <| aPQ e2 <| lb
  have lx1 := p2
  have lx2 := p3
  refine gM ?_
  exact w1e (by rfl) (by rfl)
 replace p4 := p4 (by simpa using h2)
 clear p3
 have e : jJ i R cs.length = (if i.op = 10 ∨ i.op = 11 ∨ i.op = 12 then (if i.k < 0 ∨ 63 < i.k then some 2 else none)
 else if i.op = 20 then (if i.k < 0 ∨ 2 < i.k then some 2 else none)
 else if i.op = 15 ∨ i.op = 16 then (if i.k < 0 ∨ 65535 < i.k then some 2 else none)
 else if i.op = 17 ∨ i.op = 18 ∨ i.op = 19 then (if i.k < 0 ∨ (cs.length : Int) < i.k then some 5 else none)
 else none) := by unfold jJ; rw [if_neg h0, if_neg h1, if_neg h2]
 rw [e]
 clear e
 repeat' first
  | (with_reducible first | refine eT ?_ | refine eN ?_ | refine eS ?_ | refine eXn ?_ | refine eXr ?_ | refine eX ?_ | refine eI ?_ | refine eK ?_ | refine eV0 ?_ | refine sW ?_ | refine sX ?_ | refine sV ?_ | refine tD ?_ | refine tB ?_ | refine sY ?_)
  | ((with_reducible apply eCn); (simp only [eG, eF]; first | done | (with_reducible exact rfl)))
  | ((with_reducible apply eJ); (rfl))
  | ((with_reducible apply sZ); (first | rfl | (simp only [eG, eF]; rfl)))
  | ((with_reducible apply eL); (first | exact p2 | exact p4))
  | ((with_reducible apply eB); (first | (with_reducible exact rfl) | (simp (disch := omega) only [qf, r1, r2, b1, g0, g5, l0, l5, l6, st, ld, e2, e5, lb, lc]; first | done | (with_reducible exact rfl) | (with_reducible exact ⟨rfl, rfl⟩)) | (simp (disch := omega) only [qa, jY, AV.cells, fQ, aY, lO, fR, fX, kX, Nat.reduceLeDiff, Nat.reduceLT, Nat.reduceAdd, ↓reduceIte, r1, r2, b1, g0, g5, l0, l5, l6, st, ld, e2, e5, lb, lc]; first | done | (with_reducible exact rfl) | (with_reducible exact ⟨rfl, rfl⟩))))
  | ((with_reducible apply eR); (simp only [eG, eF]; (with_reducible exact rfl)))
  | ((with_reducible first | refine tY ?_ ?_ | refine tU ?_ ?_ | refine tQ ?_ ?_ | refine tW ?_ ?_ | refine uE ?_ ?_ | refine tP ?_ ?_ | refine tX ?_ ?_ | refine pB ?_ ?_ | refine sGd ?_ ?_ | refine oZ ?_ ?_) <;> intro hq <;> try subst hq)
 all_goals (refine w1e ?_ (by rfl); (first | (with_reducible rfl) | ((try simp (disch := omega) only [if_pos, if_neg, if_true, if_false, ↓reduceIte, aHg]) <;> first | done | rfl | omega)))
inductive VE where
 | ok
 | bare (e : Nat)
 | at_ (j e : Nat)
def veV : VE → AV
 | .ok => .nili
 | .bare e => eV e
 | .at_ j e => .iface 133 (.rp false (.agg [Nn j, eV e]) 0)
def pF (R n : Int) : List WI → Nat → VE
 | [], _ => .ok
 | i :: l, j => match jJ i R n with
  | some e => .at_ j e
  | none => pF R n l (j + 1)
def kJ (cs : List WI) (R M : Int) : VE :=
 if 262144 < cs.length then .bare 0
 else if R < 0 ∨ 65536 < R ∨ M < 0 ∨ 65536 < M then .bare 0
 else pF R cs.length cs 0
theorem sN (v : VE) : fZ (veV v) = true := by cases v <;> rfl
theorem aBB (v : VE) : bC (veV v) = true := by cases v <;> rfl
theorem aKh (v : VE) : cG 0 (veV v) = true := by cases v <;> rfl
section
variable {bor : Bool} (G : aG) (hg : GOk G) (k : Nat) (self : cN) (cs : List WI) (R M : Int)
abbrev xsV (bor : Bool) (cs : List WI) (R M : Int) (x : AV) (j : Nat) : List AV := [bxC (.ro bor (iE cs)) R M, x, .ro bor (iE cs), I6 cs.length, Nn j]
include hg in
theorem aAX (hcl : cs.length ≤ 1000000) : ∀ (l pre : List WI) (f : Nat) (H : aF), cs = pre ++ l → l.length < f →
  ∃ o, gV (dX.l6 G (k + 7) 0 self) f (xsV bor cs R M .nili pre.length) H = some o ∧
   (match pF R cs.length l pre.length with
    | .ok => o = (.exit 1, xsV bor cs R M .nili cs.length, [])
    | v => ∃ j H', o = (.ret, xsV bor cs R M (veV v) j, H'))
 | l, pre, 0, H, hcs, hf => by omega
 | [], pre, f + 1, H, hcs, hf => by
  rw [fJ, dX.l6]
  have hl : cs.length = pre.length := by rw [hcs]; simp
  refine ⟨_, ?_, rfl⟩
  have hc : iR 0 (xsV bor cs R M .nili pre.length) H = some [] := by simp [iR, dH, cG, dY, jV]
  refine lC hc ?_
  refine jT ?_
  have hge : ¬ (pre.length : Int) < (cs.length : Int) := by omega
  have q : aQ Tryd.prog .lss 3 false (Nn pre.length) (Nn cs.length) = some (.bool false) := by rw [mA, decide_eq_false hge]
  have fx := q
  refine gM ?_
  rw [hl]
  rfl
 | i :: l, pre, f + 1, H, hcs, hf => by
  rw [fJ, dX.l6]
  have hl : cs.length = pre.length + (l.length + 1) := by rw [hcs]; simp
  have hc : iR 0 (xsV bor cs R M .nili pre.length) H = some [] := by simp [iR, dH, cG, dY, jV]
  have hi : cs.getD pre.length default = i := by rw [hcs]; simp [List.getD]
  have q : aQ Tryd.prog .lss 3 false (Nn pre.length) (Nn cs.length) = some (.bool true) := by rw [mA, decide_eq_true (by omega)]
  have d1 := aIG bor cs pre.length (by omega)
  rw [hi] at d1
  have d2 : ∀ H, aC G true 6 (.rp bor i.v 0) H = some i.v := fun H => rfl
  have d3 : fB (aL 6 (.ptr 0 1 0 0) i.v [⟨60, 6, [.agg [.int .i64 0, .int .i64 0, .int .i64 0, .int .i64 0, .int .i64 0, .int .i64 0]]⟩]) = some (.tup [], [⟨60, 6, [i.v]⟩]) := rfl
  have d4 : aC G true 6 (.ptr 0 1 0 0) [⟨60, 6, [i.v]⟩] = some i.v := rfl
  have d5 : ∀ H, aD (dW.f G (k + 7)) [.agg [.ro bor (iE cs), I6 R, I6 M], i.v] H = _ := fun H => aE (H := H) (aFH G hg k cs R M i) (by simp [eO, bC, aIW, WI.v]) (by cases jJ i R cs.length <;> rfl)
  cases ho : jJ i R cs.length with
  | some e =>
   have hb : pF R cs.length (i :: l) pre.length = .at_ pre.length e := by simp only [pF, ho]
   rw [hb]
   rw [ho] at d5
   have q2 : aQ Tryd.prog .neq 30 true (eV e) .nili = some (.bool true) := by kernel_rfl
   refine ⟨_, ?_, pre.length, [⟨60, 6, [i.v]⟩], rfl⟩
   refine lC hc ?_
   refine jT ?_
   simp only [aHg] at d5
   have fx := aPQ q <| aPQ d1 <| aPQ d2 <| aPQ d3 <| aPQ d4 <| aPQ d5 <| q2
   refine gM ?_
   rfl
  | none =>
   rw [ho] at d5
   have q2 : aQ Tryd.prog .neq 30 true .nili .nili = some (.bool false) := by kernel_rfl
   obtain ⟨o, h1, h2⟩ := aAX hcl l (pre ++ [i]) f [⟨60, 6, [i.v]⟩] (by rw [hcs]; simp) (by simp at hf; omega)
   have hlen : (pre ++ [i]).length = pre.length + 1 := by simp
   rw [hlen] at h1 h2
   have hb : pF R cs.length (i :: l) pre.length = pF R cs.length l (pre.length + 1) := by simp only [pF, ho]
   rw [hb]
   refine ⟨o, ?_, h2⟩
   refine lC hc ?_
   refine jT ?_
   simp only [aHg] at d5
   have q3 : aQ Tryd.prog .add 3 true (Nn pre.length) (.int .i64 1) = some (Nn (pre.length + 1)) := by
    rw [kL, fW (by omega) (by omega)]; congr 2
   have fx := aPQ q <| aPQ d1 <| aPQ d2 <| aPQ d3 <| aPQ d4 <| aPQ d5 <| aPQ q2 <| q3
   refine gM ?_
   exact h1
include hg in
theorem tO (hk : cs.length < k + 7) (hcl : cs.length ≤ 1000000) : dX.f G (k + 8) [cV bor cs R M] [] = some (veV (kJ cs R M), []) := by
 rw [dX.step]
 unfold dX.c cV
 obtain ⟨o, h1, h2⟩ := aAX (bor := bor) G hg k (dX.f G (k + 7)) cs R M hcl cs [] (k + 7) [] rfl hk
 have e0 : ∀ H, aC G false 1 (.gl 0) H = some (eV 0) := fun H => hg.g0
 have lc : dQ (.ro bor (iE cs)) = some (I6 cs.length) := by simp [dQ, kE]
 refine eZ ?_
 unfold kJ
 by_cases hb : 262144 < cs.length
 ·rw [if_pos hb]
  have fx := aPQ lc <| e0
  refine gM ?_
  exact w1 rfl rfl
 rw [if_neg hb]
 by_cases hr : R < 0 ∨ 65536 < R ∨ M < 0 ∨ 65536 < M
 ·rw [if_pos hr]
  have fx := aPQ lc <| e0
  refine gM ?_
  exact w1 rfl rfl
 rw [if_neg hr]
 cases hv : pF R cs.length cs 0 with
 | ok =>
  simp only [List.length_nil, hv] at h2
  rw [h2] at h1
  have fx := aPQ lc <| e0
  have lx1 := h1
  refine gM ?_
  exact w1 rfl rfl
 | bare e =>
  simp only [List.length_nil, hv] at h2
  obtain ⟨j, H', h2⟩ := h2
  rw [h2] at h1
  have fx := aPQ lc <| e0
  have lx1 := h1
  refine gM ?_
  exact w1 rfl rfl
 | at_ j e =>
  simp only [List.length_nil, hv] at h2
  obtain ⟨j', H', h2⟩ := h2
  rw [h2] at h1
  have fx := aPQ lc <| e0
  have lx1 := h1
  refine gM ?_
  exact w1 rfl rfl
end
theorem aGy {i : WI} {R n : Int} (h : jJ i R n = none) (hR : 0 ≤ R) : i.Ok R.toNat n.toNat := by
 unfold jJ at h
 have out : ∀ {t : Bool} {r : Int}, nW t r R = false → t = true → 0 ≤ r ∧ r < R := fun {t r} ho ht => by
  subst ht; simp [nW] at ho; omega
 by_cases h20 : 1 ≤ i.op ∧ i.op ≤ 20
 ·by_cases h1 : vQ (mC i.op) i R = true
  ·rw [if_pos h1] at h; split at h <;> cases h
  rw [if_neg h1] at h
  by_cases h2 : vO (mC i.op) i = true
  ·rw [if_pos h2] at h; split at h <;> cases h
  rw [if_neg h2] at h
  obtain ⟨op, d, a, b, c, kk⟩ := i
  simp only at h h1 h2 h20
  simp only [vQ, vO, Bool.or_eq_true, not_or, Bool.and_eq_true, Bool.not_eq_true', decide_eq_true_eq, not_and, Bool.not_eq_true] at h1 h2
  rcases aDQ h20 with rfl | rfl | rfl | rfl | rfl | rfl | rfl | rfl | rfl | rfl | rfl | rfl | rfl | rfl | rfl | rfl | rfl | rfl | rfl | rfl
  all_goals (
   simp [mC, kF, nW] at h1 h2
   simp [kF] at h
   constructor <;> simp <;> omega)
 ·rw [oC h20] at h; simp at h
theorem aGF {R n : Int} (hR : 0 ≤ R) : ∀ {l : List WI} {j : Nat}, pF R n l j = .ok → ∀ i ∈ l, i.Ok R.toNat n.toNat
 | [], _, _, i, hi => by cases hi
 | x :: l, j, h, i, hi => by
  unfold pF at h
  split at h
  ·cases h
  ·rename_i ho
   rcases List.mem_cons.1 hi with rfl | hi
   ·exact aGy ho hR
   ·exact aGF hR h i hi
theorem xG {cs : List WI} {R M : Int} (h : kJ cs R M = .ok) : (0 ≤ R ∧ R ≤ 65536 ∧ 0 ≤ M ∧ M ≤ 65536 ∧ cs.length ≤ 262144) ∧ ∀ j, j < cs.length → (cs.getD j default).Ok R.toNat cs.length := by
 unfold kJ at h
 by_cases h1 : 262144 < cs.length
 ·rw [if_pos h1] at h; cases h
 rw [if_neg h1] at h
 by_cases h2 : R < 0 ∨ 65536 < R ∨ M < 0 ∨ 65536 < M
 ·rw [if_pos h2] at h; cases h
 rw [if_neg h2] at h
 refine ⟨by omega, fun j hj => ?_⟩
 have := aGF (by omega) h (cs.getD j default) (by simp [List.getD, List.getElem?_eq_getElem hj])
 rwa [Int.toNat_natCast] at this
def tI (op : Int) : Int :=
 if op = 1 then 1 else if 10 ≤ op ∧ op ≤ 12 then 2 else if op = 15 ∨ op = 16 then 3 else if op = 17 ∨ op = 18 ∨ op = 19 then 4 else if op = 20 then 5 else 0
def hvV (f : Frm) (n : Int) : AV := .agg [.bool f.d, .bool f.a, .bool f.b, .bool f.c, I6 n]
theorem aFO {op : Int} (h : ¬ (1 ≤ op ∧ op ≤ 20)) : tI op = 0 := by
 unfold tI
 repeat rw [if_neg (by omega)]
theorem aIN (G : aG) (k : Nat) (op : Int) : dM.f G (k + 1) [I6 op] [] = some (.tup [hvV (mC op) (tI op), .bool (kF op).isSome], []) := by
 by_cases h : 1 ≤ op ∧ op ≤ 20
 ·rcases aDQ h with rfl | rfl | rfl | rfl | rfl | rfl | rfl | rfl | rfl | rfl | rfl | rfl | rfl | rfl | rfl | rfl | rfl | rfl | rfl | rfl <;> kernel_rfl
 ·rw [dM.step]
  unfold dM.c
  unfold mC
  rw [oC h, aFO h]
  refine eZ ?_
  have fx := True.intro
  refine gM ?_
  (refine iA ?_; rfl)
theorem aCy (G : aG) (k : Nat) (t : Bool) (r R : Int) : bK.f G (k + 1) [.bool t, I6 r, I6 R] [] = some (.bool (nW t r R), []) := by
 rw [bK.step]
 unfold bK.c
 refine eZ ?_
 cases t
 ·have fx := True.intro
  refine gM ?_
  exact uH rfl
 ·repeat' first
   | (with_reducible first | refine eT ?_ | refine eN ?_ | refine eS ?_ | refine eXn ?_ | refine eXr ?_ | refine eX ?_ | refine eI ?_ | refine eK ?_ | refine eV0 ?_ | refine sW ?_ | refine sX ?_ | refine sV ?_ | refine tD ?_ | refine tB ?_ | refine sY ?_)
   | ((with_reducible apply eCn); (simp only [eG, eF]; first | done | (with_reducible exact rfl)))
   | ((with_reducible apply eJ); (rfl))
   | ((with_reducible apply sZ); (first | rfl | (simp only [eG, eF]; rfl)))
   | ((with_reducible apply eB); (first | (with_reducible exact rfl) | (simp (disch := omega) only [qa, jY, AV.cells, fQ, aY, lO, fR, fX, kX, Nat.reduceLeDiff, Nat.reduceLT, Nat.reduceAdd, ↓reduceIte]; first | done | (with_reducible exact rfl) | (with_reducible exact ⟨rfl, rfl⟩))))
   | ((with_reducible apply eR); (simp only [eG, eF]; (with_reducible exact rfl)))
   | ((with_reducible first | refine tY ?_ ?_ | refine tU ?_ ?_ | refine tQ ?_ ?_ | refine tW ?_ ?_ | refine uE ?_ ?_ | refine tP ?_ ?_ | refine tX ?_ ?_ | refine pB ?_ ?_ | refine sGd ?_ ?_ | refine oZ ?_ ?_) <;> intro hq <;> try subst hq)
  all_goals (refine uH ?_; unfold nW; simp; omega)
def inK (n m : Int) : Bool := decide (0 ≤ n) && decide (n < m)
theorem aDu (G : aG) (k : Nat) (n m : Int) : bO.f G (k + 1) [I6 n, I6 m] [] = some (.bool (inK n m), []) := by
 rw [bO.step]
 unfold bO.c
 refine eZ ?_
 repeat' first
  | (with_reducible first | refine eT ?_ | refine eN ?_ | refine eS ?_ | refine eXn ?_ | refine eXr ?_ | refine eX ?_ | refine eI ?_ | refine eK ?_ | refine eV0 ?_ | refine sW ?_ | refine sX ?_ | refine sV ?_ | refine tD ?_ | refine tB ?_ | refine sY ?_)
  | ((with_reducible apply eCn); (simp only [eG, eF]; first | done | (with_reducible exact rfl)))
  | ((with_reducible apply eJ); (rfl))
  | ((with_reducible apply sZ); (first | rfl | (simp only [eG, eF]; rfl)))
  | ((with_reducible apply eB); (first | (with_reducible exact rfl) | (simp (disch := omega) only [qa, jY, AV.cells, fQ, aY, lO, fR, fX, kX, Nat.reduceLeDiff, Nat.reduceLT, Nat.reduceAdd, ↓reduceIte]; first | done | (with_reducible exact rfl) | (with_reducible exact ⟨rfl, rfl⟩))))
  | ((with_reducible apply eR); (simp only [eG, eF]; (with_reducible exact rfl)))
  | ((with_reducible first | refine tY ?_ ?_ | refine tU ?_ ?_ | refine tQ ?_ ?_ | refine tW ?_ ?_ | refine uE ?_ ?_ | refine tP ?_ ?_ | refine tX ?_ ?_ | refine pB ?_ ?_ | refine sGd ?_ ?_ | refine oZ ?_ ?_) <;> intro hq <;> try subst hq)
 all_goals (refine uH ?_; unfold inK; simp; omega)
def qH (c : Int) (p : Bool) (j : Int) : AV := .agg [I6 c, .bool p, I6 j]
theorem aCj (G : aG) (k : Nat) (c : Int) : dB.f G (k + 1) [I6 c] [] = some (qH c false 0, []) := by kernel_rfl
theorem aHe (G : aG) (k : Nat) : dF.f G (k + 1) [] [] = some (qH 0 false 0, []) := by kernel_rfl
theorem aEJ (G : aG) (k : Nat) (c j : Int) (hc : c ≠ 0) : cD.f G (k + 2) [I6 c, I6 j] [] = some (qH c true j, []) := by
 rw [cD.step]
 unfold cD.c
 refine eZ ?_
 have fx := True.intro
 refine gM ?_
 refine iA ?_
 rfl
def aEN (e : Nat) : Int := if e = 0 then 103 else if e = 1 then 102 else if e = 2 then 101 else if e = 3 then 104 else if e = 4 then 106 else 109
def aMp (f : Frm) (kd : Int) (i : WI) (R n : Int) : Option Nat :=
 if vQ f i R = true then some 2
 else if vO f i = true then some 3
 else if kd = 2 then (if inK i.k 64 = true then none else some 2)
 else if kd = 5 then (if inK i.k 3 = true then none else some 2)
 else if kd = 3 then (if inK i.k 65536 = true then none else some 2)
 else if kd = 4 then (if inK i.k (n + 1) = true then none else some 5)
 else none
theorem aHy (i : WI) (R n : Int) (h : 1 ≤ i.op ∧ i.op ≤ 20) : jJ i R n = aMp (mC i.op) (tI i.op) i R n := by
 have e : ∀ m : Int, inK i.k m = true ↔ ¬ (i.k < 0 ∨ m - 1 < i.k) := fun m => by unfold inK; simp; omega
 unfold jJ aMp
 have hs : (kF i.op).isSome = true := by
  rcases aDQ h with h | h | h | h | h | h | h | h | h | h | h | h | h | h | h | h | h | h | h | h <;> rw [h] <;> rfl
 rw [hs]
 simp only [Bool.true_eq_false, if_false]
 by_cases h1 : vQ (mC i.op) i R = true
 ·rw [if_pos h1, if_pos h1]
 rw [if_neg h1, if_neg h1]
 by_cases h2 : vO (mC i.op) i = true
 ·rw [if_pos h2, if_pos h2]
 rw [if_neg h2, if_neg h2]
 simp only [e]
 clear hs h1 h2 e
 rcases aDQ h with h | h | h | h | h | h | h | h | h | h | h | h | h | h | h | h | h | h | h | h <;> rw [h] <;> simp [tI] <;> (split <;> (try split) <;> first | rfl | omega)
inductive Cls : Frm → Int → Prop
 | c1 : Cls ⟨true, false, false, false, true⟩ 1
 | c2 : Cls ⟨true, true, false, false, false⟩ 0
 | c3 : Cls ⟨true, true, true, false, false⟩ 0
 | c4 : Cls ⟨true, true, false, false, true⟩ 2
 | c5 : Cls ⟨true, true, true, true, false⟩ 0
 | c6 : Cls ⟨true, true, false, false, true⟩ 3
 | c7 : Cls ⟨false, true, true, false, true⟩ 3
 | c8 : Cls ⟨false, false, false, false, true⟩ 4
 | c9 : Cls ⟨false, true, false, false, true⟩ 4
 | c10 : Cls ⟨false, false, false, false, true⟩ 5
theorem aMK {op : Int} (h : 1 ≤ op ∧ op ≤ 20) : Cls (mC op) (tI op) ∧ (kF op).isSome = true := by
 rcases aDQ h with h | h | h | h | h | h | h | h | h | h | h | h | h | h | h | h | h | h | h | h <;> rw [h] <;> exact ⟨by constructor, rfl⟩
section
variable (G : aG) (k : Nat) (self : cN) (cs : List WI) (R M : Int)
abbrev f0 : AV := qH 0 false 0
abbrev yN (cs : List WI) (R M : Int) (j : Int) : List AV := [bxC (.ro false (iE cs)) R M, .ptr 0 1 0 0, I6 j]
abbrev hp3 (x : AV) (i : WI) (f : Frm) (kd : Int) : aF := [⟨34, 3, [x]⟩, ⟨60, 6, [i.v]⟩, ⟨97, 5, [hvV f kd]⟩]
theorem aII (lp : iP) (i : WI) (j : Nat) (hj : j < cs.length) (hl : cs.length ≤ 1000000) (hi : cs.getD j default = i) (H : aF) (hH : H.take 1 = [⟨34, 3, [f0]⟩]) :
  bJ.l4 G (k + 2) 1 self lp (yN cs R M j) H =
   match jJ i R cs.length with
   | some e => some (.ret, yN cs R M j, hp3 (qH (aEN e) true j) i (mC i.op) (tI i.op))
   | none => lp (yN cs R M (j + 1 : Nat)) (hp3 f0 i (mC i.op) (tI i.op)) := by
 rw [bJ.l4]
 have hc : iR 1 (yN cs R M j) H = some [⟨34, 3, [f0]⟩] := by
  unfold iR
  rw [hH]
  simp [dH, cG, dY, jV, qH]
 have q : aQ Tryd.prog .lss 3 false (Nn j) (Nn cs.length) = some (.bool true) := by rw [mA, decide_eq_true (by omega)]
 have q1 : aQ Tryd.prog .add 3 true (Nn j) (.int .i64 1) = some (Nn (j + 1)) := by
  rw [kL, fW (by omega) (by omega)]; congr 2
 have d1 := aIG false cs j hj
 rw [hi] at d1
 have lc : dQ (.ro false (iE cs)) = some (I6 cs.length) := by simp [dQ, kE]
 have r1 : ∀ H, aD (dM.f G (k + 2)) [I6 i.op] H = _ := fun H => aE (H := H) (aIN G (k + 1) i.op) rfl rfl
 have r2 : ∀ t r R H, aD (bK.f G (k + 2)) [.bool t, I6 r, I6 R] H = _ := fun t r R H => aE (H := H) (aCy G (k + 1) t r R) rfl rfl
 have r3 : ∀ n m H, aD (bO.f G (k + 2)) [I6 n, I6 m] H = _ := fun n m H => aE (H := H) (aDu G (k + 1) n m) rfl rfl
 have r4 : ∀ c H, c ≠ 0 → aD (cD.f G (k + 2)) [I6 c, Nn j] H = _ := fun c H hc => aE (H := H) (aEJ G k c j hc) rfl rfl
 refine jT ?_
 refine eC hc ?_
 have b2 : ∀ b y, fB (aL 5 (.ptr 2 1 0 0) (hvV b y) [⟨34, 3, [f0]⟩, ⟨60, 6, [i.v]⟩, ⟨97, 5, [.agg [(.bool false), (.bool false), (.bool false), (.bool false), (.int .i64 0)]]⟩]) = some (.tup [], [⟨34, 3, [f0]⟩, ⟨60, 6, [i.v]⟩, ⟨97, 5, [hvV b y]⟩]) := fun b y => rfl
 have b1 : fB (aL 6 (.ptr 1 1 0 0) i.v [⟨34, 3, [f0]⟩, ⟨60, 6, [.agg [.int .i64 0, .int .i64 0, .int .i64 0, .int .i64 0, .int .i64 0, .int .i64 0]]⟩]) = some (.tup [], [⟨34, 3, [f0]⟩, ⟨60, 6, [i.v]⟩]) := rfl
 have b3 : ∀ y l, fB (aL 3 (.ptr 0 1 0 0) (qH y true j) (⟨34, 3, [f0]⟩ :: l)) = some (.tup [], ⟨34, 3, [qH y true j]⟩ :: l) := fun y l => rfl
 have d2 : ∀ H, aC G true 6 (.rp false i.v 0) H = some i.v := fun H => rfl
 have i0 : ∀ l, aC G false 1 (.ptr 1 1 0 0) (⟨34, 3, [f0]⟩ :: ⟨60, 6, [i.v]⟩ :: l) = some (I6 i.op) := fun l => rfl
 have i1 : ∀ l, aC G false 1 (.ptr 1 1 0 1) (⟨34, 3, [f0]⟩ :: ⟨60, 6, [i.v]⟩ :: l) = some (I6 i.d) := fun l => rfl
 have i2 : ∀ l, aC G false 1 (.ptr 1 1 0 2) (⟨34, 3, [f0]⟩ :: ⟨60, 6, [i.v]⟩ :: l) = some (I6 i.a) := fun l => rfl
 have i3 : ∀ l, aC G false 1 (.ptr 1 1 0 3) (⟨34, 3, [f0]⟩ :: ⟨60, 6, [i.v]⟩ :: l) = some (I6 i.b) := fun l => rfl
 have i4 : ∀ l, aC G false 1 (.ptr 1 1 0 4) (⟨34, 3, [f0]⟩ :: ⟨60, 6, [i.v]⟩ :: l) = some (I6 i.c) := fun l => rfl
 have i5 : ∀ l, aC G false 1 (.ptr 1 1 0 5) (⟨34, 3, [f0]⟩ :: ⟨60, 6, [i.v]⟩ :: l) = some (I6 i.k) := fun l => rfl
 have h0 : ∀ f kd l, aC G false 1 (.ptr 2 1 0 0) (⟨34, 3, [f0]⟩ :: ⟨60, 6, [i.v]⟩ :: ⟨97, 5, [hvV f kd]⟩ :: l) = some (.bool f.d) := fun f kd l => rfl
 have h1 : ∀ f kd l, aC G false 1 (.ptr 2 1 0 1) (⟨34, 3, [f0]⟩ :: ⟨60, 6, [i.v]⟩ :: ⟨97, 5, [hvV f kd]⟩ :: l) = some (.bool f.a) := fun f kd l => rfl
 have h2 : ∀ f kd l, aC G false 1 (.ptr 2 1 0 2) (⟨34, 3, [f0]⟩ :: ⟨60, 6, [i.v]⟩ :: ⟨97, 5, [hvV f kd]⟩ :: l) = some (.bool f.b) := fun f kd l => rfl
 have h3 : ∀ f kd l, aC G false 1 (.ptr 2 1 0 3) (⟨34, 3, [f0]⟩ :: ⟨60, 6, [i.v]⟩ :: ⟨97, 5, [hvV f kd]⟩ :: l) = some (.bool f.c) := fun f kd l => rfl
 have h4 : ∀ f kd l, aC G false 1 (.ptr 2 1 0 4) (⟨34, 3, [f0]⟩ :: ⟨60, 6, [i.v]⟩ :: ⟨97, 5, [hvV f kd]⟩ :: l) = some (I6 kd) := fun f kd l => rfl
 by_cases h20 : 1 ≤ i.op ∧ i.op ≤ 20
 ·rw [aHy i R cs.length h20]
  obtain ⟨hcl, hs⟩ := aMK h20
  rw [hs] at r1
  generalize hfd : mC i.op = f at *
  generalize hkd : tI i.op = kd at *
  have o0 : ∀ r R, nW false r R = false := fun r R => rfl
  have o1 := r2 true i.d R
  have o2 := r2 true i.a R
  have o3 := r2 true i.b R
  have o4 := r2 true i.c R
  have n0 := r2 false
  simp only [o0] at n0
  have w1 := r3 i.k 64
  have w2 := r3 i.k 3
  have w3 := r3 i.k 65536
  have w4 := r3 i.k (cs.length + 1)
  unfold aMp vQ vO
  clear r2 r3
  cases hcl
  all_goals (
   simp only [o0]
   generalize nW true i.d R = z1 at *
   generalize nW true i.a R = z2 at *
   generalize nW true i.b R = z3 at *
   generalize nW true i.c R = z4 at *
   generalize inK i.k 64 = z5 at *
   generalize inK i.k 3 = z6 at *
   generalize inK i.k 65536 = z7 at *
   generalize inK i.k (cs.length + 1) = z8 at *
   clear hfd hkd hs h20)
  all_goals (
   repeat' first
    | (with_reducible first | refine eT ?_ | refine eN ?_ | refine eS ?_ | refine eXn ?_ | refine eXr ?_ | refine eX ?_ | refine eI ?_ | refine eK ?_ | refine eV0 ?_ | refine sW ?_ | refine sX ?_ | refine sV ?_ | refine tD ?_ | refine tB ?_ | refine sY ?_)
    | ((with_reducible apply eCn); (simp only [eG, eF]; first | done | (with_reducible exact rfl)))
    | ((with_reducible apply eJ); (rfl))
    | ((with_reducible apply sZ); (first | rfl | (simp only [eG, eF]; rfl)))
    | ((with_reducible apply eB); (first | (with_reducible exact rfl) | (simp (disch := omega) only [qf, q, q1, d1, lc, r1, r4, b1, b2, b3, d2, i0, i1, i2, i3, i4, i5, h0, h1, h2, h3, h4, o1, o2, o3, o4, n0, w1, w2, w3, w4]; first | done | (with_reducible exact rfl) | (with_reducible exact ⟨rfl, rfl⟩)) | (simp (disch := omega) only [qa, jY, AV.cells, fQ, aY, lO, fR, fX, kX, Nat.reduceLeDiff, Nat.reduceLT, Nat.reduceAdd, ↓reduceIte, q, q1, d1, lc, r1, r4, b1, b2, b3, d2, i0, i1, i2, i3, i4, i5, h0, h1, h2, h3, h4, o1, o2, o3, o4, n0, w1, w2, w3, w4]; first | done | (with_reducible exact rfl) | (with_reducible exact ⟨rfl, rfl⟩))))
    | ((with_reducible apply eR); (simp only [eG, eF]; (with_reducible exact rfl)))
    | ((with_reducible first | refine tY ?_ ?_ | refine tU ?_ ?_ | refine tQ ?_ ?_ | refine tW ?_ ?_ | refine uE ?_ ?_ | refine tP ?_ ?_ | refine tX ?_ ?_ | refine pB ?_ ?_ | refine sGd ?_ ?_ | refine oZ ?_ ?_) <;> intro hq <;> try subst hq)
   all_goals (refine iA ?_; (try simp (disch := omega) only [Bool.not_true, Bool.not_false, Bool.true_and, Bool.false_and, Bool.false_or, Bool.or_false, Bool.or_true, Bool.true_or, Bool.or_eq_true, decide_eq_true_eq, ne_eq, Bool.false_eq_true, Bool.true_eq_false, false_or, or_false, true_or, or_true, if_pos, if_neg, if_true, if_false, ↓reduceIte]); first | rfl | omega))
 ·have hs : kF i.op = none := oC h20
  have e : jJ i R cs.length = some 4 := by unfold jJ; rw [hs]; rfl
  rw [e]
  rw [hs] at r1
  simp only [Option.isSome_none] at r1
  have fx := aPQ q <| aPQ q1 <| aPQ d1 <| aPQ lc <| aPQ r1 <| aPQ r4 <| aPQ b1 <| aPQ b2 <| aPQ b3 <| aPQ d2 <| i0
  refine gM ?_
  refine iA ?_
  rfl
end
def wF (v : VE) : AV := match v with
 | .ok => qH 0 false 0
 | .bare e => qH (aEN e) false 0
 | .at_ j e => qH (aEN e) true j
theorem aBm (v : VE) : fZ (wF v) = true := by cases v <;> rfl
theorem aBC (v : VE) : bC (wF v) = true := by cases v <;> rfl
theorem aLy (v : VE) : cG 0 (wF v) = true := by cases v <;> rfl
section
variable (G : aG) (k : Nat) (self : cN) (cs : List WI) (R M : Int)
theorem aGe (hcl : cs.length ≤ 1000000) : ∀ (l pre : List WI) (f : Nat) (H : aF), cs = pre ++ l → l.length < f → H.take 1 = [⟨34, 3, [f0]⟩] →
  ∃ o, gV (bJ.l4 G (k + 2) 1 self) f (yN cs R M pre.length) H = some o ∧
   (match pF R cs.length l pre.length with
    | .ok => o = (.exit 0, yN cs R M cs.length, [⟨34, 3, [f0]⟩])
    | v => ∃ j H', o = (.ret, yN cs R M j, ⟨34, 3, [wF v]⟩ :: H'))
 | l, pre, 0, H, hcs, hf, hH => by omega
 | [], pre, f + 1, H, hcs, hf, hH => by
  rw [fJ, bJ.l4]
  have hl : cs.length = pre.length := by rw [hcs]; simp
  refine ⟨_, ?_, rfl⟩
  have hc : iR 1 (yN cs R M pre.length) H = some [⟨34, 3, [f0]⟩] := by
   unfold iR
   rw [hH]
   simp [dH, cG, dY, jV, qH]
  refine lC hc ?_
  refine jT ?_
  have hge : ¬ (pre.length : Int) < (cs.length : Int) := by omega
  have q : aQ Tryd.prog .lss 3 false (Nn pre.length) (Nn cs.length) = some (.bool false) := by rw [mA, decide_eq_false hge]
  have lc : dQ (.ro false (iE cs)) = some (I6 cs.length) := by simp [dQ, kE]
  have fx := aPQ q <| lc
  refine gM ?_
  rw [hl]
  rfl
 | i :: l, pre, f + 1, H, hcs, hf, hH => by
  have hl : cs.length = pre.length + (l.length + 1) := by rw [hcs]; simp
  have hi : cs.getD pre.length default = i := by rw [hcs]; simp [List.getD]
  rw [fJ, aII G k self cs R M _ i pre.length (by omega) hcl hi H hH]
  cases ho : jJ i R cs.length with
  | some e =>
   have hb : pF R cs.length (i :: l) pre.length = .at_ pre.length e := by simp only [pF, ho]
   rw [hb]
   exact ⟨_, rfl, pre.length, _, rfl⟩
  | none =>
   obtain ⟨o, h1, h2⟩ := aGe hcl l (pre ++ [i]) f (hp3 f0 i (mC i.op) (tI i.op)) (by rw [hcs]; simp) (by simp at hf; omega) rfl
   have hlen : (pre ++ [i]).length = pre.length + 1 := by simp
   rw [hlen] at h1 h2
   have hb : pF R cs.length (i :: l) pre.length = pF R cs.length l (pre.length + 1) := by simp only [pF, ho]
   rw [hb]
   exact ⟨o, h1, h2⟩
theorem aEA (hk : cs.length < k + 2) (hcl : cs.length ≤ 1000000) : bJ.f G (k + 3) [cV false cs R M] [] = some (wF (kJ cs R M), []) := by
 rw [bJ.step]
 unfold bJ.c cV
 obtain ⟨o, h1, h2⟩ := aGe G k (bJ.f G (k + 2)) cs R M hcl cs [] (k + 2) [⟨34, 3, [f0]⟩] rfl hk rfl
 have lc : dQ (.ro false (iE cs)) = some (I6 cs.length) := by simp [dQ, kE]
 have r1 : ∀ c H, aD (dB.f G (k + 2)) [I6 c] H = _ := fun c H => aE (H := H) (aCj G (k + 1) c) rfl rfl
 have r2 : ∀ H, aD (dF.f G (k + 2)) [] H = _ := fun H => aE (H := H) (aHe G (k + 1)) rfl rfl
 have st : ∀ c p j x l, fB (aL 3 (.ptr 0 1 0 0) (qH c p j) (⟨34, 3, [.agg [x, .bool false, I6 0]]⟩ :: l)) = some (.tup [], ⟨34, 3, [qH c p j]⟩ :: l) := fun c p j x l => rfl
 have st2 : ∀ c p j l, fB (aL 3 (.ptr 0 1 0 0) (qH c p j) (⟨34, 3, [f0]⟩ :: l)) = some (.tup [], ⟨34, 3, [qH c p j]⟩ :: l) := fun c p j l => rfl
 have fin : ∀ v l, fK [aC G true 3 (.ptr 0 1 0 0) (⟨34, 3, [wF v]⟩ :: l)] ([] : aF).length (⟨34, 3, [wF v]⟩ :: l) = some (.ret, [wF v], []) := fun v l => by
  have : aC G true 3 (.ptr 0 1 0 0) (⟨34, 3, [wF v]⟩ :: l) = some (wF v) := by cases v <;> rfl
  unfold fK
  rw [this]
  simp only [vJ]
  exact nF (aLy v) _
 refine eZ ?_
 unfold kJ
 by_cases hb : 262144 < cs.length
 ·rw [if_pos hb]
  have fx := aPQ lc <| aPQ r1 <| st
  refine gM ?_
  exact oF (fin (.bare 0) [])
 rw [if_neg hb]
 by_cases hr : R < 0 ∨ 65536 < R ∨ M < 0 ∨ 65536 < M
 ·rw [if_pos hr]
  have fx := aPQ lc <| aPQ r1 <| st
  refine gM ?_
  exact oF (fin (.bare 0) [])
 rw [if_neg hr]
 cases hv : pF R cs.length cs 0 with
 | ok =>
  simp only [List.length_nil, hv] at h2
  rw [h2] at h1
  have fx := aPQ lc <| aPQ r2 <| st2
  have lx1 := h1
  refine gM ?_
  exact oF (fin .ok [])
 | bare e =>
  simp only [List.length_nil, hv] at h2
  obtain ⟨j, H', h2⟩ := h2
  rw [h2] at h1
  have fx := lc
  have lx1 := h1
  refine gM ?_
  exact oF (fin (.bare e) H')
 | at_ j e =>
  simp only [List.length_nil, hv] at h2
  obtain ⟨j', H', h2⟩ := h2
  rw [h2] at h1
  have fx := lc
  have lx1 := h1
  refine gM ?_
  exact oF (fin (.at_ j e) H')
end
abbrev GA : aG := aCf 180 [1, 5, 0, 3, 6, 2, 7, 8, 4, 9, 10, 11, 12, 13]
theorem aOL : GOk GA := ⟨rfl, rfl, rfl, rfl, rfl⟩
theorem aFr (k : Nat) (e : Nat) (he : e < 6) : dP.f GA (k + 40) [eV e] [] = some (qH (aEN e) false 0, []) := by
 have : e = 0 ∨ e = 1 ∨ e = 2 ∨ e = 3 ∨ e = 4 ∨ e = 5 := by omega
 clear he
 rcases this with rfl | rfl | rfl | rfl | rfl | rfl <;> (show _ = _; kernel_rfl)
theorem aJd (k : Nat) (j e : Nat) (he : e < 6) : dP.f GA (k + 40) [.iface 133 (.rp false (.agg [Nn j, eV e]) 0)] [] = some (qH (aEN e) true j, []) := by
 have : e = 0 ∨ e = 1 ∨ e = 2 ∨ e = 3 ∨ e = 4 ∨ e = 5 := by omega
 clear he
 rcases this with rfl | rfl | rfl | rfl | rfl | rfl <;> (show _ = _; kernel_rfl)
theorem aJc (k : Nat) : dP.f GA (k + 40) [.nili] [] = some (qH 0 false 0, []) := by kernel_rfl
def VE.low : VE → Prop
 | .ok => True
 | .bare e => e < 6
 | .at_ j e => e < 6
theorem aFx (k : Nat) (v : VE) (hv : v.low) : dP.f GA (k + 40) [veV v] [] = some (wF v, []) := by
 cases v with
 | ok => exact aJc k
 | bare e => exact aFr k e hv
 | at_ j e => exact aJd k j e hv
theorem aAQ (G : aG) (k : Nat) (v : VE) : bS.f G (k + 1) [wF v, wF v] [] = some (.bool true, []) := by
 have : ∃ c p j, wF v = qH c p j := by cases v <;> exact ⟨_, _, _, rfl⟩
 obtain ⟨c, p, j, e⟩ := this
 rw [e]
 rw [bS.step]
 unfold bS.c qH
 have q : aQ Tryd.prog .eql 4 false (.bool p) (.bool p) = some (.bool true) := by rw [qJ Tryd.underlying4]; simp
 refine eZ ?_
 have fx := q
 refine gM ?_
 exact uH rfl
theorem aIn (k : Nat) (v : VE) (hv : v.low) : dL.f GA (k + 41) [veV v, wF v] [] = some (.bool true, []) := by
 rw [dL.step]
 unfold dL.c
 have r1 : ∀ H, aD (dP.f GA (k + 40)) [veV v] H = _ := fun H => aE (H := H) (aFx k v hv) (by simp [eO, aBB]) (aBm v)
 have r2 : ∀ H, aD (bS.f GA (k + 40)) [wF v, wF v] H = _ := fun H => aE (H := H) (aAQ GA (k + 39) v) (by simp [eO, aBC]) rfl
 have b1 : ∀ H, dV (wF v) H = some (.rp false (wF v) 0, H) := fun H => by cases v <;> rfl
 have ld : ∀ H, aC GA true 3 (.rp false (wF v) 0) H = some (wF v) := fun H => by cases v <;> rfl
 refine eZ ?_
 have fx := aPQ r1 <| aPQ r2 <| aPQ b1 <| ld
 refine gM ?_
 exact uH rfl
theorem aIR {i : WI} {R n : Int} {e : Nat} (h : jJ i R n = some e) : e < 6 := by
 unfold jJ at h
 repeat' split at h
 all_goals (first | (cases h; done) | (simp at h; omega))
theorem aEw {R n : Int} : ∀ {l : List WI} {j : Nat}, (pF R n l j).low
 | [], _ => trivial
 | x :: l, j => by
  unfold pF
  split
  ·rename_i e ho; exact aIR ho
  ·exact aEw
theorem aEX (cs : List WI) (R M : Int) : (kJ cs R M).low := by
 unfold kJ
 split
 ·show (0 : Nat) < 6; omega
 ·split
  ·show (0 : Nat) < 6; omega
  ·exact aEw
theorem aNd (n : Nat) (h : n ≤ 63) : bits .and .i64 (n : Int) 63 = (n : Int) := by
 show IntKind.i64.wrap ((BitVec.ofInt 64 (n : Int) &&& BitVec.ofInt 64 63).toNat : Int) = _
 rw [BitVec.toNat_and, mL n (by omega)]
 have e : (BitVec.ofInt 64 (63 : Int)).toNat = 63 := rfl
 have e2 : n &&& 63 = n := by have := Nat.and_two_pow_sub_one_eq_mod n 6; simp at this; omega
 rw [e, e2, fW (by omega) (by omega)]
theorem aEI (G : aG) (k : Nat) (op d a b c n : Int) (x y z : Nat) (hx : x < 18446744073709551616) (hy : y < 18446744073709551616) (hz : z < 18446744073709551616) :
  cH.f G (k + 2) [WI.v ⟨op, d, a, b, c, n⟩, Un x, Un y, Un z] [] = some (.tup [Un (jW op n x y z).1, .bool (jW op n x y z).2], []) := by
 rw [cH.step]
 unfold cH.c WI.v
 obtain ⟨w, hw⟩ : ∃ w, w = bits .and .i64 n 63 := ⟨_, rfl⟩
 have k0 : aQ Tryd.prog .and 2 true (I6 n) (.int .i64 63) = some (I6 w) := by rw [pJ, hw]
 obtain ⟨w2, hw2⟩ : ∃ w2, w2 = IntKind.u64.wrap w := ⟨_, rfl⟩
 have k0' : aJ .u64 (I6 w) = some (.int .u64 w2) := by rw [fE, hw2]
 have hw3 : 0 ≤ n → n ≤ 63 → w2 = n := fun h0 h1 => by
  obtain ⟨m, rfl⟩ : ∃ m : Nat, n = (m : Int) := ⟨n.toNat, by omega⟩
  rw [hw2, hw, aNd m (by omega), fF (by omega) (by omega)]
 clear hw hw2
 have k1 := iG .i64 n
 have k3 := qN Tryd.prog 43 false x y
 have k4 := zL Tryd.prog 43 false x y hy
 have k5 := vH Tryd.prog 43 false x y
 have k6 : ∀ H, aD (cE.f G (k + 1)) [Un x, Un y] H = _ := fun H => aE (H := H) (zS G k x y hx hy) rfl rfl
 have k7 : aQ Tryd.prog .and 43 false (Un x) (Un y) = some (Un (x &&& y)) := by rw [pJ, uO x y hx hy]
 have k8 : aQ Tryd.prog .or 43 false (Un x) (Un y) = some (Un (x ||| y)) := by rw [aCJ, aIm x y hx hy]
 have k9 : aQ Tryd.prog .xor 43 false (Un x) (Un y) = some (Un (x ^^^ y)) := by rw [zH, zB x y hx hy]
 have k10 : 0 ≤ n → n ≤ 63 → aQ Tryd.prog .shl 43 false (Un x) (.int .u64 w2) = some (Un (x * 2 ^ n.toNat % 18446744073709551616)) := fun h0 h1 => by
  have := uW Tryd.prog 43 false .u64 x n.toNat (by omega); rw [Int.toNat_of_nonneg h0] at this; rw [hw3 h0 h1]; exact this
 have k11 : 0 ≤ n → n ≤ 63 → aQ Tryd.prog .shr 43 false (Un x) (.int .u64 w2) = some (Un (x / 2 ^ n.toNat)) := fun h0 h1 => by
  have := sM Tryd.prog 43 false .u64 x n.toNat (by omega); rw [Int.toNat_of_nonneg h0] at this; rw [hw3 h0 h1]; exact this
 have k12 := uS x hx
 have k13 : 0 ≤ n → n ≤ 63 → aQ Tryd.prog .shr 2 false (I6 (mT x)) (.int .u64 w2) = some (I6 ((mT x).fdiv (2 ^ n.toNat))) := fun h0 h1 => by
  rw [hw3 h0 h1, zA _ _ _ _ _ _ _ h0]
  have e : min n.toNat IntKind.i64.bits = n.toNat := Nat.min_eq_left (by have : IntKind.i64.bits = 64 := rfl; omega)
  rw [e]
 have k14 := iG .i64 ((mT x).fdiv (2 ^ n.toNat))
 have hq : u64 ((mT x).fdiv (2 ^ n.toNat)) = aCw x n.toNat := rfl
 rw [hq] at k14
 clear hw3 hq
 refine eZ ?_
 repeat' first
  | (with_reducible first | refine eT ?_ | refine eN ?_ | refine eS ?_ | refine eXn ?_ | refine eXr ?_ | refine eX ?_ | refine eI ?_ | refine eK ?_ | refine eV0 ?_ | refine sW ?_ | refine sX ?_ | refine sV ?_ | refine tD ?_ | refine tB ?_ | refine sY ?_)
  | ((with_reducible apply eCn); (simp only [eG, eF]; first | done | (with_reducible exact rfl)))
  | ((with_reducible apply eJ); (rfl))
  | ((with_reducible apply sZ); (first | rfl | (simp only [eG, eF]; rfl)))
  | ((with_reducible apply eB); (first | (with_reducible exact rfl) | (simp (disch := omega) only [qf, k0, k0', k1, k3, k4, k5, k6, k7, k8, k9, k10, k11, k12, k13, k14]; first | done | (with_reducible exact rfl) | (with_reducible exact ⟨rfl, rfl⟩)) | (simp (disch := omega) only [qa, jY, AV.cells, fQ, aY, lO, fR, fX, kX, Nat.reduceLeDiff, Nat.reduceLT, Nat.reduceAdd, ↓reduceIte, k0, k0', k1, k3, k4, k5, k6, k7, k8, k9, k10, k11, k12, k13, k14]; first | done | (with_reducible exact rfl) | (with_reducible exact ⟨rfl, rfl⟩))))
  | ((with_reducible apply eR); (simp only [eG, eF]; (with_reducible exact rfl)))
  | ((with_reducible first | refine tY ?_ ?_ | refine tU ?_ ?_ | refine tQ ?_ ?_ | refine tW ?_ ?_ | refine uE ?_ ?_ | refine tP ?_ ?_ | refine tX ?_ ?_ | refine pB ?_ ?_ | refine sGd ?_ ?_ | refine oZ ?_ ?_) <;> intro hq <;> try subst hq)
 all_goals first | (refine nY ?_ ?_ <;> ((try simp (disch := omega) only [jW, qW, if_pos, if_neg, if_true, if_false, ↓reduceIte]) <;> first | done | rfl | omega)) | (by_cases h10 : op = 10 ∨ op = 11 ∨ op = 12 <;> refine nY ?_ ?_ <;> ((try simp (disch := omega) only [jW, qW, if_pos, if_neg, if_true, if_false, ↓reduceIte]) <;> first | done | rfl | omega))
def xF (s : MS) (wr : Int) : AV := .agg [I6 s.code, .sl 2 s.mem.length 0 s.mem.length 1, .sl 6 s.leaks.length 0 s.leaks.length 2, Nn s.steps, I6 wr]
def oY (s : MS) (wr : Int) : aF :=
 [⟨40, 5, [.agg [.int .i64 0, .nils, .sl 5 0 0 0 2, .int .i64 0, .int .i64 0]]⟩, ⟨43, 1, []⟩, ⟨43, 1, bT s.mem⟩, ⟨40, 5, [xF s wr]⟩, ⟨43, 1, bT (s.regs ++ [0])⟩, ⟨107, 2, []⟩, ⟨107, 2, iM s.leaks⟩]
def iV (s : MS) (wr : Int) (x : AV) : aF :=
 [⟨40, 5, [.agg [.int .i64 0, .nils, .sl 5 0 0 0 2, .int .i64 0, .int .i64 0]]⟩, ⟨43, 1, []⟩, ⟨43, 1, bT s.mem⟩, ⟨40, 5, [xF s wr]⟩, ⟨43, 1, bT (s.regs ++ [0])⟩, ⟨107, 2, []⟩, ⟨107, 2, iM s.leaks⟩, ⟨60, 6, [x]⟩]
def aBk (s : MS) (wr : Int) (l : aF) : aF :=
 ⟨40, 5, [xF s wr]⟩ :: ⟨43, 1, []⟩ :: ⟨43, 1, bT s.mem⟩ :: ⟨40, 5, [xF s wr]⟩ :: ⟨43, 1, bT (s.regs ++ [0])⟩ :: ⟨107, 2, []⟩ :: ⟨107, 2, iM s.leaks⟩ :: l
def tF (sp : AV) (fuel : Int) (bc bor : Bool) (cs : List WI) (R : Nat) (M : Int) (pc : Nat) : List AV :=
 [sp, I6 fuel, .rp bc (.agg [.ro bor (iE cs), I6 R, I6 M]) 0, .ptr 0 1 0 0, .ptr 3 1 0 0, .sl 4 (R + 1) 0 (R + 1) 1, Nn pc]
section
variable (G : aG) (s : MS) (wr : Int) (x : AV)
abbrev zI : AV := .agg [.int .i64 0, .int .i64 0, .int .i64 0, .int .i64 0, .int .i64 0, .int .i64 0]
theorem aNn : (oY s wr).length = 7 := rfl
theorem aJn : aC G false 1 (.ptr 3 1 0 3) (oY s wr) = some (Nn s.steps) := rfl
theorem aMc (n : Int) : fB (aL 1 (.ptr 3 1 0 0) (I6 n) (oY s wr)) = some (.tup [], oY { s with code := n } wr) := rfl
theorem aON : aC G true 5 (.ptr 3 1 0 0) (oY s wr) = some (xF s wr) := rfl
theorem aOu : fB (aL 5 (.ptr 0 1 0 0) (xF s wr) (oY s wr)) = some (.tup [], aBk s wr []) := rfl
theorem aPc : fI 60 zI (oY s wr) = some (.ptr 7 1 0 0, iV s wr zI) := rfl
theorem aOZ (i : WI) : fB (aL 6 (.ptr 7 1 0 0) i.v (iV s wr zI)) = some (.tup [], iV s wr i.v) := rfl
theorem aNB : aC G false 1 (.ptr 3 1 0 3) (iV s wr x) = some (Nn s.steps) := rfl
theorem aIc (n : Nat) : fB (aL 1 (.ptr 3 1 0 3) (Nn n) (iV s wr x)) = some (.tup [], iV { s with steps := n } wr x) := rfl
theorem aLQ (n : Int) : fB (aL 1 (.ptr 3 1 0 0) (I6 n) (iV s wr x)) = some (.tup [], iV { s with code := n } wr x) := rfl
theorem rM : aC G true 5 (.ptr 3 1 0 0) (iV s wr x) = some (xF s wr) := rfl
theorem aOk : fB (aL 5 (.ptr 0 1 0 0) (xF s wr) (iV s wr x)) = some (.tup [], aBk s wr [⟨60, 6, [x]⟩]) := rfl
theorem aFJ : aC G false 1 (.ptr 3 1 0 2) (iV s wr x) = some (.sl 6 s.leaks.length 0 s.leaks.length 2) := rfl
theorem aPk : aC G false 1 (.ptr 3 1 0 1) (iV s wr x) = some (.sl 2 s.mem.length 0 s.mem.length 1) := rfl
theorem rI0 (i : WI) : aC G false 1 (.ptr 7 1 0 0) (iV s wr i.v) = some (I6 i.op) := rfl
theorem rI1 (i : WI) : aC G false 1 (.ptr 7 1 0 1) (iV s wr i.v) = some (I6 i.d) := rfl
theorem rI2 (i : WI) : aC G false 1 (.ptr 7 1 0 2) (iV s wr i.v) = some (I6 i.a) := rfl
theorem rI3 (i : WI) : aC G false 1 (.ptr 7 1 0 3) (iV s wr i.v) = some (I6 i.b) := rfl
theorem rI4 (i : WI) : aC G false 1 (.ptr 7 1 0 4) (iV s wr i.v) = some (I6 i.c) := rfl
theorem rI5 (i : WI) : aC G false 1 (.ptr 7 1 0 5) (iV s wr i.v) = some (I6 i.k) := rfl
theorem rI6 (i : WI) : aC G true 6 (.ptr 7 1 0 0) (iV s wr i.v) = some i.v := rfl
theorem aJT (p : Int × Int) (hl : s.leaks.length ≤ 1000000) : fS 107 2 (.sl 6 s.leaks.length 0 s.leaks.length 2) (.ro false [kW p]) (iV s wr x) =
  some (.sl 6 (s.leaks.length + 1) 0 (s.leaks.length + 1) 2, (iV s wr x).set 6 ⟨107, 2, iM (s.leaks ++ [p])⟩) := by
 have e : (iV s wr x)[6]? = some ⟨107, 2, iM s.leaks⟩ := rfl
 unfold fS
 simp only [e, jF, kO, List.length_singleton]
 rw [if_pos (by refine ⟨?_, ?_, ?_, ?_, ?_⟩ <;> first | trivial | rfl | omega)]
 have e2 : (iM s.leaks).take s.leaks.length = iM s.leaks := List.take_of_length_le (by rw [kO]; exact Nat.le_refl _)
 have e3 : (iM s.leaks).drop (s.leaks.length + 1) = [] := List.drop_of_length_le (by rw [kO]; omega)
 rw [e2, e3, List.append_nil]
 have e4 : iM s.leaks ++ [kW p] = iM (s.leaks ++ [p]) := by simp [iM]
 rw [e4, kO]; simp
theorem aJU (p : Int × Int) : fB (aL 1 (.ptr 3 1 0 2) (.sl 6 (s.leaks.length + 1) 0 (s.leaks.length + 1) 2) ((iV s wr x).set 6 ⟨107, 2, iM (s.leaks ++ [p])⟩)) =
  some (.tup [], iV (s.leak p.1 p.2) wr x) := by
 have e : (s.leak p.1 p.2).leaks.length = s.leaks.length + 1 := by simp [MS.leak]
 unfold iV xF
 rw [e]
 rfl
theorem aNE (R : Nat) (j : Int) (h0 : 0 ≤ j) (hj : j ≤ R) (hR : s.regs.length = R) : aC G false 1 (.ptr 4 (R + 1) j.toNat 0) (iV s wr x) = some (Un (s.rg j)) := by
 have e : (iV s wr x)[4]? = some ⟨43, 1, bT (s.regs ++ [0])⟩ := rfl
 have hl : (s.regs ++ [0]).length = R + 1 := by simp [hR]
 have h1 : j.toNat < (s.regs ++ [0]).length := by rw [hl]; omega
 have e2 : (s.regs ++ [0]).getD j.toNat 0 = s.rg j := by
  unfold MS.rg
  simp only [List.getD_eq_getElem?_getD]
  by_cases hlt : j.toNat < s.regs.length
  ·rw [List.getElem?_append_left hlt]
  ·rw [List.getElem?_append_right (by omega), List.getElem?_eq_none (l := s.regs) (by omega)]
   have : j.toNat - s.regs.length = 0 := by omega
   rw [this]; rfl
 unfold aC
 simp only [e, bN, hl, lQ _ _ h1, if_true, e2]
 rfl
theorem aOb (R : Nat) (j : Int) (n : Nat) (h0 : 0 ≤ j) (hj : j < R) (hR : s.regs.length = R) : fB (aL 1 (.ptr 4 (R + 1) j.toNat 0) (Un n) (iV s wr x)) = some (.tup [], iV (s.set j n) wr x) := by
 have e : (iV s wr x)[4]? = some ⟨43, 1, bT (s.regs ++ [0])⟩ := rfl
 have hl : (s.regs ++ [0]).length = R + 1 := by simp [hR]
 have h1 : j.toNat < (s.regs ++ [0]).length := by rw [hl]; omega
 have e2 : (s.set j n).regs ++ [0] = (s.regs ++ [0]).set j.toNat n := by
  unfold MS.set
  rw [List.set_append_left _ _ (by omega)]
 unfold aL
 simp only [e, bN, hl, lQ _ _ h1]
 unfold iV
 rw [e2, sQ]
 rfl
theorem aOV (j : Nat) (h : j < s.mem.length) : aC G false 1 (.ptr 2 s.mem.length j 0) (iV s wr x) = some (Un (s.mem.getD j 0)) := by
 have e : (iV s wr x)[2]? = some ⟨43, 1, bT s.mem⟩ := rfl
 unfold aC
 simp only [e, bN, lQ _ _ h, if_true]
 rfl
theorem aPe (n : Nat) (h : n < s.mem.length) : cJ 1 (.sl 2 s.mem.length 0 s.mem.length 1) (Un n) = some (.ptr 2 s.mem.length n 0) := by
 have h0 : (0 : Int) ≤ (n : Int) := by omega
 have h' : (n : Int) < (s.mem.length : Int) := by omega
 simp [cJ, h0, h']
theorem aPb (j n : Nat) (h : j < s.mem.length) : fB (aL 1 (.ptr 2 s.mem.length j 0) (Un n) (iV s wr x)) = some (.tup [], iV { s with mem := s.mem.set j n } wr x) := by
 have e : (iV s wr x)[2]? = some ⟨43, 1, bT s.mem⟩ := rfl
 unfold aL
 simp only [e, bN, lQ _ _ h]
 unfold iV xF
 simp only [List.length_set, sQ]
 rfl
theorem idR (R : Nat) (j : Int) (h0 : 0 ≤ j) (hj : j ≤ R) : cJ 1 (.sl 4 (R + 1) 0 (R + 1) 1) (I6 j) = some (.ptr 4 (R + 1) j.toNat 0) := by
 have h' : j < ((R + 1 : Nat) : Int) := by omega
 simp only [cJ]
 rw [if_pos ⟨h0, h'⟩, if_pos trivial, Nat.zero_add]
end
structure WI.Ok2 (i : WI) (R n : Nat) : Prop where
 ok : i.Ok R n
 sh : 10 ≤ i.op → i.op ≤ 12 → 0 ≤ i.k ∧ i.k ≤ 63
 ha : 0 ≤ i.a ∧ i.a ≤ R
 hb : 0 ≤ i.b ∧ i.b ≤ R
theorem aGc {op n : Int} {a b c : Nat} (h : 1 ≤ op ∧ op ≤ 14) (hs : 10 ≤ op → op ≤ 12 → 0 ≤ n ∧ n ≤ 63) : (jW op n a b c).2 = true := by
 by_cases e : op = 10 ∨ op = 11 ∨ op = 12
 ·have := hs (by omega) (by omega)
  have e2 : jW op n a b c = qW op n a := by
   unfold jW
   simp (disch := omega) only [if_neg, if_pos]
  rw [e2]
  unfold qW
  rw [if_neg (by omega)]
  split
  ·rfl
  ·split <;> rfl
 ·have : op = 1 ∨ op = 2 ∨ op = 3 ∨ op = 4 ∨ op = 5 ∨ op = 6 ∨ op = 7 ∨ op = 8 ∨ op = 9 ∨ op = 13 ∨ op = 14 := by omega
  rcases this with rfl | rfl | rfl | rfl | rfl | rfl | rfl | rfl | rfl | rfl | rfl <;> simp [jW]
theorem aJo {i : WI} {R n : Int} (h : jJ i R n = none) (hR : 0 ≤ R) : i.Ok2 R.toNat n.toNat := by
 have h0 := aGy h hR
 unfold jJ at h
 have h20 := h0.op
 by_cases h1 : vQ (mC i.op) i R = true
 ·rw [if_pos h1] at h; split at h <;> cases h
 rw [if_neg h1] at h
 by_cases h2 : vO (mC i.op) i = true
 ·rw [if_pos h2] at h; split at h <;> cases h
 rw [if_neg h2] at h
 obtain ⟨op, d, a, b, c, kk⟩ := i
 simp only at h h1 h2 h20
 simp only [vQ, vO, Bool.or_eq_true, not_or, Bool.and_eq_true, Bool.not_eq_true', decide_eq_true_eq, not_and, Bool.not_eq_true] at h1 h2
 rcases aDQ h20 with rfl | rfl | rfl | rfl | rfl | rfl | rfl | rfl | rfl | rfl | rfl | rfl | rfl | rfl | rfl | rfl | rfl | rfl | rfl | rfl
 all_goals (
  simp [mC, kF, nW] at h1 h2
  simp [kF] at h
  exact ⟨h0, by simp; try omega, by simp; omega, by simp; omega⟩)
theorem aDO (G : aG) (k : Nat) (b : Bool) : bY.f G (k + 1) [.bool b] [] = some (.int .i64 (if b = true then 1 else 0), []) := by cases b <;> kernel_rfl
section
variable (G : aG) (k : Nat) (self : cN) (fuel : Int) (bc bor : Bool) (cs : List WI) (R : Nat) (s : MS) (wr : Int)
theorem aFf (sp : AV) (hsp : cG 0 sp = true) (M : Int) (pc : Nat) (H : aF) (hH : H.take 7 = oY s wr) : iR 7 (tF sp fuel bc bor cs R M pc) H = some (oY s wr) := by
 have h1 := lE (Nat.zero_le 7) hsp
 have h2 : dY 7 (oY s wr) = true := by simp [oY, xF, dY, dH, cG, gY, oH]
 unfold iR
 rw [hH, h2]
 simp [tF, dH, cG, jV, h1]
theorem aIf (lp : iP) (i : WI) (H : aF) (hH : H.take 7 = oY s wr) (hs : s.Ok R) (hi : i.Ok2 R cs.length) (hcl : cs.length ≤ 100000) (hat : s.at_ < cs.length) (hci : cs.getD s.at_ default = i)
  (hst : (s.steps : Int) < fuel) (hst2 : s.steps ≤ 99998) (M : Int) (hM : M = s.mem.length) :
  bP.l4 G (k + 3) 7 self lp (tF .nils fuel bc bor cs R M s.at_) H =
   match s.tick.step i with
   | (s', true) => lp (tF .nils fuel bc bor cs R M s'.at_) (iV s' wr i.v)
   | (s', false) => some (.ret, tF .nils fuel bc bor cs R M s.at_, aBk s' wr [⟨60, 6, [i.v]⟩]) := by
 rw [bP.l4]
 have hc := aFf fuel bc bor cs R s wr .nils rfl M s.at_ H hH
 unfold tF at *
 have hll : s.leaks.length ≤ 999990 := by have := hs.leaks; omega
 refine jT ?_
 refine eC hc ?_
 have lc : dQ (.ro bor (iE cs)) = some (I6 cs.length) := by simp [dQ, kE]
 have q1 : aQ Tryd.prog .geq 3 false (Nn s.at_) (I6 cs.length) = some (.bool false) := by rw [mH, decide_eq_false (by omega)]
 have q2 : aQ Tryd.prog .geq 2 false (Nn s.steps) (I6 fuel) = some (.bool false) := by rw [mH, decide_eq_false (by omega)]
 have q3 : aQ Tryd.prog .add 2 true (Nn s.steps) (.int .i64 1) = some (Nn (s.steps + 1)) := by
  rw [kL, fW (by omega) (by omega)]; congr 2
 have q4 : aQ Tryd.prog .add 3 true (Nn s.at_) (.int .i64 1) = some (Nn (s.at_ + 1)) := by
  rw [kL, fW (by omega) (by omega)]; congr 2
 have d1 := aIG bor cs s.at_ hat
 rw [hci] at d1
 have d2 : ∀ H, aC G true 6 (.rp bor i.v 0) H = some i.v := fun H => rfl
 have p1 := aJn G s wr
 have p2 := aPc s wr
 have p3 := aOZ s wr i
 have p4 := aNB G s wr i.v
 have p5 := aIc s wr i.v (s.steps + 1)
 obtain ⟨s1, hs1⟩ : ∃ s1 : MS, s1 = { s with steps := s.steps + 1 } := ⟨_, rfl⟩
 have hl1 : s1.leaks.length = s.leaks.length := by rw [hs1]
 rw [← hs1] at p5
 have p6 := aFJ G s1 wr i.v
 have p7 : fS 107 2 (.sl 6 s1.leaks.length 0 s1.leaks.length 2) (.ro false [.agg [.int .i64 1, Nn s.at_]]) (iV s1 wr i.v) = _ := aJT s1 wr i.v (1, s.at_) (by omega)
 have p8 := aJU s1 wr i.v (1, s.at_)
 have ht : s1.leak 1 s.at_ = s.tick := by rw [hs1]; rfl
 simp only [ht] at p8
 obtain ⟨t, htt⟩ : ∃ t, t = s.tick := ⟨_, rfl⟩
 have tok : t.Ok R := by
  rw [htt]; exact ⟨hs.len, hs.regs, hs.mem, by have := hs.leaks; simp [MS.tick, MS.leak]; omega, hs.big, by simp [MS.tick, MS.leak]; omega⟩
 have tat : t.at_ = s.at_ := by rw [htt]; rfl
 have tll : t.leaks.length ≤ 999991 := by rw [htt]; simp [MS.tick, MS.leak]; omega
 have tmem : t.mem = s.mem := by rw [htt]; rfl
 rw [← htt] at p8 ⊢
 clear htt ht hs1 hH hc
 have tR := tok.len
 obtain ⟨a0, a1⟩ := hi.ha
 obtain ⟨b0, b1⟩ := hi.hb
 have r2 := rI2 G t wr i
 have r3 := rI3 G t wr i
 have r0 := rI0 G t wr i
 have i2 := idR R i.a a0 a1
 have i3 := idR R i.b b0 b1
 have l2 := aNE G t wr i.v R i.a a0 a1 tR
 have l3 := aNE G t wr i.v R i.b b0 b1 tR
 have r5 := rI5 G t wr i
 have fx := aPQ lc <| aPQ q1 <| aPQ q2 <| aPQ q3 <| aPQ q4 <| aPQ d1 <| aPQ d2 <| aPQ p1 <| aPQ p2 <| aPQ p3 <| aPQ p4 <| aPQ p5 <| aPQ p6 <| aPQ p7 <| aPQ p8 <| aPQ r0 <| aPQ r2 <| aPQ r3 <| aPQ i2 <| aPQ i3 <| aPQ l2 <| l3
 refine kM ?_
 clear lc q1 q2 q3 d1 d2 p1 p2 p3 p4 p5 p6 p7 p8 i2 i3 l2 l3 hci
 have e0 : t.step i = (let u : MS := { t with at_ := t.at_ + 1 };
  if i.op = 15 ∨ i.op = 16 then u.touch i
  else if i.op = 17 ∨ i.op = 18 ∨ i.op = 19 then (u.branch i, true)
  else if i.op = 20 then ({ u with code := i.k }, false)
  else if (jW i.op i.k (t.rg i.a) (t.rg i.b) (t.rg i.c)).2 = true then (u.set i.d (jW i.op i.k (t.rg i.a) (t.rg i.b) (t.rg i.c)).1, true)
  else (u, true)) := rfl
 have eat : t.at_ + 1 = s.at_ + 1 := by rw [tat]
 have hop := hi.ok.op
 subst hM
 by_cases h1 : i.op = 15 ∨ i.op = 16
 ·obtain ⟨ad, had⟩ : ∃ z, z = (t.rg i.a + u64 i.k) % 18446744073709551616 := ⟨_, rfl⟩
  have hadl : ad < 18446744073709551616 := by rw [had]; exact Nat.mod_lt _ (by decide)
  have c1 : aJ .u64 (I6 i.k) = some (Un (u64 i.k)) := iG ..
  have c2 := qN Tryd.prog 43 false (t.rg i.a) (u64 i.k)
  rw [← had] at c2
  have c3 := uS ad hadl
  have p6 := aFJ G t wr i.v
  have p7 : fS 107 2 (.sl 6 t.leaks.length 0 t.leaks.length 2) (.ro false [.agg [.int .i64 3, I6 (mT ad)]]) (iV t wr i.v) = _ := aJT t wr i.v (3, mT ad) (by omega)
  have p8 := aJU t wr i.v (3, mT ad)
  have e1 : t.step i = (if t.mem.length ≤ ad then ({ (({ t with at_ := t.at_ + 1 } : MS).leak 3 (mT ad)) with code := 3 }, false) else if i.op = 15 then (({ t with at_ := t.at_ + 1 } : MS).leak 3 (mT ad) |>.set i.d (t.mem.getD ad 0), true) else ({ (({ t with at_ := t.at_ + 1 } : MS).leak 3 (mT ad)) with mem := t.mem.set ad (t.rg i.b) }, true)) := by
   rw [e0]
   simp only
   rw [if_pos h1]
   unfold MS.touch
   simp only
   rw [had]; rfl
  rw [e1]
  clear e0 e1 had
  have hml : t.mem.length = s.mem.length := by rw [tmem]
  have hbig := hs.big
  obtain ⟨t1, ht1⟩ : ∃ t1, t1 = t.leak 3 (mT ad) := ⟨_, rfl⟩
  have t1m : t1.mem = t.mem := by rw [ht1]; rfl
  have t1r : t1.regs = t.regs := by rw [ht1]; rfl
  simp only [← ht1] at p8
  have r0' := rI0 G t1 wr i
  have r1' := rI1 G t1 wr i
  have cM : aJ .u64 (I6 (s.mem.length : Int)) = some (Un s.mem.length) := by rw [iG, aKJ _ (by omega)]
  have bcM : ∀ H, aC G false 1 (.rp bc (.agg [.ro bor (iE cs), I6 R, I6 (s.mem.length : Int)]) 2) H = some (I6 (s.mem.length : Int)) := fun H => rfl
  by_cases hin : t.mem.length ≤ ad
  ·rw [if_pos hin]
   have q5 : aQ Tryd.prog .geq 43 false (Un ad) (Un s.mem.length) = some (.bool true) := by rw [mH, decide_eq_true (by omega)]
   have z1 := aLQ t1 wr i.v 3
   have z2 := rM G { t1 with code := 3 } wr i.v
   have z3 := aOk { t1 with code := 3 } wr i.v
   repeat' first
    | (with_reducible first | refine eT ?_ | refine eN ?_ | refine eS ?_ | refine eXn ?_ | refine eXr ?_ | refine eX ?_ | refine eI ?_ | refine eK ?_ | refine eV0 ?_ | refine sW ?_ | refine sX ?_ | refine sV ?_ | refine tD ?_ | refine tB ?_ | refine sY ?_)
    | ((with_reducible apply eCn); (simp only [eG, eF]; first | done | (with_reducible exact rfl)))
    | ((with_reducible apply eJ); (rfl))
    | ((with_reducible apply sZ); (first | rfl | (simp only [eG, eF]; rfl)))
    | ((with_reducible apply eB); (first | (with_reducible exact rfl) | (simp (disch := omega) only [qf, r5, c1, c2, c3, p6, p7, p8, cM, bcM, q5, z1, z2, z3]; first | done | (with_reducible exact rfl) | (with_reducible exact ⟨rfl, rfl⟩)) | (simp (disch := omega) only [qa, jY, AV.cells, fQ, aY, lO, fR, fX, kX, Nat.reduceLeDiff, Nat.reduceLT, Nat.reduceAdd, ↓reduceIte, r5, c1, c2, c3, p6, p7, p8, cM, bcM, q5, z1, z2, z3]; first | done | (with_reducible exact rfl) | (with_reducible exact ⟨rfl, rfl⟩))))
    | ((with_reducible apply eR); (simp only [eG, eF]; (with_reducible exact rfl)))
    | ((with_reducible first | refine tY ?_ ?_ | refine tU ?_ ?_ | refine tQ ?_ ?_ | refine tW ?_ ?_ | refine uE ?_ ?_ | refine tP ?_ ?_ | refine tX ?_ ?_ | refine pB ?_ ?_ | refine sGd ?_ ?_ | refine oZ ?_ ?_) <;> intro hq <;> try subst hq)
   all_goals (rw [ht1]; refine iA ?_; rfl)
  ·rw [if_neg hin]
   have q5 : aQ Tryd.prog .geq 43 false (Un ad) (Un s.mem.length) = some (.bool false) := by rw [mH, decide_eq_false (by omega)]
   have m1 := aPk G t1 wr i.v
   have m2 := aPe t1 ad (by rw [t1m]; omega)
   have m3 := aOV G t1 wr i.v ad (by rw [t1m]; omega)
   by_cases h15 : i.op = 15
   ·rw [if_pos h15]
    have q6 : aQ Tryd.prog .eql 3 true (I6 i.op) (.int .i64 15) = some (.bool true) := by rw [kV, decide_eq_true h15]
    obtain ⟨d0, dR⟩ := hi.ok.d (by omega)
    have m4 := idR R i.d d0 (by omega)
    have m5 := aOb t1 wr i.v R i.d (t1.mem.getD ad 0) d0 dR (by rw [t1r]; exact tR)
    have fx := aPQ r5 <| aPQ c1 <| aPQ c2 <| aPQ c3 <| aPQ p6 <| aPQ p7 <| aPQ p8 <| aPQ cM <| aPQ bcM <| aPQ q5 <| aPQ q6 <| aPQ r0' <| aPQ r1' <| aPQ m1 <| aPQ m2 <| aPQ m3 <| aPQ m4 <| m5
    refine gM ?_
    rw [t1m, ht1, ← eat]; refine iA ?_; rfl
   ·rw [if_neg h15]
    have q6 : aQ Tryd.prog .eql 3 true (I6 i.op) (.int .i64 15) = some (.bool false) := by rw [kV, decide_eq_false h15]
    have m5 := aPb t1 wr i.v ad (t.rg i.b) (by rw [t1m]; omega)
    have fx := aPQ r5 <| aPQ c1 <| aPQ c2 <| aPQ c3 <| aPQ p6 <| aPQ p7 <| aPQ p8 <| aPQ cM <| aPQ bcM <| aPQ q5 <| aPQ q6 <| aPQ r0' <| aPQ r1' <| aPQ m1 <| aPQ m2 <| aPQ m3 <| m5
    refine gM ?_
    rw [t1m, ht1, ← eat]; refine iA ?_; rfl
 by_cases h2 : i.op = 17 ∨ i.op = 18 ∨ i.op = 19
 ·have hk := hi.ok.k (by omega) (by omega)
  have nk : I6 i.k = Nn i.k.toNat := by show AV.int .i64 i.k = .int .i64 _; congr 1; omega
  rw [nk] at r5
  have e1 : t.step i = (({ t with at_ := t.at_ + 1 } : MS).branch i, true) := by
   rw [e0]
   simp only
   rw [if_neg h1, if_pos h2]
  rw [e1]
  clear e0 e1
  by_cases h17 : i.op = 17
  ·unfold MS.branch
   rw [if_pos h17]
   have fx := aPQ r0 <| r5
   refine gM ?_
   refine iA ?_; rfl
  ·unfold MS.branch
   rw [if_neg h17]
   have p6 := aFJ G t wr i.v
   have z0 : aQ Tryd.prog .eql 43 true (Un (t.rg i.a)) (.int .u64 0) = some (.bool (decide (t.rg i.a = 0))) := by
    rw [kV]; congr 2; simp only [decide_eq_decide]; omega
   have z1 : aQ Tryd.prog .eql 3 true (I6 i.op) (.int .i64 18) = some (.bool (decide (i.op = 18))) := kV ..
   have z2 : aQ Tryd.prog .eql 4 false (.bool (decide (t.rg i.a = 0))) (.bool (decide (i.op = 18))) = some (.bool (decide (t.rg i.a = 0) == decide (i.op = 18))) := qJ Tryd.underlying4 ..
   have z3 : ∀ b H, aD (bY.f G (k + 3)) [.bool b] H = _ := fun b H => aE (H := H) (aDO G (k + 2) b) rfl rfl
   have rgu : (({ t with at_ := t.at_ + 1 } : MS).rg i.a) = t.rg i.a := rfl
   rw [rgu]
   by_cases hg : (decide (t.rg i.a = 0) == decide (i.op = 18)) = true
   ·rw [if_pos hg]
    rw [hg] at z2
    have z3' := z3 true
    rw [if_pos rfl] at z3'
    have p7 : fS 107 2 (.sl 6 t.leaks.length 0 t.leaks.length 2) (.ro false [.agg [.int .i64 2, .int .i64 1]]) (iV t wr i.v) = _ := aJT t wr i.v (2, 1) (by omega)
    have p8 := aJU t wr i.v (2, 1)
    have r5' : ∀ y, aC G false 1 (.ptr 7 1 0 5) (iV (t.leak 2 y) wr i.v) = some (Nn i.k.toNat) := fun y => by rw [rI5, nk]
    clear z3
    have w18 : aQ Tryd.prog .eql 3 true (I6 i.op) (.int .i64 17) = some (.bool false) := by rw [kV, decide_eq_false h17]
    generalize decide (t.rg i.a = 0) = g1 at *
    generalize hg2 : decide (i.op = 18) = g2 at *
    have w19 : g2 = false → aQ Tryd.prog .eql 3 true (I6 i.op) (.int .i64 19) = some (.bool true) := fun h => by
     subst h; simp at hg2; rw [kV, decide_eq_true (by omega)]
    cases hgg : g2
    ·rw [hgg] at z1 z2
     have w19 := w19 hgg
     have fx := aPQ r0 <| aPQ r5' <| aPQ p6 <| aPQ p7 <| aPQ p8 <| aPQ z0 <| aPQ z1 <| aPQ z2 <| aPQ z3' <| aPQ w18 <| w19
     refine gM ?_
     refine iA ?_; rfl
    ·rw [hgg] at z1 z2
     have fx := aPQ r0 <| aPQ r5' <| aPQ p6 <| aPQ p7 <| aPQ p8 <| aPQ z0 <| aPQ z1 <| aPQ z2 <| aPQ z3' <| w18
     refine gM ?_
     refine iA ?_; rfl
   ·rw [if_neg hg]
    rw [Bool.not_eq_true] at hg
    rw [hg] at z2
    have z3' := z3 false
    rw [if_neg (by decide)] at z3'
    have p7 : fS 107 2 (.sl 6 t.leaks.length 0 t.leaks.length 2) (.ro false [.agg [.int .i64 2, .int .i64 0]]) (iV t wr i.v) = _ := aJT t wr i.v (2, 0) (by omega)
    have p8 := aJU t wr i.v (2, 0)
    clear z3
    have w18 : aQ Tryd.prog .eql 3 true (I6 i.op) (.int .i64 17) = some (.bool false) := by rw [kV, decide_eq_false h17]
    generalize decide (t.rg i.a = 0) = g1 at *
    generalize hg2 : decide (i.op = 18) = g2 at *
    have w19 : g2 = false → aQ Tryd.prog .eql 3 true (I6 i.op) (.int .i64 19) = some (.bool true) := fun h => by
     subst h; simp at hg2; rw [kV, decide_eq_true (by omega)]
    cases hgg : g2
    ·rw [hgg] at z1 z2
     have w19 := w19 hgg
     have fx := aPQ r0 <| aPQ p6 <| aPQ p7 <| aPQ p8 <| aPQ z0 <| aPQ z1 <| aPQ z2 <| aPQ z3' <| aPQ w18 <| w19
     refine gM ?_
     rw [← eat]; refine iA ?_; rfl
    ·rw [hgg] at z1 z2
     have fx := aPQ r0 <| aPQ p6 <| aPQ p7 <| aPQ p8 <| aPQ z0 <| aPQ z1 <| aPQ z2 <| aPQ z3' <| w18
     refine gM ?_
     rw [← eat]; refine iA ?_; rfl
 by_cases h3 : i.op = 20
 ·have e1 : t.step i = ({ ({ t with at_ := t.at_ + 1 } : MS) with code := i.k }, false) := by
   rw [e0]
   simp only
   rw [if_neg h1, if_neg h2, if_pos h3]
  rw [e1]
  clear e0 e1
  have z1 := aLQ t wr i.v i.k
  have z2 := rM G { t with code := i.k } wr i.v
  have z3 := aOk { t with code := i.k } wr i.v
  have fx := aPQ r0 <| aPQ r5 <| aPQ z1 <| aPQ z2 <| z3
  refine gM ?_
  refine iA ?_; rfl
 ·have hv := aGc (n := i.k) (a := t.rg i.a) (b := t.rg i.b) (c := t.rg i.c) (show 1 ≤ i.op ∧ i.op ≤ 14 by omega) hi.sh
  have e1 : t.step i = (({ t with at_ := t.at_ + 1 } : MS).set i.d (jW i.op i.k (t.rg i.a) (t.rg i.b) (t.rg i.c)).1, true) := by
   rw [e0]
   simp only
   rw [if_neg h1, if_neg h2, if_neg h3, if_pos hv]
  rw [e1]
  clear e0 e1
  obtain ⟨d0, dR⟩ := hi.ok.d (by omega)
  obtain ⟨c0, cR⟩ := hi.ok.c (by omega)
  have z1 := rI6 G t wr i
  have z2 := rI4 G t wr i
  have z3 := idR R i.c c0 (by omega)
  have z4 := aNE G t wr i.v R i.c c0 (by omega) tR
  have z5 : ∀ H, aD (cH.f G (k + 3)) [i.v, Un (t.rg i.a), Un (t.rg i.b), Un (t.rg i.c)] H = _ := fun H => aE (H := H) (aEI G (k + 1) i.op i.d i.a i.b i.c i.k _ _ _ (tok.rg _) (tok.rg _) (tok.rg _)) rfl rfl
  have z6 := rI1 G t wr i
  have z7 := idR R i.d d0 (by omega)
  have z8 := aOb t wr i.v R i.d (jW i.op i.k (t.rg i.a) (t.rg i.b) (t.rg i.c)).1 d0 dR tR
  rw [hv] at z5
  generalize (jW i.op i.k (t.rg i.a) (t.rg i.b) (t.rg i.c)).1 = v at *
  have fx := aPQ r0 <| aPQ z1 <| aPQ z2 <| aPQ z3 <| aPQ z4 <| aPQ z5 <| aPQ z6 <| aPQ z7 <| z8
  refine gM ?_
  rw [← eat]; refine iA ?_; rfl
end
section
variable (G : aG) (k : Nat) (self : cN) (fuel : Int) (bc bor : Bool) (cs : List WI) (R : Nat) (wr : Int)
theorem aGx (hcl : cs.length ≤ 100000) (hcs : ∀ j, j < cs.length → (cs.getD j default).Ok2 R cs.length) (hf : fuel ≤ 99998) (M : Int) : ∀ (f : Nat) (s s' : MS) (H : aF), uK cs fuel f s = some s' → s.Ok R → (s.steps : Int) ≤ fuel → M = s.mem.length → s.at_ ≤ cs.length → H.take 7 = oY s wr →
  ∃ pc l, gV (bP.l4 G (k + 3) 7 self) f (tF .nils fuel bc bor cs R M s.at_) H = some (.ret, tF .nils fuel bc bor cs R M pc, aBk s' wr l)
 | 0, s, s', H, h, hs, hst, hM, hat, hH => by simp [uK] at h
 | f + 1, s, s', H, h, hs, hst, hM, hat, hH => by
  have few := hs.few
  rw [fJ]
  simp only [uK] at h
  by_cases h1 : cs.length ≤ s.at_
  ·rw [if_pos h1] at h
   simp only [Option.some.injEq] at h
   refine ⟨s.at_, [], ?_⟩
   rw [bP.l4]
   have hc := aFf fuel bc bor cs R s wr .nils rfl M s.at_ H hH
   unfold tF at *
   have lc : dQ (.ro bor (iE cs)) = some (I6 cs.length) := by simp [dQ, kE]
   have q1 : aQ Tryd.prog .geq 3 false (Nn s.at_) (I6 cs.length) = some (.bool true) := by rw [mH, decide_eq_true (by omega)]
   have z1 := aMc s wr 3
   have z2 := aON G { s with code := 3 } wr
   have z3 := aOu { s with code := 3 } wr
   rw [h] at z1 z2 z3
   refine jT ?_
   refine eC hc ?_
   have fx := aPQ lc <| aPQ q1 <| aPQ z1 <| aPQ z2 <| z3
   refine gM ?_
   refine iA ?_; rfl
  rw [if_neg h1] at h
  by_cases h2 : (s.steps : Int) = fuel
  ·rw [if_pos h2] at h
   simp only [Option.some.injEq] at h
   refine ⟨s.at_, [], ?_⟩
   rw [bP.l4]
   have hc := aFf fuel bc bor cs R s wr .nils rfl M s.at_ H hH
   unfold tF at *
   have lc : dQ (.ro bor (iE cs)) = some (I6 cs.length) := by simp [dQ, kE]
   have q1 : aQ Tryd.prog .geq 3 false (Nn s.at_) (I6 cs.length) = some (.bool false) := by rw [mH, decide_eq_false (by omega)]
   have q2 : aQ Tryd.prog .geq 2 false (Nn s.steps) (I6 fuel) = some (.bool true) := by rw [mH, decide_eq_true (by omega)]
   have p1 := aJn G s wr
   have z1 := aMc s wr 4
   have z2 := aON G { s with code := 4 } wr
   have z3 := aOu { s with code := 4 } wr
   rw [h] at z1 z2 z3
   refine jT ?_
   refine eC hc ?_
   have fx := aPQ lc <| aPQ q1 <| aPQ q2 <| aPQ p1 <| aPQ z1 <| aPQ z2 <| z3
   refine gM ?_
   refine iA ?_; rfl
  rw [if_neg h2] at h
  have hi := hcs s.at_ (by omega)
  rw [aIf G k self fuel bc bor cs R s wr _ (cs.getD s.at_ default) H hH hs hi hcl (by omega) rfl (by omega) (by omega) M hM]
  have okt : s.tick.Ok R := ⟨hs.len, hs.regs, hs.mem, by have := hs.leaks; simp [MS.tick, MS.leak]; omega, hs.big, by simp [MS.tick, MS.leak]; omega⟩
  obtain ⟨o1, o2, o3, o4⟩ := MS.step_ok okt hi.ok (by have := hs.leaks; simp [MS.tick, MS.leak]; omega) (show s.tick.at_ < cs.length from by show s.at_ < _; omega)
  have tm : s.tick.mem = s.mem := rfl
  have tst : s.tick.steps = s.steps + 1 := rfl
  obtain ⟨s2, b, hsb⟩ : ∃ s2 b, s.tick.step (cs.getD s.at_ default) = (s2, b) := ⟨_, _, rfl⟩
  rw [hsb] at h o1 o2 o3 o4 ⊢
  simp only at h o1 o2 o3 o4
  cases b
  ·simp only [Option.some.injEq] at h
   subst h
   exact ⟨s.at_, _, rfl⟩
  ·exact aGx hcl hcs hf M f s2 s' _ h o1 (by rw [o3, tst]; omega) (by rw [o4, tm]; exact hM) o2 rfl
abbrev aFh : ABlk := ⟨40, 5, [.agg [.int .i64 0, .nils, .nils, .int .i64 0, .int .i64 0]]⟩
def nZ (l : List Nat) : aF := [aFh, ⟨43, 1, []⟩, ⟨43, 1, bT l⟩]
theorem uI (b : Bool) (mem : List Nat) (hml : mem.length ≤ 1000000) : ∀ (suf pre : List Nat) (f : Nat), mem = pre ++ suf → suf.length < f →
  gV (aX.l3 G k 3 self) f [.ro b (bT mem), .sl 2 pre.length 0 pre.length 1, Nn pre.length] (nZ pre) = some (.exit 0, [.ro b (bT mem), .sl 2 mem.length 0 mem.length 1, Nn mem.length], nZ mem)
 | suf, pre, 0, hm, hf => by omega
 | [], pre, f + 1, hm, hf => by
  rw [fJ, aX.l3]
  have hl : mem = pre := by rw [hm]; simp
  have hc : iR 3 [.ro b (bT mem), .sl 2 pre.length 0 pre.length 1, Nn pre.length] (nZ pre) = some (nZ pre) := by
   simp [iR, nZ, dH, cG, dY, gY]
  have lc : dQ (.ro b (bT mem)) = some (I6 mem.length) := by simp [dQ, bN]
  have q : aQ Tryd.prog .lss 3 false (Nn pre.length) (Nn mem.length) = some (.bool false) := by rw [mA, decide_eq_false (by rw [hl]; omega)]
  refine jT ?_
  refine eC hc ?_
  have fx := aPQ lc <| q
  refine gM ?_
  rw [hl]
  refine iA ?_; rfl
 | a :: suf, pre, f + 1, hm, hf => by
  rw [fJ, aX.l3]
  have hl : mem.length = pre.length + (suf.length + 1) := by rw [hm]; simp
  have hc : iR 3 [.ro b (bT mem), .sl 2 pre.length 0 pre.length 1, Nn pre.length] (nZ pre) = some (nZ pre) := by
   simp [iR, nZ, dH, cG, dY, gY]
  have lc : dQ (.ro b (bT mem)) = some (I6 mem.length) := by simp [dQ, bN]
  have q : aQ Tryd.prog .lss 3 false (Nn pre.length) (Nn mem.length) = some (.bool true) := by rw [mA, decide_eq_true (by omega)]
  have ha : mem.getD pre.length 0 = a := by rw [hm]; simp [List.getD]
  have d1 : cJ 1 (.ro b (bT mem)) (Nn pre.length) = some (.rp b (Un a) 0) := by
   have := lQ mem pre.length (by omega)
   rw [ha] at this
   exact tV this rfl
  have d2 : ∀ H, aC G false 1 (.rp b (Un a) 0) H = some (Un a) := fun H => rfl
  have d3 : fS 43 1 (.sl 2 pre.length 0 pre.length 1) (.ro false [Un a]) (nZ pre) = some (.sl 2 (pre ++ [a]).length 0 (pre ++ [a]).length 1, nZ (pre ++ [a])) := by
   have e : (nZ pre)[2]? = some ⟨43, 1, bT pre⟩ := rfl
   unfold fS
   simp only [e, jF, bN, List.length_singleton]
   rw [if_pos (by refine ⟨?_, ?_, ?_, ?_, ?_⟩ <;> first | trivial | rfl | omega)]
   have e2 : (bT pre).take pre.length = bT pre := List.take_of_length_le (by rw [bN]; exact Nat.le_refl _)
   have e3 : (bT pre).drop (pre.length + 1) = [] := List.drop_of_length_le (by rw [bN]; omega)
   rw [e2, e3, List.append_nil]
   have e4 : bT pre ++ [Un a] = bT (pre ++ [a]) := by simp [bT]
   rw [e4, bN]; simp [nZ]
  have d4 : aQ Tryd.prog .add 3 true (Nn pre.length) (.int .i64 1) = some (Nn (pre ++ [a]).length) := by
   rw [kL, fW (by omega) (by omega)]; congr 2; simp
  have ih := uI b mem hml suf (pre ++ [a]) f (by rw [hm]; simp) (by simp at hf; omega)
  refine jT ?_
  refine eC hc ?_
  have fx := aPQ lc <| aPQ q <| aPQ d1 <| aPQ d2 <| aPQ d3 <| d4
  refine gM ?_
  exact ih
theorem aDf (b : Bool) (mem : List Nat) (hml : mem.length ≤ 1000000) (hk : mem.length < k) : aX.f G (k + 1) [.ro b (bT mem)] [aFh] = some (.sl 2 mem.length 0 mem.length 1, nZ mem) := by
 rw [aX.step]
 unfold aX.c
 have lc : dQ (.ro b (bT mem)) = some (I6 mem.length) := by simp [dQ, bN]
 have ms : jP 43 1 (.int .u64 0) (.int .i64 0) (I6 mem.length) [aFh, ⟨43, 1, []⟩] = some (.sl 2 0 0 0 1, nZ []) := by
  unfold jP
  simp only
  rw [if_pos (by omega)]
  rfl
 have lp : gV (aX.l3 G k 3 (aX.f G k)) k [.ro b (bT mem), .sl 2 0 0 0 1, .int .i64 0] (nZ []) = _ := uI G k (aX.f G k) b mem hml mem [] k rfl hk
 refine eZ ?_
 have fx := aPQ lc <| ms
 have lx1 := lp
 refine gM ?_
 refine iA ?_; rfl
def wW (s : MS) (wr : Int) : AV := .agg [I6 s.code, .ro false (bT s.mem), .ro false (iM s.leaks), Nn s.steps, I6 wr]
theorem aCt (s : MS) (wr : Int) : fZ (wW s wr) = true := by simp [wW, fZ, jH, kR, aGw]
theorem aIE (s : MS) (wr : Int) (l : aF) : fK [aC G true 5 (.ptr 0 1 0 0) (aBk s wr l)] ([] : aF).length (aBk s wr l) = some (.ret, [wW s wr], []) := by
 have f1 := wZ (H := aBk s wr l) (b := 2) (n0 := 0) (d := 4) (ty := 43) rfl (by omega) (bN s.mem) (aGC _) (gY 0 _)
 have f2 := wZ (H := aBk s wr l) (b := 6) (n0 := 0) (d := 4) (ty := 107) rfl (by omega) (kO s.leaks) (aGR _) (oH 0 _)
 have f3 : xD (aBk s wr l) 0 6 (xF s wr) = some (wW s wr) :=
  aGm (by simp [dH, cG]) (jZ (mI rfl 5) (jZ f1 (jZ f2 (jZ (mI rfl 5) (jZ (mI rfl 5) vU)))))
 have hl : aC G true 5 (.ptr 0 1 0 0) (aBk s wr l) = some (xF s wr) := rfl
 unfold fK
 rw [hl]
 simp only [vJ]
 exact aLs f3 rfl
theorem aHb (M : Int) (mem : List Nat) (bm : Bool) (hR : R ≤ 100000) (hm : ∀ x ∈ mem, x < 18446744073709551616) (hml : mem.length ≤ 1000000) (hM : M = mem.length) (h0 : 0 ≤ fuel) (hf : fuel ≤ 99998) (hcl : cs.length ≤ 100000)
  (hcs : ∀ j, j < cs.length → (cs.getD j default).Ok2 R cs.length) (hk : mem.length < k + 2) (s' : MS) (hrun : uK cs fuel (k + 3) (s0 R mem) = some s') :
  bP.f G (k + 4) [cV bor cs R M, .nils, .ro bm (bT mem), I6 fuel] [] = some (wW s' (-1), []) := by
 rw [bP.step]
 unfold bP.c cV
 obtain ⟨pc, l, lp⟩ := aGx G k (bP.f G (k + 3)) fuel false bor cs R (-1) hcl hcs hf M (k + 3) (s0 R mem) s' (oY (s0 R mem) (-1)) hrun (aIF R mem hm hml) (by simp only [s0]; omega) (by simpa [s0] using hM) (by simp [s0]) rfl
 have w1_ : bM (aX.f G (k + 3)) [.ro bm (bT mem)] [aFh] = some (.sl 2 mem.length 0 mem.length 1, [aFh, ⟨43, 1, []⟩, ⟨43, 1, bT mem⟩]) := rW (aDf G (k + 2) bm mem hml hk) (by simp [nZ])
 have q1 : aQ Tryd.prog .add 3 true (I6 R) (.int .i64 1) = some (I6 (R + 1 : Nat)) := by
  rw [kL, fW (by omega) (by omega)]; congr 2
 have c5 : jP 43 1 (.int .u64 0) (I6 (R + 1 : Nat)) (I6 (R + 1 : Nat)) [aFh, ⟨43, 1, []⟩, ⟨43, 1, bT mem⟩, ⟨40, 5, [.agg [.int .i64 0, .sl 2 mem.length 0 mem.length 1, .nils, .int .i64 0, .int .i64 (-1)]]⟩] =
   some (.sl 4 (R + 1) 0 (R + 1) 1, [aFh, ⟨43, 1, []⟩, ⟨43, 1, bT mem⟩, ⟨40, 5, [.agg [.int .i64 0, .sl 2 mem.length 0 mem.length 1, .nils, .int .i64 0, .int .i64 (-1)]]⟩, ⟨43, 1, bT (List.replicate R 0 ++ [0])⟩]) := by
  unfold jP
  have : (0 : Int) ≤ (R + 1 : Nat) ∧ ((R + 1 : Nat) : Int) ≤ (R + 1 : Nat) ∧ ((R + 1 : Nat) : Int) ≤ 1099511627776 := by omega
  have e : List.replicate R 0 ++ [0] = List.replicate (R + 1) 0 := by rw [List.replicate_succ']
  rw [e]
  simp only [this, and_self, if_true, Int.toNat_natCast, bT, List.map_replicate]
  rfl
 refine eZ ?_
 have fx := aPQ w1_ <| aPQ q1 <| c5
 refine kM ?_
 refine eV1 (H1 := [⟨40, 5, [.agg [.int .i64 0, .nils, .sl 5 0 0 0 2, .int .i64 0, .int .i64 0]]⟩, ⟨43, 1, []⟩, ⟨43, 1, bT mem⟩, ⟨40, 5, [.agg [.int .i64 0, .sl 2 mem.length 0 mem.length 1, .nils, .int .i64 0, .int .i64 (-1)]]⟩, ⟨43, 1, bT (List.replicate R 0 ++ [0])⟩, ⟨107, 2, []⟩]) rfl ?_
 refine eV1 (H1 := oY (s0 R mem) (-1)) rfl ?_
 refine eV0 ?_
 rw [aNn]
 refine eK ?_
 refine eL lp ?_
 have fx := True.intro
 refine kM ?_
 exact oF (aIE G s' (-1) l)
end
theorem qF (G : aG) (k : Nat) (self : cN) (p q : Bool) (a : List Nat) (hla : a.length ≤ 1000000) : ∀ (suf pre : List Nat) (f : Nat), a = pre ++ suf → suf.length < f →
  gV (bA.l4 G k 0 self) f [.ro p (bT a), .ro q (bT a), .bool false, Nn pre.length] [] = some (.exit 0, [.ro p (bT a), .ro q (bT a), .bool false, Nn a.length], [])
 | suf, pre, 0, hm, hf => by omega
 | [], pre, f + 1, hm, hf => by
  rw [fJ, bA.l4]
  have hl : a = pre := by rw [hm]; simp
  have hc : iR 0 [.ro p (bT a), .ro q (bT a), .bool false, Nn pre.length] [] = some [] := by simp [iR, dH, cG, dY, gY]
  have lc : dQ (.ro p (bT a)) = some (I6 a.length) := by simp [dQ, bN]
  have qq : aQ Tryd.prog .lss 3 false (Nn pre.length) (Nn a.length) = some (.bool false) := by rw [mA, decide_eq_false (by rw [hl]; omega)]
  refine jT ?_
  refine eC hc ?_
  have fx := aPQ lc <| qq
  refine gM ?_
  rw [hl]
  refine iA ?_; rfl
 | x :: suf, pre, f + 1, hm, hf => by
  rw [fJ, bA.l4]
  have hl : a.length = pre.length + (suf.length + 1) := by rw [hm]; simp
  have hc : iR 0 [.ro p (bT a), .ro q (bT a), .bool false, Nn pre.length] [] = some [] := by simp [iR, dH, cG, dY, gY]
  have lc : dQ (.ro p (bT a)) = some (I6 a.length) := by simp [dQ, bN]
  have qq : aQ Tryd.prog .lss 3 false (Nn pre.length) (Nn a.length) = some (.bool true) := by rw [mA, decide_eq_true (by omega)]
  have ha : a.getD pre.length 0 = x := by rw [hm]; simp [List.getD]
  have d1 : ∀ b, cJ 1 (.ro b (bT a)) (Nn pre.length) = some (.rp b (Un x) 0) := fun b => by
   have := lQ a pre.length (by omega)
   rw [ha] at this
   exact tV this rfl
  have d2 : ∀ b H, aC G false 1 (.rp b (Un x) 0) H = some (Un x) := fun b H => rfl
  have d4 : aQ Tryd.prog .add 3 true (Nn pre.length) (.int .i64 1) = some (Nn (pre ++ [x]).length) := by
   rw [kL, fW (by omega) (by omega)]; congr 2; simp
  have d5 : aQ Tryd.prog .eql 43 false (Un x) (Un x) = some (.bool true) := oE rfl
  have ih := qF G k self p q a hla suf (pre ++ [x]) f (by rw [hm]; simp) (by simp at hf; omega)
  refine jT ?_
  refine eC hc ?_
  have fx := aPQ lc <| aPQ qq <| aPQ d1 <| aPQ d2 <| aPQ d4 <| d5
  refine gM ?_
  exact ih
theorem xE (G : aG) (k : Nat) (p q : Bool) (a : List Nat) (hla : a.length ≤ 1000000) (hk : a.length < k) : bA.f G (k + 1) [.ro p (bT a), .ro q (bT a)] [] = some (.bool true, []) := by
 rw [bA.step]
 unfold bA.c
 have lc : ∀ b, dQ (.ro b (bT a)) = some (I6 a.length) := fun b => by simp [dQ, bN]
 have lp : gV (bA.l4 G k 0 (bA.f G k)) k [.ro p (bT a), .ro q (bT a), .bool false, .int .i64 0] [] = _ := qF G k (bA.f G k) p q a hla a [] k rfl hk
 refine eZ ?_
 have fx := lc
 have lx1 := lp
 refine gM ?_
 exact uH rfl
theorem aIu {x : AV} {t e : TypeId} (hu : Tryd.prog.underlying t = some (.slice e)) (he : Tryd.prog.underlying e = some (.int .u64)) (h : IsT Tryd.prog t x) :
  ∃ l : List Nat, x = .ro false (bT l) ∧ (∀ n ∈ l, n < 18446744073709551616) := by
 obtain ⟨l, rfl, hw, hl⟩ := h.of_ints hu he
 refine ⟨l.map Int.toNat, ?_, ?_⟩
 ·unfold bT
  rw [List.map_map]
  congr 1
  apply List.map_congr_left
  intro n hn
  obtain ⟨h1, h2⟩ := aJu (hw n hn)
  show AV.int .u64 n = AV.int .u64 ((n.toNat : Nat) : Int)
  rw [Int.toNat_of_nonneg h1]
 ·intro n hn
  obtain ⟨z, hz, rfl⟩ := List.mem_map.1 hn
  have := aJu (hw z hz)
  omega
theorem aMW {x : AV} (h : IsT Tryd.prog 60 x) : ∃ i : WI, x = i.v ∧ (-9223372036854775808 ≤ i.k ∧ i.k < 9223372036854775808) := by
 obtain ⟨cs, rfl, hf⟩ := h.of_struct Tryd.underlying60
 cases hf with
 | cons h1 hf =>
 cases hf with
 | cons h2 hf =>
 cases hf with
 | cons h3 hf =>
 cases hf with
 | cons h4 hf =>
 cases hf with
 | cons h5 hf =>
 cases hf with
 | cons h6 hf =>
 cases hf with
 | nil =>
 obtain ⟨a, rfl, _⟩ := h1.of_int (k := .i64) Tryd.underlying3
 obtain ⟨b, rfl, _⟩ := h2.of_int (k := .i64) Tryd.underlying3
 obtain ⟨c, rfl, _⟩ := h3.of_int (k := .i64) Tryd.underlying3
 obtain ⟨d, rfl, _⟩ := h4.of_int (k := .i64) Tryd.underlying3
 obtain ⟨e, rfl, _⟩ := h5.of_int (k := .i64) Tryd.underlying3
 obtain ⟨f, rfl, hw⟩ := h6.of_int (k := .i64) Tryd.underlying2
 exact ⟨⟨a, b, c, d, e, f⟩, rfl, aEP hw⟩
theorem aFZ {α : Type} {P : AV → Prop} {e : α → AV} {Q : α → Prop} (h : ∀ x, P x → ∃ a, x = e a ∧ Q a) : ∀ xs : List AV, (∀ x ∈ xs, P x) → ∃ l : List α, xs = l.map e ∧ ∀ a ∈ l, Q a
 | [], _ => ⟨[], rfl, fun a h => by cases h⟩
 | x :: xs, hx => by
  obtain ⟨a, rfl, ha⟩ := h x (hx x (by simp))
  obtain ⟨l, rfl, hl⟩ := aFZ h xs (fun y hy => hx y (by simp [hy]))
  refine ⟨a :: l, rfl, fun b hb => ?_⟩
  rcases List.mem_cons.1 hb with rfl | hb
  ·exact ha
  ·exact hl b hb
theorem aLb {x : AV} (h : IsT Tryd.prog 24 x) : ∃ (cs : List WI) (R M : Int), x = cV false cs R M ∧ (-9223372036854775808 ≤ R ∧ R < 9223372036854775808) ∧ (-9223372036854775808 ≤ M ∧ M < 9223372036854775808) := by
 obtain ⟨cs, rfl, hf⟩ := h.of_struct Tryd.underlying24
 cases hf with
 | cons h1 hf =>
 cases hf with
 | cons h2 hf =>
 cases hf with
 | cons h3 hf =>
 cases hf with
 | nil =>
 obtain ⟨xs, rfl, hx, _⟩ := h1.of_slice Tryd.underlying22
 obtain ⟨l, rfl, _⟩ := aFZ (e := WI.v) (fun x hx => aMW hx) xs hx
 obtain ⟨R, rfl, hR⟩ := h2.of_int (k := .i64) Tryd.underlying3
 obtain ⟨M, rfl, hM⟩ := h3.of_int (k := .i64) Tryd.underlying3
 exact ⟨l, R, M, rfl, aEP hR, aEP hM⟩
theorem aGb (cs : List WI) (fuel : Int) (R : Nat) (hf : fuel ≤ 99999) (hcs : ∀ j, j < cs.length → (cs.getD j default).Ok R cs.length) : ∀ (f : Nat) (s s' : MS), uK cs fuel f s = some s' → s.Ok R → s.at_ ≤ cs.length → (s.steps : Int) ≤ fuel →
  s'.Ok R ∧ (s'.steps : Int) ≤ fuel ∧ s'.mem.length = s.mem.length
 | 0, s, s', h, _, _, _ => by simp [uK] at h
 | f + 1, s, s', h, hs, hat, hst => by
  simp only [uK] at h
  by_cases h1 : cs.length ≤ s.at_
  ·rw [if_pos h1] at h; simp only [Option.some.injEq] at h; subst h
   exact ⟨⟨hs.len, hs.regs, hs.mem, hs.leaks, hs.big, hs.few⟩, hst, rfl⟩
  rw [if_neg h1] at h
  by_cases h2 : (s.steps : Int) = fuel
  ·rw [if_pos h2] at h; simp only [Option.some.injEq] at h; subst h
   exact ⟨⟨hs.len, hs.regs, hs.mem, hs.leaks, hs.big, hs.few⟩, hst, rfl⟩
  rw [if_neg h2] at h
  have okt : s.tick.Ok R := ⟨hs.len, hs.regs, hs.mem, by have := hs.leaks; simp [MS.tick, MS.leak]; omega, hs.big, by simp [MS.tick, MS.leak]; omega⟩
  obtain ⟨o1, o2, o3, o4⟩ := MS.step_ok okt (hcs s.at_ (by omega)) (by have := hs.leaks; simp [MS.tick, MS.leak]; omega) (show s.tick.at_ < cs.length from by show s.at_ < _; omega)
  have tst : s.tick.steps = s.steps + 1 := rfl
  have tm : s.tick.mem = s.mem := rfl
  obtain ⟨s2, b, hsb⟩ : ∃ s2 b, s.tick.step (cs.getD s.at_ default) = (s2, b) := ⟨_, _, rfl⟩
  rw [hsb] at h o1 o2 o3 o4
  simp only at h o1 o2 o3 o4
  cases b
  ·simp only [Option.some.injEq] at h
   subst h
   exact ⟨o1, by rw [o3, tst]; omega, by rw [o4, tm]⟩
  ·obtain ⟨r1, r2, r3⟩ := aGb cs fuel R hf hcs f s2 s' h o1 o2 (by rw [o3, tst]; omega)
   exact ⟨r1, r2, by rw [r3, o4, tm]⟩
theorem aGD (e : Nat) : aEN e ≠ 0 := by unfold aEN; repeat' split <;> try omega
abbrev JL := List (MI × Option Int)
def iB (l : List MI) : JL := l.map fun i => (i, none)
def nR : Nat → JL → List (Nat × Int)
 | _, [] => []
 | b, (_, none) :: L => nR (b + 1) L
 | b, (_, some t) :: L => (b, t) :: nR (b + 1) L
def KS.lay (s : KS) (L : JL) : KS := ⟨s.out ++ L.map Prod.fst, s.place, s.jumps ++ nR s.out.length L⟩
theorem vE : ∀ (L M : JL) (b : Nat), nR b (L ++ M) = nR b L ++ nR (b + L.length) M
 | [], M, b => by simp [nR]
 | (_, none) :: L, M, b => by
  simp only [List.cons_append, nR, vE L M (b + 1), List.length_cons]
  rw [show b + 1 + L.length = b + (L.length + 1) by omega]
 | (_, some t) :: L, M, b => by
  simp only [List.cons_append, nR, vE L M (b + 1), List.length_cons]
  rw [show b + 1 + L.length = b + (L.length + 1) by omega]
theorem aAW : ∀ (l : List MI) (b : Nat), nR b (iB l) = []
 | [], b => rfl
 | i :: l, b => aAW l (b + 1)
theorem aEV (l m : List MI) : iB (l ++ m) = iB l ++ iB m := by simp [iB]
theorem aFz (l : List MI) : (iB l).map Prod.fst = l := by simp [iB, Function.comp_def]
theorem nA (l : List MI) : (iB l).length = l.length := by simp [iB]
theorem pK (s : KS) (L M : JL) : s.lay (L ++ M) = (s.lay L).lay M := by
 unfold KS.lay
 simp only [vE, List.map_append, List.append_assoc, List.length_append, List.length_map]
theorem pH (s : KS) (l : List MI) : s.put l = s.lay (iB l) := by
 unfold KS.lay KS.put
 rw [aAW, aFz, List.append_nil]
theorem aAc (s : KS) (i : MI) (t : Int) : s.jump i t = s.lay [(i, some t)] := rfl
def mO (i : WI) : List MI := if i.k ≤ 4095 then [⟨10, 28, i.a, 0, 0, i.k⟩] else iY 28 (u64 i.k) ++ [⟨3, 28, i.a, 28, 0, 0⟩]
def nX (op r : Int) (i : WI) (e : Int) : JL := iB (mO i) ++ (iB [⟨13, 29, 28, 0, 0, 16⟩] ++ ([(⟨23, 29, 0, 0, 0, 0⟩, some e)] ++ iB [⟨12, 28, 28, 0, 0, 3⟩, ⟨op, r, 28, 0, 0, 0⟩]))
theorem aHw (s : KS) (op r : Int) (i : WI) (e : Int) : s.touch op r i e = s.lay (nX op r i e) := by
 unfold KS.touch nX mO
 by_cases h : i.k ≤ 4095
 ·simp only [if_pos h]
  rw [pH, pH, aAc, pH, pK, pK, pK]
 ·simp only [if_neg h]
  rw [pH, pH, pH, aAc, pH, aEV, pK, pK, pK, pK]
def iW (e : Int) (i : WI) : JL :=
 if i.op = 1 then iB (iY i.d (u64 i.k))
 else if i.op = 2 then iB [⟨6, i.d, i.a, 31, 0, 0⟩]
 else if i.op = 3 then iB [⟨3, i.d, i.a, i.b, 0, 0⟩]
 else if i.op = 4 then iB [⟨4, i.d, i.a, i.b, 0, 0⟩]
 else if i.op = 5 then iB [⟨8, i.d, i.a, i.b, 31, 0⟩]
 else if i.op = 6 then iB [⟨9, i.d, i.a, i.b, 0, 0⟩]
 else if i.op = 7 then iB [⟨5, i.d, i.a, i.b, 0, 0⟩]
 else if i.op = 8 then iB [⟨6, i.d, i.a, i.b, 0, 0⟩]
 else if i.op = 9 then iB [⟨7, i.d, i.a, i.b, 0, 0⟩]
 else if i.op = 10 then iB [⟨12, i.d, i.a, 0, 0, i.k⟩]
 else if i.op = 11 then iB [⟨13, i.d, i.a, 0, 0, i.k⟩]
 else if i.op = 12 then iB [⟨14, i.d, i.a, 0, 0, i.k⟩]
 else if i.op = 13 then iB [⟨15, 0, i.a, i.b, 0, 0⟩, ⟨17, i.d, 0, 0, 3, 0⟩]
 else if i.op = 14 then iB [⟨15, 0, i.a, 31, 0, 0⟩, ⟨16, i.d, i.b, i.c, 1, 0⟩]
 else if i.op = 15 then nX 18 i.d i e
 else if i.op = 16 then nX 19 i.b i e
 else if i.op = 17 then [(⟨20, 0, 0, 0, 0, 0⟩, some i.k)]
 else if i.op = 18 then [(⟨22, i.a, 0, 0, 0, 0⟩, some i.k)]
 else if i.op = 19 then [(⟨23, i.a, 0, 0, 0, 0⟩, some i.k)]
 else if i.op = 20 then iB [⟨24, 0, 0, 0, 0, i.k⟩]
 else []
theorem aGp (s : KS) : s.lay [] = s := by unfold KS.lay; simp [nR]
theorem aKn (s : KS) (c : Prop) [Decidable c] (L M : JL) : s.lay (if c then L else M) = if c then s.lay L else s.lay M := by split <;> rfl
theorem aGE (s : KS) (i : WI) (e : Int) : s.one i e = s.lay (iW e i) := by
 unfold KS.one iW
 simp only [aKn, ← pH, ← aAc, ← aHw, aGp]
def iN (e : Int) : List WI → JL
 | [] => []
 | w :: ws => iW e w ++ iN e ws
theorem wT (e : Int) : ∀ (l m : List WI), iN e (l ++ m) = iN e l ++ iN e m
 | [], m => rfl
 | w :: l, m => by simp only [List.cons_append, iN, wT e l m, List.append_assoc]
def wQ (e : Int) : Nat → List WI → List Nat
 | _, [] => []
 | b, w :: ws => b :: wQ e (b + (iW e w).length) ws
theorem aDD (e : Int) : ∀ (ws : List WI) (b : Nat), (wQ e b ws).length = ws.length
 | [], b => rfl
 | w :: ws, b => by simp only [wQ, List.length_cons, aDD e ws]
theorem aGO (e : Int) : ∀ (ws : List WI) (s : KS), KS.run e ws s = ⟨(s.lay (iN e ws)).out, s.place ++ wQ e s.out.length ws, (s.lay (iN e ws)).jumps⟩
 | [], s => by simp [KS.run, iN, wQ, aGp]
 | w :: ws, s => by
  have h := aGO e ws (s.mark.one w e)
  rw [aGE] at h
  simp only [KS.run, aGE, h, iN, wQ, pK]
  simp [KS.lay, KS.mark]
def mZ (P : List Nat) : Nat → JL → List MI
 | _, [] => []
 | b, (i, none) :: L => i :: mZ P (b + 1) L
 | b, (i, some t) :: L => { i with imm := (P.getD t.toNat 0 : Int) - b } :: mZ P (b + 1) L
theorem nQ (P : List Nat) : ∀ (L M : JL) (b : Nat), mZ P b (L ++ M) = mZ P b L ++ mZ P (b + L.length) M
 | [], M, b => by simp [mZ]
 | (_, none) :: L, M, b => by
  simp only [List.cons_append, mZ, nQ P L M (b + 1), List.length_cons]
  rw [show b + 1 + L.length = b + (L.length + 1) by omega]
 | (_, some t) :: L, M, b => by
  simp only [List.cons_append, mZ, nQ P L M (b + 1), List.length_cons]
  rw [show b + 1 + L.length = b + (L.length + 1) by omega]
theorem wC (P : List Nat) : ∀ (L : JL) (b : Nat), (mZ P b L).length = L.length
 | [], b => rfl
 | (_, none) :: L, b => by simp only [mZ, List.length_cons, wC P L]
 | (_, some t) :: L, b => by simp only [mZ, List.length_cons, wC P L]
theorem nB (P : List Nat) : ∀ (l : List MI) (b : Nat), mZ P b (iB l) = l
 | [], b => rfl
 | i :: l, b => by
  have := nB P l (b + 1)
  show i :: mZ P (b + 1) (iB l) = _
  rw [this]
theorem xJ (P : List Nat) (J : List (Nat × Int)) : ∀ (L : JL) (A : List MI), KS.fixes (nR A.length L) ⟨A ++ L.map Prod.fst, P, J⟩ = ⟨A ++ mZ P A.length L, P, J⟩
 | [], A => by simp [nR, mZ, KS.fixes]
 | (i, none) :: L, A => by
  have h := xJ P J L (A ++ [i])
  simp only [List.length_append, List.length_singleton, List.append_assoc, List.singleton_append] at h
  exact h
 | (i, some t) :: L, A => by
  have h := xJ P J L (A ++ [{ i with imm := (P.getD t.toNat 0 : Int) - A.length }])
  simp only [List.length_append, List.length_singleton, List.append_assoc, List.singleton_append] at h
  have e : KS.fix ⟨A ++ i :: L.map Prod.fst, P, J⟩ (A.length, t) = ⟨A ++ { i with imm := (P.getD t.toNat 0 : Int) - A.length } :: L.map Prod.fst, P, J⟩ := by
   unfold KS.fix aMA
   simp [List.getD_eq_getElem?_getD]
  show KS.fixes (nR (A.length + 1) L) (KS.fix ⟨A ++ i :: L.map Prod.fst, P, J⟩ (A.length, t)) = _
  rw [e]; exact h
theorem aDv (e : Int) : ∀ (ws : List WI) (b j : Nat), j ≤ ws.length → (wQ e b ws ++ [b + (iN e ws).length]).getD j 0 = b + (iN e (ws.take j)).length
 | [], b, 0, h => by simp [wQ, iN]
 | [], b, j + 1, h => by simp at h
 | w :: ws, b, 0, h => by simp [wQ, iN]
 | w :: ws, b, j + 1, h => by
  have h2 := aDv e ws (b + (iW e w).length) j (by simpa using h)
  simp only [wQ, iN, List.length_append, List.cons_append, List.getD_cons_succ, List.take_succ_cons]
  rw [show b + ((iW e w).length + (iN e ws).length) = b + (iW e w).length + (iN e ws).length by omega, h2]
  omega
def lH (ws : List WI) : List Nat := wQ ws.length 0 ws ++ [(iN ws.length ws).length]
def aCA (ws : List WI) : List MI := mZ (lH ws) 0 (iN ws.length ws)
def lY (ws : List WI) (j : Nat) : Nat := (iN ws.length (ws.take j)).length
theorem uA (ws : List WI) (j : Nat) (h : j ≤ ws.length) : (lH ws).getD j 0 = lY ws j := by
 have := aDv ws.length ws 0 j h
 simp only [Nat.zero_add] at this
 exact this
theorem aFj (ws : List WI) : (lH ws).length = ws.length + 1 := by simp [lH, aDD]
theorem aJk (ws : List WI) : (KS.run ws.length ws k00).mark = ⟨(iN ws.length ws).map Prod.fst, lH ws, nR 0 (iN ws.length ws)⟩ := by
 rw [aGO]
 simp [KS.mark, KS.lay, k00, lH]
theorem aIX (ws : List WI) (s0 : KS) (h : s0 = (KS.run ws.length ws k00).mark) : (KS.fixes s0.jumps s0).out = aCA ws := by
 rw [h, aJk]
 have := xJ (lH ws) (nR 0 (iN ws.length ws)) (iN ws.length ws) []
 simp only [List.length_nil, List.nil_append] at this
 rw [this]; rfl
theorem aDr (ws : List WI) : (aCA ws).length = (iN ws.length ws).length := wC _ _ _
theorem aFL (ws : List WI) (j : Nat) (h : j < ws.length) : ws = ws.take j ++ ws.getD j default :: ws.drop (j + 1) := by
 have : ws.getD j default = ws[j] := by rw [List.getD_eq_getElem?_getD, List.getElem?_eq_getElem h]; rfl
 rw [this, ← List.drop_eq_getElem_cons h, List.take_append_drop]
theorem aKs (ws : List WI) (j : Nat) (h : j < ws.length) : ∃ pre post, aCA ws = pre ++ (mZ (lH ws) (lY ws j) (iW ws.length (ws.getD j default)) ++ post) ∧ pre.length = lY ws j := by
 have e := aFL ws j h
 have e2 : iN ws.length ws = iN ws.length (ws.take j) ++ (iW ws.length (ws.getD j default) ++ iN ws.length (ws.drop (j + 1))) := by
  have : ∀ n : Int, iN n ws = iN n (ws.take j) ++ (iW n (ws.getD j default) ++ iN n (ws.drop (j + 1))) := fun n => by
   conv => lhs; rw [e]
   rw [wT]; rfl
  exact this _
 refine ⟨mZ (lH ws) 0 (iN ws.length (ws.take j)), mZ (lH ws) (lY ws j + (iW ws.length (ws.getD j default)).length) (iN ws.length (ws.drop (j + 1))), ?_, wC _ _ _⟩
 unfold aCA
 conv => lhs; rw [e2]
 rw [nQ, nQ, Nat.zero_add]; rfl
theorem aAs (ws : List WI) (j : Nat) (h : j < ws.length) : lY ws (j + 1) = lY ws j + (iW ws.length (ws.getD j default)).length := by
 unfold lY
 have : ws.take (j + 1) = ws.take j ++ [ws.getD j default] := by
  rw [List.take_add_one, List.getD_eq_getElem?_getD, List.getElem?_eq_getElem h]; rfl
 rw [this, wT]
 simp [iN]
theorem aGg (ws : List WI) : lY ws ws.length = (aCA ws).length := by rw [aDr]; unfold lY; rw [List.take_length]
theorem aMC {c : Prop} [Decidable c] {a b : JL} {n : Nat} (ha : a.length ≤ n) (hb : b.length ≤ n) : (if c then a else b).length ≤ n := by split <;> assumption
theorem tZ (e : Int) (i : WI) : (iW e i).length ≤ 9 := by
 have h := fun d u => (kQ d u).2
 have ht : ∀ op r : Int, (nX op r i e).length ≤ 9 := fun op r => by
  unfold nX mO
  have := h 28 (u64 i.k)
  split <;> simp [iB] <;> omega
 have h1 := h i.d (u64 i.k)
 have h2 := ht 18 i.d
 have h3 := ht 19 i.b
 unfold iW
 repeat' apply aMC
 all_goals first | assumption | (rw [nA]; omega) | (simp [iB]; done) | simp
theorem sJ (e : Int) : ∀ ws : List WI, (iN e ws).length ≤ 9 * ws.length
 | [] => by simp [iN]
 | w :: ws => by
  have := sJ e ws
  have := tZ e w
  simp only [iN, List.length_append, List.length_cons]; omega
structure WI.Good (i : WI) (R n : Nat) : Prop where
 ok2 : i.Ok2 R n
 mem : i.op = 15 ∨ i.op = 16 → 0 ≤ i.k ∧ i.k ≤ 65535
 halt : i.op = 20 → 0 ≤ i.k ∧ i.k ≤ 2
theorem aHA {i : WI} {R n : Int} (h : jJ i R n = none) (hR : 0 ≤ R) : i.Good R.toNat n.toNat := by
 refine ⟨aJo h hR, fun ho => ?_, fun ho => ?_⟩
 ·unfold jJ at h
  by_cases h0 : (kF i.op).isSome = false
  ·rw [if_pos h0] at h; cases h
  rw [if_neg h0] at h
  by_cases h1 : vQ (mC i.op) i R = true
  ·rw [if_pos h1] at h; cases h
  rw [if_neg h1] at h
  by_cases h2 : vO (mC i.op) i = true
  ·rw [if_pos h2] at h; cases h
  rw [if_neg h2, if_neg (by omega), if_neg (by omega), if_pos ho] at h
  by_cases h3 : i.k < 0 ∨ 65535 < i.k
  ·rw [if_pos h3] at h; cases h
  ·omega
 ·unfold jJ at h
  by_cases h0 : (kF i.op).isSome = false
  ·rw [if_pos h0] at h; cases h
  rw [if_neg h0] at h
  by_cases h1 : vQ (mC i.op) i R = true
  ·rw [if_pos h1] at h; cases h
  rw [if_neg h1] at h
  by_cases h2 : vO (mC i.op) i = true
  ·rw [if_pos h2] at h; cases h
  rw [if_neg h2, if_neg (by omega), if_pos ho] at h
  by_cases h3 : i.k < 0 ∨ 2 < i.k
  ·rw [if_pos h3] at h; cases h
  ·omega
theorem aBN {R n : Int} (hR : 0 ≤ R) : ∀ {l : List WI} {j : Nat}, pF R n l j = .ok → ∀ i ∈ l, i.Good R.toNat n.toNat
 | [], _, _, i, hi => by cases hi
 | x :: l, j, h, i, hi => by
  unfold pF at h
  split at h
  ·cases h
  ·rename_i ho
   rcases List.mem_cons.1 hi with rfl | hi
   ·exact aHA ho hR
   ·exact aBN hR h i hi
theorem yS {cs : List WI} {R M : Int} (h : kJ cs R M = .ok) : ∀ i ∈ cs, i.Good R.toNat cs.length := by
 have hb := (xG h).1
 unfold kJ at h
 rw [if_neg (by omega), if_neg (by omega)] at h
 have := aBN hb.1 h
 simpa using this
abbrev Rw (r : Int) : Prop := 0 ≤ r ∧ r < 28
theorem Rw.le {r m : Int} (h : Rw r) (hm : 28 ≤ m) : 0 ≤ r ∧ r ≤ m := by
 unfold Rw at h; omega
theorem rt3 {op d n m : Int} (ho : op = 3 ∨ op = 4 ∨ op = 5 ∨ op = 6 ∨ op = 7 ∨ op = 9) (hd : 0 ≤ d ∧ d ≤ 28) (hn : 0 ≤ n ∧ n ≤ 28) (hm : 0 ≤ m ∧ m ≤ 31) : aT ⟨op, d, n, m, 0, 0⟩ = true := by
 rcases ho with rfl | rfl | rfl | rfl | rfl | rfl <;> simp [aT, kK, aO, fD, gI, dU, gS, fC, dS] <;> omega
theorem aOi {d n m : Int} (hd : Rw d) (hn : Rw n) (hm : Rw m) : aT ⟨8, d, n, m, 31, 0⟩ = true := by
 simp [aT, kK, aO, fD, gI, dU, gS, fC, dS]; omega
theorem aHC {op d n k : Int} (ho : op = 12 ∨ op = 13 ∨ op = 14) (hd : 0 ≤ d ∧ d ≤ 29) (hn : 0 ≤ n ∧ n ≤ 29) (hk : 0 ≤ k ∧ k ≤ 63) : aT ⟨op, d, n, 0, 0, k⟩ = true := by
 rcases ho with rfl | rfl | rfl <;> simp [aT, kK, aO, fD, gI, dU, gS, fC, dS] <;> omega
theorem aMe {n m : Int} (hn : Rw n) (hm : 0 ≤ m ∧ m ≤ 31) : aT ⟨15, 0, n, m, 0, 0⟩ = true := by
 simp [aT, kK, aO, fD, gI, dU, gS, fC, dS]; omega
theorem aNe {d : Int} (hd : Rw d) : aT ⟨17, d, 0, 0, 3, 0⟩ = true := by
 simp [aT, kK, aO, fD, gI, dU, gS, fC, dS]; omega
theorem aMk {d n m : Int} (hd : Rw d) (hn : Rw n) (hm : Rw m) : aT ⟨16, d, n, m, 1, 0⟩ = true := by
 simp [aT, kK, aO, fD, gI, dU, gS, fC, dS]; omega
theorem aOM {n k : Int} (hn : Rw n) (hk : 0 ≤ k ∧ k ≤ 4095) : aT ⟨10, 28, n, 0, 0, k⟩ = true := by
 simp [aT, kK, aO, fD, gI, dU, gS, fC, dS]; omega
theorem aOq {op r : Int} (ho : op = 18 ∨ op = 19) (hr : Rw r) : aT ⟨op, r, 28, 0, 0, 0⟩ = true := by
 rcases ho with rfl | rfl <;> simp [aT, kK, aO, fD, gI, dU, gS, fC, dS] <;> omega
theorem rtB {k : Int} (hk : -100000 ≤ k ∧ k ≤ 100000) : aT ⟨20, 0, 0, 0, 0, k⟩ = true := by
 simp [aT, kK, aO, fD, gI, dU, gS, fC, dS]; omega
theorem aNf {op r k : Int} (ho : op = 22 ∨ op = 23) (hr : 0 ≤ r ∧ r ≤ 29) (hk : -100000 ≤ k ∧ k ≤ 100000) : aT ⟨op, r, 0, 0, 0, k⟩ = true := by
 rcases ho with rfl | rfl <;> simp [aT, kK, aO, fD, gI, dU, gS, fC, dS] <;> omega
theorem aOB {k : Int} (hk : 0 ≤ k ∧ k ≤ 2) : aT ⟨24, 0, 0, 0, 0, k⟩ = true := by
 simp [aT, kK, aO, fD, gI, dU, gS, fC, dS]; omega
theorem aEB (d n : Int) : cS ⟨12, d, n, 0, 0, 0⟩ = cS ⟨13, d, n, 0, 0, 0⟩ := by
 simp [cS, aO, fH]
theorem wI {i : WI} {R n : Nat} (h : i.Good R n) (hR : R ≤ 28) : (i.op ≠ 17 → i.op ≠ 20 → Rw i.a) ∧ (i.op ≤ 16 → Rw i.d ∧ Rw i.b ∧ Rw i.c) := by
 refine ⟨fun h1 h2 => ?_, fun h1 => ?_⟩
 ·have := h.ok2.ok.a h1 h2; omega
 ·have := h.ok2.ok.d h1; have := h.ok2.ok.b h1; have := h.ok2.ok.c h1; omega
def aBh (P : List Nat) (b : Nat) (L : JL) : Prop := ∀ i ∈ mZ P b L, aT i = true
theorem iF {P : List Nat} {b : Nat} {l : List MI} (h : ∀ i ∈ l, aT i = true) : aBh P b (iB l) := by
 unfold aBh; rw [nB]; exact h
theorem vZ {P : List Nat} {b : Nat} {L M : JL} (h : aBh P b L) (h2 : aBh P (b + L.length) M) : aBh P b (L ++ M) := by
 unfold aBh; rw [nQ]
 intro i hi
 rcases List.mem_append.1 hi with hi | hi
 ·exact h i hi
 ·exact h2 i hi
theorem wD {P : List Nat} {b : Nat} {i : MI} {t : Int} (h : aT { i with imm := (P.getD t.toNat 0 : Int) - b } = true) : aBh P b [(i, some t)] := by
 intro j hj
 simp only [mZ, List.mem_singleton] at hj
 rw [hj]; exact h
theorem yH (d : Int) (hd : 0 ≤ d ∧ d ≤ 30) (k : Int) : ∀ i ∈ iY d (u64 k), aT i = true := fun i hi => ((wJ d hd (u64 k) (jD k) jO).1 i hi).1
theorem tC {x : MI} (h : aT x = true) : ∀ i ∈ [x], aT i = true := fun i hi => by rw [List.mem_singleton.1 hi]; exact h
theorem aNs {x y : MI} (h : aT x = true) (h2 : aT y = true) : ∀ i ∈ [x, y], aT i = true := fun i hi => by
 rcases List.mem_cons.1 hi with rfl | hi
 ·exact h
 ·exact tC h2 i hi
theorem xY {P : List Nat} {b : Nat} {op r e : Int} {i : WI} (ho : op = 18 ∨ op = 19) (hr : Rw r) (ha : Rw i.a) (hk : 0 ≤ i.k ∧ i.k ≤ 65535) (hP : ∀ x ∈ P, x ≤ 90000) (hb : b ≤ 90000) : aBh P b (nX op r i e) := by
 have hPe : ((P.getD e.toNat 0 : Nat) : Int) ≤ 90000 := by
  rw [List.getD_eq_getElem?_getD]
  cases hq : P[e.toNat]? with
  | none => simp
  | some x => have := hP x (List.mem_of_getElem? hq); simp; omega
 have hc := (kQ 28 (u64 i.k)).2
 have hal : (mO i).length ≤ 5 := by
  unfold mO; split
  ·simp
  ·simp; omega
 unfold nX
 refine vZ (iF ?_) (vZ (iF (tC (aHC (.inr (.inl rfl)) ⟨by decide, by decide⟩ ⟨by decide, by decide⟩ ⟨by decide, by decide⟩))) (vZ (wD ?_) (iF (aNs (aHC (.inl rfl) ⟨by decide, by decide⟩ ⟨by decide, by decide⟩ ⟨by decide, by decide⟩) (aOq ho hr)))))
 ·unfold mO
  by_cases h : i.k ≤ 4095
  ·rw [if_pos h]; exact tC (aOM ha ⟨hk.1, h⟩)
  ·rw [if_neg h]
   intro j hj
   rcases List.mem_append.1 hj with hj | hj
   ·exact yH 28 ⟨by decide, by decide⟩ _ j hj
   ·exact tC (rt3 (.inl rfl) ⟨by decide, by decide⟩ (by omega) ⟨by decide, by decide⟩) j hj
 ·refine aNf (.inr rfl) ⟨by decide, by decide⟩ ?_
  rw [nA, nA]
  simp only [List.length_singleton]
  omega
theorem aDp {P : List Nat} {b : Nat} {e : Int} {i : WI} {R n : Nat} (h : i.Good R n) (hR : R ≤ 28) (hP : ∀ x ∈ P, x ≤ 90000) (hb : b ≤ 90000) : aBh P b (iW e i) := by
 have hPt : ∀ t : Int, ((P.getD t.toNat 0 : Nat) : Int) ≤ 90000 := fun t => by
  rw [List.getD_eq_getElem?_getD]
  cases hq : P[t.toNat]? with
  | none => simp
  | some x => have := hP x (List.mem_of_getElem? hq); simp; omega
 obtain ⟨ha, hdbc⟩ := wI h hR
 have hsh := h.ok2.sh
 have hmem := h.mem
 have hhalt := h.halt
 have h20 := h.ok2.ok.op
 obtain ⟨op, d, a, b2, c, k⟩ := i
 simp only at ha hdbc hsh hmem hhalt h20
 rcases aDQ h20 with rfl | rfl | rfl | rfl | rfl | rfl | rfl | rfl | rfl | rfl | rfl | rfl | rfl | rfl | rfl | rfl | rfl | rfl | rfl | rfl
 ·exact iF (yH d (Rw.le (hdbc (by decide)).1 (by decide)) k)
 ·exact iF (tC (rt3 (by omega) (Rw.le (hdbc (by decide)).1 (by decide)) (Rw.le (ha (by decide) (by decide)) (by decide)) ⟨by decide, by decide⟩))
 ·exact iF (tC (rt3 (by omega) (Rw.le (hdbc (by decide)).1 (by decide)) (Rw.le (ha (by decide) (by decide)) (by decide)) (Rw.le (hdbc (by decide)).2.1 (by decide))))
 ·exact iF (tC (rt3 (by omega) (Rw.le (hdbc (by decide)).1 (by decide)) (Rw.le (ha (by decide) (by decide)) (by decide)) (Rw.le (hdbc (by decide)).2.1 (by decide))))
 ·exact iF (tC (aOi (hdbc (by decide)).1 (ha (by decide) (by decide)) (hdbc (by decide)).2.1))
 ·exact iF (tC (rt3 (by omega) (Rw.le (hdbc (by decide)).1 (by decide)) (Rw.le (ha (by decide) (by decide)) (by decide)) (Rw.le (hdbc (by decide)).2.1 (by decide))))
 ·exact iF (tC (rt3 (by omega) (Rw.le (hdbc (by decide)).1 (by decide)) (Rw.le (ha (by decide) (by decide)) (by decide)) (Rw.le (hdbc (by decide)).2.1 (by decide))))
 ·exact iF (tC (rt3 (by omega) (Rw.le (hdbc (by decide)).1 (by decide)) (Rw.le (ha (by decide) (by decide)) (by decide)) (Rw.le (hdbc (by decide)).2.1 (by decide))))
 ·exact iF (tC (rt3 (by omega) (Rw.le (hdbc (by decide)).1 (by decide)) (Rw.le (ha (by decide) (by decide)) (by decide)) (Rw.le (hdbc (by decide)).2.1 (by decide))))
 ·exact iF (tC (aHC (.inl rfl) (Rw.le (hdbc (by decide)).1 (by decide)) (Rw.le (ha (by decide) (by decide)) (by decide)) (hsh (by decide) (by decide))))
 ·exact iF (tC (aHC (.inr (.inl rfl)) (Rw.le (hdbc (by decide)).1 (by decide)) (Rw.le (ha (by decide) (by decide)) (by decide)) (hsh (by decide) (by decide))))
 ·exact iF (tC (aHC (.inr (.inr rfl)) (Rw.le (hdbc (by decide)).1 (by decide)) (Rw.le (ha (by decide) (by decide)) (by decide)) (hsh (by decide) (by decide))))
 ·exact iF (aNs (aMe (ha (by decide) (by decide)) (Rw.le (hdbc (by decide)).2.1 (by decide))) (aNe (hdbc (by decide)).1))
 ·exact iF (aNs (aMe (ha (by decide) (by decide)) ⟨by decide, by decide⟩) (aMk (hdbc (by decide)).1 (hdbc (by decide)).2.1 (hdbc (by decide)).2.2))
 ·exact xY (.inl rfl) (hdbc (by decide)).1 (ha (by decide) (by decide)) (hmem (by omega)) hP hb
 ·exact xY (.inr rfl) (hdbc (by decide)).2.1 (ha (by decide) (by decide)) (hmem (by omega)) hP hb
 ·exact wD (rtB (by have := hPt k; dsimp only; omega))
 ·exact wD (aNf (.inl rfl) (Rw.le (ha (by decide) (by decide)) (by decide)) (by have := hPt k; dsimp only; omega))
 ·exact wD (aNf (.inr rfl) (Rw.le (ha (by decide) (by decide)) (by decide)) (by have := hPt k; dsimp only; omega))
 ·exact iF (tC (aOB (hhalt rfl)))
theorem aAr {P : List Nat} {e : Int} {R n : Nat} (hR : R ≤ 28) (hP : ∀ x ∈ P, x ≤ 90000) : ∀ (ws : List WI) (b : Nat), (∀ w ∈ ws, w.Good R n) → b + 9 * ws.length ≤ 90000 → aBh P b (iN e ws)
 | [], b, _, _ => fun i hi => by simp [iN, mZ] at hi
 | w :: ws, b, hw, hb => by
  simp only [List.length_cons] at hb
  have hc := tZ e w
  exact vZ (aDp (hw w (List.mem_cons_self ..)) hR hP (by omega)) (aAr hR hP ws _ (fun x hx => hw x (List.mem_cons_of_mem _ hx)) (by omega))
theorem aFV (e : Int) : ∀ (ws : List WI) (b : Nat), ∀ x ∈ wQ e b ws, x ≤ b + 9 * ws.length
 | [], b, x, hx => by cases hx
 | w :: ws, b, x, hx => by
  have hc := tZ e w
  simp only [wQ, List.mem_cons, List.length_cons] at hx ⊢
  rcases hx with rfl | hx
  ·omega
  ·have := aFV e ws _ x hx; omega
theorem aBE (ws : List WI) : ∀ x ∈ lH ws, x ≤ 9 * ws.length := by
 intro x hx
 unfold lH at hx
 rcases List.mem_append.1 hx with hx | hx
 ·have := aFV _ _ _ x hx; omega
 ·rw [List.mem_singleton.1 hx]; exact sJ _ _
theorem tT {ws : List WI} {R : Nat} (hR : R ≤ 28) (hw : ∀ w ∈ ws, w.Good R ws.length) (hl : ws.length ≤ 10000) : ∀ i ∈ aCA ws, aT i = true :=
 aAr hR (fun x hx => by have := aBE ws x hx; omega) ws 0 hw (by omega)
theorem aGA {e : Int} {m : Nat} (he : 0 ≤ e ∧ e ≤ m) {R n : Nat} (hn : n ≤ m) : ∀ (ws : List WI) (b : Nat), (∀ w ∈ ws, w.Good R n) → ∀ p ∈ nR b (iN e ws), p.1 < b + (iN e ws).length ∧ 0 ≤ p.2 ∧ p.2 ≤ m
 | [], b, _, p, hp => by simp [iN, nR] at hp
 | w :: ws, b, hw, p, hp => by
  simp only [iN, vE, List.mem_append, List.length_append] at hp ⊢
  rcases hp with hp | hp
  ·have key : ∀ (L : JL) (b : Nat), (∀ q ∈ L, ∀ t, q.2 = some t → 0 ≤ t ∧ t ≤ m) → ∀ p ∈ nR b L, p.1 < b + L.length ∧ 0 ≤ p.2 ∧ p.2 ≤ m := by
    intro L
    induction L with
    | nil => intro b _ p hp; simp [nR] at hp
    | cons q L ih =>
     intro b hq p hp
     obtain ⟨i, o⟩ := q
     cases o with
     | none =>
      have := ih (b + 1) (fun q h => hq q (List.mem_cons_of_mem _ h)) p hp
      simp only [List.length_cons]; omega
     | some t =>
      simp only [nR, List.mem_cons] at hp
      rcases hp with rfl | hp
      ·have := hq _ (List.mem_cons_self ..) t rfl
       simp only [List.length_cons]; omega
      ·have := ih (b + 1) (fun q h => hq q (List.mem_cons_of_mem _ h)) p hp
       simp only [List.length_cons]; omega
   have pl : ∀ l : List MI, ∀ q ∈ iB l, ∀ t, q.2 = some t → 0 ≤ t ∧ t ≤ m := fun l q hq t ht => by
    unfold iB at hq
    obtain ⟨i, _, rfl⟩ := List.mem_map.1 hq
    cases ht
   have hk := (hw w (List.mem_cons_self ..)).ok2.ok.k
   have on : ∀ (x : MI) (z : Int), 0 ≤ z ∧ z ≤ m → ∀ q ∈ [(x, some z)], ∀ t, q.2 = some t → 0 ≤ t ∧ t ≤ m := fun x z hz q hq t ht => by
    rw [List.mem_singleton.1 hq] at ht; cases ht; exact hz
   have ap : ∀ L M : JL, (∀ q ∈ L, ∀ t, q.2 = some t → 0 ≤ t ∧ t ≤ m) → (∀ q ∈ M, ∀ t, q.2 = some t → 0 ≤ t ∧ t ≤ m) → (∀ q ∈ L ++ M, ∀ t, q.2 = some t → 0 ≤ t ∧ t ≤ m) := fun L M h1 h2 q hq => by
    rcases List.mem_append.1 hq with hq | hq
    ·exact h1 q hq
    ·exact h2 q hq
   have tc : ∀ op r : Int, ∀ q ∈ nX op r w e, ∀ t, q.2 = some t → 0 ≤ t ∧ t ≤ m := fun op r => ap _ _ (pl _) (ap _ _ (pl _) (ap _ _ (on _ _ he) (pl _)))
   have all : ∀ q ∈ iW e w, ∀ t, q.2 = some t → 0 ≤ t ∧ t ≤ m := by
    have ite : ∀ (c : Prop) [Decidable c] (L M : JL), (c → ∀ q ∈ L, ∀ t, q.2 = some t → 0 ≤ t ∧ t ≤ m) → (∀ q ∈ M, ∀ t, q.2 = some t → 0 ≤ t ∧ t ≤ m) → ∀ q ∈ (if c then L else M), ∀ t, q.2 = some t → 0 ≤ t ∧ t ≤ m := fun c _ L M h1 h2 => by
     split
     ·rename_i hc; exact h1 hc
     ·exact h2
    unfold iW
    iterate 14 refine ite _ _ _ (fun _ => pl _) ?_
    refine ite _ _ _ (fun _ => tc _ _) ?_
    refine ite _ _ _ (fun _ => tc _ _) ?_
    refine ite _ _ _ (fun h => on _ _ (by have := hk (by omega) (by omega); omega)) ?_
    refine ite _ _ _ (fun h => on _ _ (by have := hk (by omega) (by omega); omega)) ?_
    refine ite _ _ _ (fun h => on _ _ (by have := hk (by omega) (by omega); omega)) ?_
    refine ite _ _ _ (fun _ => pl _) ?_
    intro q hq; cases hq
   have := key _ b all p hp
   omega
  ·have := aGA he hn ws (b + (iW e w).length) (fun x hx => hw x (List.mem_cons_of_mem _ hx)) p hp
   omega
section
variable {cs : List Int} {fuel : Int} {f : Nat} {s s2 s' : QS} {i : MI}
theorem vS (h1 : 0 ≤ s.at_ ∧ s.at_ < cs.length) (h2 : (s.steps : Int) ≠ fuel) (ho : ofF (cs.getD s.at_.toNat 0) = some i) (ha : s.tick.next.act i = (s2, true)) : pR cs fuel (f + 1) s = pR cs fuel f s2 := by
 simp only [pR]
 rw [if_neg (by omega), if_neg h2]
 have e : s.tick.step (cs.getD s.at_.toNat 0) = (s2, true) := by unfold QS.step; rw [ho]; exact ha
 rw [e]
theorem aDw (h1 : 0 ≤ s.at_ ∧ s.at_ < cs.length) (h2 : (s.steps : Int) ≠ fuel) (ho : ofF (cs.getD s.at_.toNat 0) = some i) (ha : s.tick.next.act i = (s2, false)) : pR cs fuel (f + 1) s = some s2 := by
 simp only [pR]
 rw [if_neg (by omega), if_neg h2]
 have e : s.tick.step (cs.getD s.at_.toNat 0) = (s2, false) := by unfold QS.step; rw [ho]; exact ha
 rw [e]
theorem aIJ (h1 : s.at_ < 0 ∨ (cs.length : Int) ≤ s.at_) : pR cs fuel (f + 1) s = some { s with code := 3 } := by
 simp only [pR]
 rw [if_pos h1]
end
section
variable {cs : List Int} {fuel : Int} {f : Nat} {cd : Int} {mem : List Nat} {x0 x1 y z : Nat} {lk : List (Int × Int)} {st : Nat} {fl : FL} {a : Int}
end
def At (cs : List Int) (p : Int) (i : MI) : Prop := 0 ≤ p ∧ p < cs.length ∧ ofF (cs.getD p.toNat 0) = some i
def qD (cs : List Int) (fuel : Int) (q : QS) (m : Nat) (q2 : QS) : Prop := ∀ f, pR cs fuel (f + m) q = pR cs fuel f q2
def aDL (cs : List Int) (fuel : Int) (q : QS) (m : Nat) (q2 : QS) : Prop := ∀ f, pR cs fuel (f + m) q = some q2
section
variable {cs : List Int} {fuel : Int} {cd : Int} {mem : List Nat} {r : List Nat} {lk : List (Int × Int)} {st : Nat} {fl : FL} {p : Int} {i : MI} {q q2 q3 : QS} {m n : Nat}
theorem qD.refl : qD cs fuel q 0 q := fun f => rfl
theorem qD.trans (h : qD cs fuel q m q2) (h2 : qD cs fuel q2 n q3) : qD cs fuel q (m + n) q3 := fun f => by
 rw [show f + (m + n) = f + n + m by omega, h, h2]
theorem qD.ends (h : qD cs fuel q m q2) (h2 : aDL cs fuel q2 n q3) : aDL cs fuel q (m + n) q3 := fun f => by
 rw [show f + (m + n) = f + n + m by omega, h, h2]
theorem xQ (h : At cs p i) (ho : i.op ≤ 17) (hs : (st : Int) < fuel) : qD cs fuel ⟨cd, mem, r, lk, st, fl, p⟩ 1 ⟨cd, mem, (dD i r fl).1, lk ++ [(1, p)], st + 1, (dD i r fl).2, p + 1⟩ := fun f => by
 refine vS ⟨h.1, h.2.1⟩ (show ((st : Nat) : Int) ≠ fuel by omega) h.2.2 ?_
 unfold QS.act
 rw [if_neg (by omega), if_neg (by omega), if_neg (by omega)]
 rfl
theorem aOY {k : Int} (h : At cs p ⟨20, 0, 0, 0, 0, k⟩) (hs : (st : Int) < fuel) : qD cs fuel ⟨cd, mem, r, lk, st, fl, p⟩ 1 ⟨cd, mem, r, lk ++ [(1, p)], st + 1, fl, p + k⟩ := fun f => by
 refine vS ⟨h.1, h.2.1⟩ (show ((st : Nat) : Int) ≠ fuel by omega) h.2.2 ?_
 unfold QS.act
 rw [if_neg (show ¬ ((20 : Int) = 18 ∨ (20 : Int) = 19) by decide), if_pos (show (20 : Int) = 20 ∨ (20 : Int) = 21 ∨ (20 : Int) = 22 ∨ (20 : Int) = 23 by decide)]
 unfold QS.branch
 rw [if_pos rfl]
 have : p + k = p + 1 + (k - 1) := by omega
 rw [this]; rfl
theorem aMg {op d k : Int} (ho : op = 22 ∨ op = 23) (g : Bool) (hg : g = (if op = 22 then decide (cO r d = 0) else decide (cO r d ≠ 0))) (h : At cs p ⟨op, d, 0, 0, 0, k⟩) (hs : (st : Int) < fuel) :
  qD cs fuel ⟨cd, mem, r, lk, st, fl, p⟩ 1 ⟨cd, mem, r, lk ++ [(1, p)] ++ [(2, if g = true then 1 else 0)], st + 1, fl, if g = true then p + k else p + 1⟩ := fun f => by
 refine vS ⟨h.1, h.2.1⟩ (show ((st : Nat) : Int) ≠ fuel by omega) h.2.2 ?_
 have e : (QS.next (QS.tick ⟨cd, mem, r, lk, st, fl, p⟩)).goes ⟨op, d, 0, 0, 0, k⟩ = g := by
  rw [hg]
  unfold QS.goes
  rw [if_neg (show ¬ op = 21 by omega)]; rfl
 unfold QS.act
 rw [if_neg (show ¬ (op = 18 ∨ op = 19) by omega), if_pos (show op = 20 ∨ op = 21 ∨ op = 22 ∨ op = 23 by omega)]
 unfold QS.branch
 rw [if_neg (show ¬ op = 20 by omega), e]
 cases g
 ·rfl
 ·have : p + k = p + 1 + (k - 1) := by omega
  simp only [if_true]
  rw [this]; rfl
theorem aNR {k : Int} (hk : k ≤ 2) (h : At cs p ⟨24, 0, 0, 0, 0, k⟩) (hs : (st : Int) < fuel) : aDL cs fuel ⟨cd, mem, r, lk, st, fl, p⟩ 1 ⟨k, mem, r, lk ++ [(1, p)], st + 1, fl, p + 1⟩ := fun f => by
 refine aDw ⟨h.1, h.2.1⟩ (show ((st : Nat) : Int) ≠ fuel by omega) h.2.2 ?_
 unfold QS.act
 rw [if_neg (show ¬ ((24 : Int) = 18 ∨ (24 : Int) = 19) by decide), if_neg (show ¬ ((24 : Int) = 20 ∨ (24 : Int) = 21 ∨ (24 : Int) = 22 ∨ (24 : Int) = 23) by decide), if_pos rfl]
 show (({ code := if k ≤ 2 then k else 3, mem := mem, regs := r, leaks := lk ++ [(1, p)], steps := st + 1, flags := fl, at_ := p + 1 } : QS), false) = _
 rw [if_pos hk]
theorem aHV (h : (cs.length : Int) ≤ p) : aDL cs fuel ⟨cd, mem, r, lk, st, fl, p⟩ 1 ⟨3, mem, r, lk, st, fl, p⟩ := fun f => aIJ (Or.inr h)
theorem aCU {op d : Int} {y : Nat} (hy : y < 65536) (hr : cO r 28 = 8 * y) : (QS.next (QS.tick ⟨cd, mem, r, lk, st, fl, p⟩)).addr ⟨op, d, 28, 0, 0, 0⟩ = 8 * y := by
 show (cO r 28 + 8 * u64 0 % 18446744073709551616) % 18446744073709551616 = _
 rw [hr]
 have : u64 0 = 0 := rfl
 rw [this]; omega
theorem aOj {d : Int} {y : Nat} (h : At cs p ⟨18, d, 28, 0, 0, 0⟩) (hs : (st : Int) < fuel) (hy : y < 65536) (hr : cO r 28 = 8 * y) (hm : y < mem.length) :
  qD cs fuel ⟨cd, mem, r, lk, st, fl, p⟩ 1 ⟨cd, mem, gC r d (mem.getD y 0), lk ++ [(1, p)] ++ [(3, mT (8 * y))], st + 1, fl, p + 1⟩ := fun f => by
 refine vS ⟨h.1, h.2.1⟩ (show ((st : Nat) : Int) ≠ fuel by omega) h.2.2 ?_
 have ea := @aCU cd mem r lk st fl p 18 d y hy hr
 have hmm : (QS.next (QS.tick ⟨cd, mem, r, lk, st, fl, p⟩)).mem = mem := rfl
 unfold QS.act
 rw [if_pos (show (18 : Int) = 18 ∨ (18 : Int) = 19 by decide)]
 unfold QS.touch
 rw [ea, hmm]
 have e8 : 8 * y / 8 = y := by omega
 simp only
 rw [if_neg (show ¬ (8 * y % 8 ≠ 0 ∨ mem.length ≤ 8 * y / 8) by omega), if_pos trivial, e8]
 rfl
theorem aOH {d : Int} {y : Nat} (h : At cs p ⟨19, d, 28, 0, 0, 0⟩) (hs : (st : Int) < fuel) (hy : y < 65536) (hr : cO r 28 = 8 * y) (hm : y < mem.length) :
  qD cs fuel ⟨cd, mem, r, lk, st, fl, p⟩ 1 ⟨cd, mem.set y (cO r d), r, lk ++ [(1, p)] ++ [(3, mT (8 * y))], st + 1, fl, p + 1⟩ := fun f => by
 refine vS ⟨h.1, h.2.1⟩ (show ((st : Nat) : Int) ≠ fuel by omega) h.2.2 ?_
 have ea := @aCU cd mem r lk st fl p 19 d y hy hr
 have hmm : (QS.next (QS.tick ⟨cd, mem, r, lk, st, fl, p⟩)).mem = mem := rfl
 unfold QS.act
 rw [if_pos (show (19 : Int) = 18 ∨ (19 : Int) = 19 by decide)]
 unfold QS.touch
 rw [ea, hmm]
 have e8 : 8 * y / 8 = y := by omega
 simp only
 rw [if_neg (show ¬ (8 * y % 8 ≠ 0 ∨ mem.length ≤ 8 * y / 8) by omega), if_neg (show ¬ (19 : Int) = 18 by decide), e8]
 rfl
theorem aME {op d : Int} {y : Nat} (ho : op = 18 ∨ op = 19) (h : At cs p ⟨op, d, 28, 0, 0, 0⟩) (hs : (st : Int) < fuel) (hy : y < 65536) (hr : cO r 28 = 8 * y) (hm : mem.length ≤ y) :
  aDL cs fuel ⟨cd, mem, r, lk, st, fl, p⟩ 1 ⟨3, mem, r, lk ++ [(1, p)] ++ [(3, mT (8 * y))], st + 1, fl, p + 1⟩ := fun f => by
 refine aDw ⟨h.1, h.2.1⟩ (show ((st : Nat) : Int) ≠ fuel by omega) h.2.2 ?_
 have ea := @aCU cd mem r lk st fl p op d y hy hr
 have hmm : (QS.next (QS.tick ⟨cd, mem, r, lk, st, fl, p⟩)).mem = mem := rfl
 unfold QS.act
 rw [if_pos (show op = 18 ∨ op = 19 from ho)]
 unfold QS.touch
 rw [ea, hmm]
 have e8 : 8 * y / 8 = y := by omega
 simp only
 rw [if_pos (show (8 * y % 8 ≠ 0 ∨ mem.length ≤ 8 * y / 8) by omega)]
 rfl
end
def wN (p : Int) : Nat → List (Int × Int)
 | 0 => []
 | c + 1 => (1, p) :: wN (p + 1) c
theorem aCO (p : Int) : ∀ a b : Nat, wN p (a + b) = wN p a ++ wN (p + a) b
 | 0, b => by simp [wN]
 | a + 1, b => by
  rw [show a + 1 + b = a + b + 1 by omega]
  simp only [wN, aCO (p + 1) a b, List.cons_append]
  rw [show p + 1 + (a : Int) = p + ((a + 1 : Nat) : Int) by omega]
theorem aKC (p : Int) : wN p 1 = [(1, p)] := rfl
def lkA (ws : List WI) (x : Int) : List (Int × Int) :=
 if (ws.getD x.toNat default).op = 15 ∨ (ws.getD x.toNat default).op = 16 ∨ (ws.getD x.toNat default).op = 18 ∨ (ws.getD x.toNat default).op = 19 then []
 else wN (lY ws x.toNat) (iW ws.length (ws.getD x.toNat default)).length
def lkT (P : Int) (c : Nat) (y : Nat) : List (Int × Int) :=
 wN P (c + 2) ++ (if y / 65536 ≠ 0 then [(2, 1)] else [(2, 0), (1, P + c + 2), (1, P + c + 3), (3, mT (8 * y))])
def lkB (ws : List WI) (pc x : Int) : List (Int × Int) :=
 if (ws.getD pc.toNat default).op = 18 ∨ (ws.getD pc.toNat default).op = 19 then [(1, (lY ws pc.toNat : Int)), (2, x)]
 else lkT (lY ws pc.toNat) (mO (ws.getD pc.toNat default)).length (u64 x)
def mlk (ws : List WI) : Int → List (Int × Int) → List (Int × Int)
 | _, [] => []
 | pc, (k, x) :: T => if k = 1 then lkA ws x ++ mlk ws x T else lkB ws pc x ++ mlk ws pc T
theorem xL {cs : List Int} {fuel cd : Int} {mem : List Nat} {fl : FL} {d : Int} : ∀ (L : List MI) (p : Int) (r : List Nat) (lk : List (Int × Int)) (st : Nat), (∀ i ∈ L, isC d i) → (∀ (t : Nat) (i : MI), L[t]? = some i → At cs (p + t) i) → (st : Int) + L.length ≤ fuel →
  qD cs fuel ⟨cd, mem, r, lk, st, fl, p⟩ L.length ⟨cd, mem, aCM fl L r, lk ++ wN p L.length, st + L.length, fl, p + L.length⟩
 | [], p, r, lk, st, _, _, _ => by
  have e : p + (([] : List MI).length : Int) = p := by simp
  rw [e]
  show qD cs fuel _ 0 ⟨cd, mem, r, lk ++ [], st, fl, p⟩
  rw [List.append_nil]
  exact qD.refl
 | i :: L, p, r, lk, st, hL, hA, hst => by
  obtain ⟨hr, hop⟩ := hL i (List.mem_cons_self ..)
  simp only [List.length_cons] at hst ⊢
  have e2 : (dD i r fl).2 = fl := by
   unfold dD
   rw [if_neg (by omega), if_neg (by omega), if_neg (by omega)]
  have a0 : At cs p i := by
   have := hA 0 i rfl
   simpa using this
  have g1 := xQ (cd := cd) (mem := mem) (r := r) (lk := lk) (st := st) (fl := fl) a0 (by omega) (show ((st : Nat) : Int) < fuel by omega)
  rw [e2] at g1
  have g2 := xL (cs := cs) (fuel := fuel) (cd := cd) (mem := mem) (fl := fl) (d := d) L (p + 1) (dD i r fl).1 (lk ++ [(1, p)]) (st + 1) (fun j hj => hL j (List.mem_cons_of_mem _ hj)) (fun t j hj => by
   have := hA (t + 1) j (by simpa using hj)
   rw [show p + 1 + (t : Int) = p + ((t + 1 : Nat) : Int) by omega]; exact this) (by omega)
  have g3 := g1.trans g2
  rw [show 1 + L.length = L.length + 1 by omega, show st + 1 + L.length = st + (L.length + 1) by omega, show p + 1 + (L.length : Int) = p + ((L.length + 1 : Nat) : Int) by omega, List.append_assoc] at g3
  exact g3
structure Sim (ws : List WI) (R : Nat) (s : MS) (q : QS) : Prop where
 rl : q.regs.length = 31
 rg : ∀ j, j < R → q.regs.getD j 0 = s.regs.getD j 0
 mem : q.mem = s.mem
 at_ : q.at_ = (lY ws s.at_ : Int)
def oR (ws : List WI) : List Int := (aCA ws).map cS
def mN (fuel : Int) (ws : List WI) (R : Nat) (s : MS) (q : QS) (s2 : MS) (b : Bool) : Prop :=
 ∃ (m : Nat) (q2 : QS) (Y X : List (Int × Int)), m ≤ 10 ∧ s2.leaks = s.leaks ++ Y ∧ q2.leaks = q.leaks ++ X ∧ (∀ pc T, mlk ws pc (Y ++ T) = X ++ mlk ws s.at_ T) ∧ q2.mem = s2.mem ∧ q2.steps ≤ q.steps + 9 ∧
  (b = true → qD (oR ws) fuel q m q2 ∧ Sim ws R s2 q2) ∧ (b = false → aDL (oR ws) fuel q m q2 ∧ q2.code = s2.code)
theorem mP (l : List Nat) (i j x : Nat) (hi : i < l.length) : (l.set i x).getD j 0 = if i = j then x else l.getD j 0 := by
 rw [List.getD_eq_getElem?_getD, List.getD_eq_getElem?_getD, List.getElem?_set]
 by_cases h : i = j
 ·rw [if_pos h, if_pos h, if_pos hi]; rfl
 ·rw [if_neg h, if_neg h]
section
variable {ws : List WI} {R : Nat} {fuel : Int} {s : MS} {q : QS} {i : WI}
theorem vY (h : Sim ws R s q) {a : Int} (h0 : 0 ≤ a) (h1 : a < R) (hR : R ≤ 28) : cO q.regs a = s.rg a := by
 unfold cO MS.rg
 rw [if_neg (by omega)]
 exact h.rg _ (by omega)
theorem aGt {r r2 : List Nat} (hl : r.length = R) (hl2 : r2.length = 31) (hR : R ≤ 28) (h : ∀ j, j < R → r2.getD j 0 = r.getD j 0) (d x : Nat) (hd : d < R) : ∀ j, j < R → (r2.set d x).getD j 0 = (r.set d x).getD j 0 := fun j hj => by
 rw [mP _ _ _ _ (by omega), mP _ _ _ _ (by omega), h j hj]
theorem aFW (hR : R ≤ 28) (hw : ∀ w ∈ ws, w.Good R ws.length) (hl : ws.length ≤ 10000) {j : Nat} (hj : j < ws.length) {t : Nat} {i : MI} (hC : (mZ (lH ws) (lY ws j) (iW ws.length (ws.getD j default)))[t]? = some i) :
  (oR ws).getD ((lY ws j : Int) + t).toNat 0 = cS i ∧ aT i = true ∧ (0 : Int) ≤ (lY ws j : Int) + t ∧ (lY ws j : Int) + t < ((oR ws).length : Int) := by
 obtain ⟨pre, post, h1, h2⟩ := aKs ws j hj
 have ht := (List.getElem?_eq_some_iff.1 hC).1
 have e : (aCA ws)[lY ws j + t]? = some i := by
  rw [h1, List.getElem?_append_right (by omega), h2, Nat.add_sub_cancel_left, List.getElem?_append_left ht, hC]
 have hlt := (List.getElem?_eq_some_iff.1 e).1
 refine ⟨?_, tT hR hw hl i (List.mem_of_getElem? e), by omega, by unfold oR; rw [List.length_map]; omega⟩
 rw [show ((lY ws j : Int) + t).toNat = lY ws j + t by omega]
 unfold oR
 rw [List.getD_eq_getElem?_getD, List.getElem?_map, e]; rfl
theorem uL (hR : R ≤ 28) (hw : ∀ w ∈ ws, w.Good R ws.length) (hl : ws.length ≤ 10000) {j : Nat} (hj : j < ws.length) {t : Nat} {i : MI} (hC : (mZ (lH ws) (lY ws j) (iW ws.length (ws.getD j default)))[t]? = some i) (hn : ¬ (i.op = 12 ∧ i.imm = 0)) :
  At (oR ws) ((lY ws j : Int) + t) i := by
 obtain ⟨h1, h2, h3, h4⟩ := aFW hR hw hl hj hC
 exact ⟨h3, h4, by rw [h1]; exact uV h2 hn⟩
theorem aIb (hR : R ≤ 28) (hw : ∀ w ∈ ws, w.Good R ws.length) (hl : ws.length ≤ 10000) {j : Nat} (hj : j < ws.length) {t : Nat} {d n : Int} (hd : Rw d) (hn : Rw n) (hC : (mZ (lH ws) (lY ws j) (iW ws.length (ws.getD j default)))[t]? = some ⟨12, d, n, 0, 0, 0⟩) :
  At (oR ws) ((lY ws j : Int) + t) ⟨13, d, n, 0, 0, 0⟩ := by
 obtain ⟨h1, h2, h3, h4⟩ := aFW hR hw hl hj hC
 refine ⟨h3, h4, ?_⟩
 rw [h1, aEB]
 exact uV (aHC (.inr (.inl rfl)) (Rw.le hd (by decide)) (Rw.le hn (by decide)) ⟨by decide, by decide⟩) (show ¬ ((13 : Int) = 12 ∧ (0 : Int) = 0) by decide)
theorem aHv (h : 1 ≤ i.op ∧ i.op ≤ 14) (hv : (jW i.op i.k (s.rg i.a) (s.rg i.b) (s.rg i.c)).2 = true) :
  s.tick.step i = (⟨s.regs.set i.d.toNat (jW i.op i.k (s.rg i.a) (s.rg i.b) (s.rg i.c)).1, s.at_ + 1, s.code, s.mem, s.leaks ++ [(1, (s.at_ : Int))], s.steps + 1⟩, true) := by
 have e : ∀ j, MS.rg ({ s.tick with at_ := s.tick.at_ + 1 } : MS) j = s.rg j := fun j => rfl
 unfold MS.step
 simp only [e]
 rw [if_neg (by omega), if_neg (by omega), if_neg (by omega), if_pos hv]
 rfl
theorem aAC (hsim : Sim ws R s q) (hs : s.Ok R) (hR : R ≤ 28) (hj : s.at_ < ws.length) (hi : ws.getD s.at_ default = i) (hop : 1 ≤ i.op ∧ i.op ≤ 14) (hv : (jW i.op i.k (s.rg i.a) (s.rg i.b) (s.rg i.c)).2 = true) (hd : 0 ≤ i.d ∧ i.d < R)
  {c : Nat} (hc : (iW ws.length i).length = c) (hc9 : c ≤ 9) {fl2 : FL} (hg : qD (oR ws) fuel q c ⟨q.code, q.mem, q.regs.set i.d.toNat (jW i.op i.k (s.rg i.a) (s.rg i.b) (s.rg i.c)).1, q.leaks ++ wN (lY ws s.at_) c, q.steps + c, fl2, (lY ws s.at_ : Int) + c⟩) :
  ∃ s2 b, s.tick.step i = (s2, b) ∧ mN fuel ws R s q s2 b := by
 refine ⟨_, _, aHv hop hv, c, ⟨q.code, q.mem, q.regs.set i.d.toNat (jW i.op i.k (s.rg i.a) (s.rg i.b) (s.rg i.c)).1, q.leaks ++ wN (lY ws s.at_) c, q.steps + c, fl2, (lY ws s.at_ : Int) + c⟩, [(1, (s.at_ : Int))], wN (lY ws s.at_) c, by omega, rfl, rfl, fun pc T => ?_, hsim.mem, (by show q.steps + c ≤ q.steps + 9; omega), fun _ => ⟨hg, ?_⟩, fun h => by cases h⟩
 ·show (if (1 : Int) = 1 then lkA ws s.at_ ++ mlk ws s.at_ T else _) = _
  rw [if_pos rfl]
  unfold lkA
  rw [Int.toNat_natCast, hi, if_neg (by omega), hc]
 ·refine ⟨by simpa using hsim.rl, ?_, hsim.mem, ?_⟩
  ·exact aGt hs.len hsim.rl hR hsim.rg _ _ (by omega)
  ·show (lY ws s.at_ : Int) + c = (lY ws (s.at_ + 1) : Int)
   rw [aAs ws s.at_ hj, hi, hc]; omega
end
end Go.Proofs.YtdfglgnflldkpaaDoor.Mir
