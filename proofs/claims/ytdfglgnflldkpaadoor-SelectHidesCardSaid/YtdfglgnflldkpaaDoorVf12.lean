/- Part 12 of the proof: what these functions do. -/
import Derived.Test.YtdfglgnflldkpaaDoorVf11
import Derived.KernelRfl
namespace Go.Proofs.YtdfglgnflldkpaaDoor.Mir
open Go
set_option linter.unusedSimpArgs false
set_option linter.unusedVariables false
set_option maxHeartbeats 8000000
set_option maxRecDepth 20000
def ro (e : Nat) : Nat := if e = 0 then 0 else if e = 1 then 5 else if e = 2 then 1 else if e = 3 then 3 else if e = 4 then 2 else 4
structure Frm where
 d : Bool
 a : Bool
 b : Bool
 c : Bool
 k : Bool
def jW (op : Int) : Option Frm :=
 if op = 1 then some ⟨true, false, false, false, true⟩
 else if op = 2 then some ⟨true, true, false, false, false⟩
 else if (3 ≤ op ∧ op ≤ 9) ∨ op = 13 then some ⟨true, true, true, false, false⟩
 else if (10 ≤ op ∧ op ≤ 12) ∨ op = 15 then some ⟨true, true, false, false, true⟩
 else if op = 14 then some ⟨true, true, true, true, false⟩
 else if op = 16 then some ⟨false, true, true, false, true⟩
 else if op = 17 ∨ op = 20 then some ⟨false, false, false, false, true⟩
 else if op = 18 ∨ op = 19 then some ⟨false, true, false, false, true⟩
 else none
def gM (op : Int) : ByteArray :=
 if op = 1 then ⟨#[99, 111, 110, 115, 116]⟩ else if op = 2 then ⟨#[109, 111, 118]⟩ else if op = 3 then ⟨#[97, 100, 100]⟩ else if op = 4 then ⟨#[115, 117, 98]⟩ else if op = 5 then ⟨#[109, 117, 108]⟩
 else if op = 6 then ⟨#[104, 105, 103, 104]⟩ else if op = 7 then ⟨#[97, 110, 100]⟩ else if op = 8 then ⟨#[111, 114]⟩ else if op = 9 then ⟨#[120, 111, 114]⟩ else if op = 10 then ⟨#[115, 104, 108]⟩
 else if op = 11 then ⟨#[115, 104, 114]⟩ else if op = 12 then ⟨#[115, 97, 114]⟩ else if op = 13 then ⟨#[108, 101, 115, 115]⟩ else if op = 14 then ⟨#[115, 101, 108]⟩ else if op = 15 then ⟨#[108, 100]⟩
 else if op = 16 then ⟨#[115, 116]⟩ else if op = 17 then ⟨#[98, 114]⟩ else if op = 18 then ⟨#[98, 122]⟩ else if op = 19 then ⟨#[98, 110, 122]⟩ else if op = 20 then ⟨#[104, 97, 108, 116]⟩ else ⟨#[110, 111, 110, 101]⟩
def lF (w : ByteArray) (f : Frm) : AV := .agg [.str w, .bool f.d, .bool f.a, .bool f.b, .bool f.c, .bool f.k]
def lO (op : Int) : Frm := match jW op with | some f => f | none => ⟨false, false, false, false, false⟩
theorem aDF {op : Int} (h : 1 ≤ op ∧ op ≤ 20) : op = 1 ∨ op = 2 ∨ op = 3 ∨ op = 4 ∨ op = 5 ∨ op = 6 ∨ op = 7 ∨ op = 8 ∨ op = 9 ∨ op = 10 ∨ op = 11 ∨ op = 12 ∨ op = 13 ∨ op = 14 ∨ op = 15 ∨ op = 16 ∨ op = 17 ∨ op = 18 ∨ op = 19 ∨ op = 20 := by omega
theorem nU {op : Int} (h : ¬ (1 ≤ op ∧ op ≤ 20)) : jW op = none := by
 unfold jW
 repeat rw [if_neg (by omega)]
theorem aFp {op : Int} (h : ¬ (1 ≤ op ∧ op ≤ 20)) : gM op = ⟨#[110, 111, 110, 101]⟩ := by
 unfold gM
 repeat rw [if_neg (by omega)]
theorem aHm (G : aG) (k : Nat) (op : Int) : gN.f G (k + 4) [I6 op] [] = some (.tup [lF (gM op) (lO op), .bool (jW op).isSome], []) := by
 by_cases h : 1 ≤ op ∧ op ≤ 20
 ·rcases aDF h with rfl | rfl | rfl | rfl | rfl | rfl | rfl | rfl | rfl | rfl | rfl | rfl | rfl | rfl | rfl | rfl | rfl | rfl | rfl | rfl <;> kernel_rfl
 ·rw [gN.step]
  unfold gN.c
  unfold lO
  rw [nU h, aFp h]
  refine eO ?_
  have fx := True.intro
  refine gI ?_
  refine gY ?_
  rfl
def bsV (f : Frm) : AV := .ro false [.bool f.d, .bool f.a, .bool f.b, .bool f.c, .bool f.k]
def isV (i : WI) : AV := .ro false [I6 i.d, I6 i.a, I6 i.b, I6 i.c, I6 i.k]
theorem aHG (G : aG) (k : Nat) (i : WI) (w : ByteArray) (f : Frm) : gQ.f G (k + 1) [i.v, lF w f] [] = some (.tup [bsV f, isV i], []) := by kernel_rfl
abbrev eV (g : Nat) : AV := .iface 180 (.gp (ro g))
def nJ (is : Bool) (r R : Int) : Bool := is && (decide (r < 0) || decide (R ≤ r))
section
variable (G : aG) (k : Nat) (self : dA) (c1 : AV) (R : Int) (hR0 : 0 ≤ R)
abbrev bxC (cv : AV) (R M : Int) : AV := .rp false (.agg [cv, I6 R, I6 M]) 0
abbrev xs6 (cv : AV) (R M : Int) (i : WI) (f : Frm) (j : Int) : List AV := [bxC cv R M, .rp false i.v 0, .nili, bsV f, isV i, I6 j]
theorem zT {bor : Bool} {xs : List AV} {k' : IntKind} {j : Nat} {y : AV} (h : xs[j]? = some y) (h1 : y.cells.length = 1) : cF 1 (.ro bor xs) (.int k' (j : Int)) = some (.rp bor y 0) := by
 unfold cF
 simp [h, h1]
theorem aLq {b bor : Bool} {H : aF} : aC G false 1 (.rp bor (.bool b) 0) H = some (.bool b) := rfl
theorem aLr {n : Int} {bor : Bool} {H : aF} : aC G false 1 (.rp bor (I6 n) 0) H = some (I6 n) := rfl
theorem uO (cv : AV) (M : Int) (i : WI) (f : Frm) (j : Nat) (hj : j < 4) (t : Bool) (p : Int) (ht : [AV.bool f.d, .bool f.a, .bool f.b, .bool f.c, .bool f.k][j]? = some (.bool t)) (hp : [I6 i.d, I6 i.a, I6 i.b, I6 i.c, I6 i.k][j]? = some (I6 p))
  (hG : G 1 = some (eV 2)) (hcl : cG 0 cv = true) (n : Nat) :
  gP (dO.l6 G k 1 self) (n + 1) (xs6 cv R M i f j) [⟨163, 6, [lF (gM i.op) f]⟩] =
   if nJ t p R = true then some (.ret, [bxC cv R M, .rp false i.v 0, eV 2, bsV f, isV i, I6 j], [⟨163, 6, [lF (gM i.op) f]⟩])
   else gP (dO.l6 G k 1 self) n (xs6 cv R M i f (j + 1 : Nat)) [⟨163, 6, [lF (gM i.op) f]⟩] := by
 rw [fD, dO.l6]
 have hc : iL 1 (xs6 cv R M i f j) [⟨163, 6, [lF (gM i.op) f]⟩] = some [⟨163, 6, [lF (gM i.op) f]⟩] := by
  have := kO (Nat.zero_le 1) hcl
  simp [iL, dE, cG, dS, this, bsV, isV, WI.v, lF]
 have d1 : cF 1 (bsV f) (I6 j) = some (.rp false (.bool t) 0) := zT ht rfl
 have d2 : cF 1 (isV i) (I6 j) = some (.rp false (I6 p) 0) := zT hp rfl
 have l1 := fun (b bor : Bool) (H : aF) => @aLq G b bor H
 have l2 := fun (n : Int) (bor : Bool) (H : aF) => @aLr G n bor H
 have l3 : ∀ H, aC G false 1 (.gl 1) H = some (eV 2) := fun H => hG
 refine jQ ?_
 refine eC hc ?_
 cases t
 ·rw [show nJ false p R = false from rfl, if_neg (by simp)]
  have fx := aPt d1 <| aPt d2 <| aPt l1 <| l2
  refine gI ?_
  rfl
 ·by_cases ho : p < 0 ∨ R ≤ p
  ·have e : nJ true p R = true := by unfold nJ; rcases ho with h | h <;> simp [h]
   rw [if_pos e]
   have fx := aPt d1 <| aPt d2 <| aPt l1 <| aPt l2 <| l3
   refine gI ?_
   rfl
  ·have e : nJ true p R = false := by unfold nJ; simp; omega
   rw [if_neg (by simp [e])]
   have fx := aPt d1 <| aPt d2 <| aPt l1 <| aPt l2 <| l3
   refine gI ?_
   rfl
theorem aMk (cv : AV) (M : Int) (i : WI) (f : Frm) (hcl : cG 0 cv = true) (n : Nat) :
  gP (dO.l6 G k 1 self) (n + 1) (xs6 cv R M i f (4 : Nat)) [⟨163, 6, [lF (gM i.op) f]⟩] = some (.exit 0, xs6 cv R M i f (4 : Nat), [⟨163, 6, [lF (gM i.op) f]⟩]) := by
 rw [fD, dO.l6]
 have hc : iL 1 (xs6 cv R M i f (4 : Nat)) [⟨163, 6, [lF (gM i.op) f]⟩] = some [⟨163, 6, [lF (gM i.op) f]⟩] := by
  have := kO (Nat.zero_le 1) hcl
  simp [iL, dE, cG, dS, this, bsV, isV, WI.v, lF]
 refine jQ ?_
 refine eC hc ?_
 have fx := True.intro
 refine gI ?_
 rfl
def vB (f : Frm) (i : WI) (R : Int) : Bool := nJ f.d i.d R || nJ f.a i.a R || nJ f.b i.b R || nJ f.c i.c R
def uX (f : Frm) (i : WI) : Bool := (!f.d && decide (i.d ≠ 0)) || (!f.a && decide (i.a ≠ 0)) || (!f.b && decide (i.b ≠ 0)) || (!f.c && decide (i.c ≠ 0)) || (!f.k && decide (i.k ≠ 0))
theorem aMj (cv : AV) (M : Int) (i : WI) (f : Frm) (hG : G 1 = some (eV 2)) (hcl : cG 0 cv = true) (n : Nat) :
  (vB f i R = true → ∃ j, gP (dO.l6 G k 1 self) (n + 5) (xs6 cv R M i f (0 : Nat)) [⟨163, 6, [lF (gM i.op) f]⟩] = some (.ret, [bxC cv R M, .rp false i.v 0, eV 2, bsV f, isV i, j], [⟨163, 6, [lF (gM i.op) f]⟩])) ∧
  (vB f i R = false → gP (dO.l6 G k 1 self) (n + 5) (xs6 cv R M i f (0 : Nat)) [⟨163, 6, [lF (gM i.op) f]⟩] = some (.exit 0, xs6 cv R M i f (4 : Nat), [⟨163, 6, [lF (gM i.op) f]⟩])) := by
 rw [uO G k self R cv M i f 0 (by omega) f.d i.d rfl rfl hG hcl]
 rw [uO G k self R cv M i f 1 (by omega) f.a i.a rfl rfl hG hcl]
 rw [uO G k self R cv M i f 2 (by omega) f.b i.b rfl rfl hG hcl]
 rw [uO G k self R cv M i f 3 (by omega) f.c i.c rfl rfl hG hcl]
 rw [aMk G k self R cv M i f hcl]
 unfold vB
 generalize nJ f.d i.d R = o1
 generalize nJ f.a i.a R = o2
 generalize nJ f.b i.b R = o3
 generalize nJ f.c i.c R = o4
 cases o1 <;> cases o2 <;> cases o3 <;> cases o4 <;> simp
abbrev aCI (cv : AV) (R M : Int) (i : WI) (f : Frm) (j : Int) : List AV := [bxC cv R M, .rp false i.v 0, .nili, isV i, bsV f, .int .i64 5, I6 j]
theorem pP (cv : AV) (M : Int) (i : WI) (f : Frm) (j : Nat) (hj : j < 5) (t : Bool) (p : Int) (ht : [AV.bool f.d, .bool f.a, .bool f.b, .bool f.c, .bool f.k][j]? = some (.bool t)) (hp : [I6 i.d, I6 i.a, I6 i.b, I6 i.c, I6 i.k][j]? = some (I6 p))
  (hG : G 3 = some (eV 3)) (hcl : cG 0 cv = true) (n : Nat) :
  gP (dO.l12 G k 1 self) (n + 1) (aCI cv R M i f j) [⟨163, 6, [lF (gM i.op) f]⟩] =
   if (!t && decide (p ≠ 0)) = true then some (.ret, [bxC cv R M, .rp false i.v 0, eV 3, isV i, bsV f, .int .i64 5, I6 j], [⟨163, 6, [lF (gM i.op) f]⟩])
   else gP (dO.l12 G k 1 self) n (aCI cv R M i f (j + 1 : Nat)) [⟨163, 6, [lF (gM i.op) f]⟩] := by
 rw [fD, dO.l12]
 have hc : iL 1 (aCI cv R M i f j) [⟨163, 6, [lF (gM i.op) f]⟩] = some [⟨163, 6, [lF (gM i.op) f]⟩] := by
  have := kO (Nat.zero_le 1) hcl
  simp [iL, dE, cG, dS, this, bsV, isV, WI.v, lF]
 have d1 : cF 1 (bsV f) (I6 j) = some (.rp false (.bool t) 0) := zT ht rfl
 have d2 : cF 1 (isV i) (I6 j) = some (.rp false (I6 p) 0) := zT hp rfl
 have l1 := fun (b bor : Bool) (H : aF) => @aLq G b bor H
 have l2 := fun (n : Int) (bor : Bool) (H : aF) => @aLr G n bor H
 have l3 : ∀ H, aC G false 1 (.gl 3) H = some (eV 3) := fun H => hG
 refine jQ ?_
 refine eC hc ?_
 cases t
 ·by_cases ho : p ≠ 0
  ·rw [if_pos (by simp [ho])]
   have fx := aPt d1 <| aPt d2 <| aPt l1 <| aPt l2 <| l3
   refine gI ?_
   rfl
  ·rw [if_neg (by simp [ho])]
   have fx := aPt d1 <| aPt d2 <| aPt l1 <| aPt l2 <| l3
   refine gI ?_
   rfl
 ·rw [if_neg (by simp)]
  have fx := aPt d1 <| aPt d2 <| aPt l1 <| l2
  refine gI ?_
  rfl
theorem aJS (cv : AV) (M : Int) (i : WI) (f : Frm) (hcl : cG 0 cv = true) (n : Nat) :
  gP (dO.l12 G k 1 self) (n + 1) (aCI cv R M i f (5 : Nat)) [⟨163, 6, [lF (gM i.op) f]⟩] = some (.exit 2, aCI cv R M i f (5 : Nat), [⟨163, 6, [lF (gM i.op) f]⟩]) := by
 rw [fD, dO.l12]
 have hc : iL 1 (aCI cv R M i f (5 : Nat)) [⟨163, 6, [lF (gM i.op) f]⟩] = some [⟨163, 6, [lF (gM i.op) f]⟩] := by
  have := kO (Nat.zero_le 1) hcl
  simp [iL, dE, cG, dS, this, bsV, isV, WI.v, lF]
 refine jQ ?_
 refine eC hc ?_
 have fx := True.intro
 refine gI ?_
 rfl
theorem aJR (cv : AV) (M : Int) (i : WI) (f : Frm) (hG : G 3 = some (eV 3)) (hcl : cG 0 cv = true) (n : Nat) :
  (uX f i = true → ∃ j, gP (dO.l12 G k 1 self) (n + 6) (aCI cv R M i f (0 : Nat)) [⟨163, 6, [lF (gM i.op) f]⟩] = some (.ret, [bxC cv R M, .rp false i.v 0, eV 3, isV i, bsV f, .int .i64 5, j], [⟨163, 6, [lF (gM i.op) f]⟩])) ∧
  (uX f i = false → gP (dO.l12 G k 1 self) (n + 6) (aCI cv R M i f (0 : Nat)) [⟨163, 6, [lF (gM i.op) f]⟩] = some (.exit 2, aCI cv R M i f (5 : Nat), [⟨163, 6, [lF (gM i.op) f]⟩])) := by
 rw [pP G k self R cv M i f 0 (by omega) f.d i.d rfl rfl hG hcl]
 rw [pP G k self R cv M i f 1 (by omega) f.a i.a rfl rfl hG hcl]
 rw [pP G k self R cv M i f 2 (by omega) f.b i.b rfl rfl hG hcl]
 rw [pP G k self R cv M i f 3 (by omega) f.c i.c rfl rfl hG hcl]
 rw [pP G k self R cv M i f 4 (by omega) f.k i.k rfl rfl hG hcl]
 rw [aJS G k self R cv M i f hcl]
 unfold uX
 generalize (!f.d && decide (i.d ≠ 0)) = o1
 generalize (!f.a && decide (i.a ≠ 0)) = o2
 generalize (!f.b && decide (i.b ≠ 0)) = o3
 generalize (!f.c && decide (i.c ≠ 0)) = o4
 generalize (!f.k && decide (i.k ≠ 0)) = o5
 cases o1 <;> cases o2 <;> cases o3 <;> cases o4 <;> cases o5 <;> simp
end
def jI (i : WI) (R n : Int) : Option Nat :=
 if (jW i.op).isSome = false then some 4
 else if vB (lO i.op) i R = true then some 2
 else if uX (lO i.op) i = true then some 3
 else if i.op = 10 ∨ i.op = 11 ∨ i.op = 12 then (if i.k < 0 ∨ 63 < i.k then some 2 else none)
 else if i.op = 20 then (if i.k < 0 ∨ 2 < i.k then some 2 else none)
 else if i.op = 15 ∨ i.op = 16 then (if i.k < 0 ∨ 65535 < i.k then some 2 else none)
 else if i.op = 17 ∨ i.op = 18 ∨ i.op = 19 then (if i.k < 0 ∨ n < i.k then some 5 else none)
 else none
def aGI (o : Option Nat) : AV := match o with | some g => eV g | none => .nili
structure GOk (G : aG) : Prop where
 g0 : G 0 = some (eV 0)
 g2 : G 1 = some (eV 2)
 g3 : G 3 = some (eV 3)
 g4 : G 2 = some (eV 4)
 g5 : G 4 = some (eV 5)
theorem w1e {x : AV} {o : Option Nat} {H : aF} (e : aGI o = x) (hx : cG 0 x = true) : E gA [] (bQ [x] 0 H) (some (aGI o, [])) := by subst e; exact oF (mL hx H)
theorem aFn {bor : Bool} (G : aG) (hg : GOk G) (k : Nat) (cs : List WI) (R M : Int) (i : WI) :
  dO.f G (k + 7) [cV bor cs R M, i.v] [] = some (aGI (jI i R cs.length), []) := by
 rw [dO.step]
 unfold dO.c cV
 have r1 : ∀ H, aE (gN.f G (k + 6)) [I6 i.op] H = _ := fun H => aD (H := H) (aHm G (k + 2) i.op) rfl rfl
 have r2 : ∀ H, aE (gQ.f G (k + 6)) [i.v, lF (gM i.op) (lO i.op)] H = _ := fun H => aD (H := H) (aHG G (k + 5) i _ _) rfl rfl
 have b1 : ∀ H, dP i.v H = some (.rp false i.v 0, H) := fun H => rfl
 have g0 : aA 0 (.rp false i.v 0) = some (.rp false i.v 0) := rfl
 have g5 : aA 5 (.rp false i.v 0) = some (.rp false i.v 5) := rfl
 have l0 : ∀ H, aC G false 1 (.rp false i.v 0) H = some (I6 i.op) := fun H => rfl
 have l5 : ∀ H, aC G false 1 (.rp false i.v 5) H = some (I6 i.k) := fun H => rfl
 have l6 : ∀ H, aC G true 6 (.rp false i.v 0) H = some i.v := fun H => rfl
 have e2 : ∀ H, aC G false 1 (.gl 1) H = some (eV 2) := fun H => hg.g2
 have e4 : ∀ H, aC G false 1 (.gl 2) H = some (eV 4) := fun H => hg.g4
 have e5 : ∀ H, aC G false 1 (.gl 4) H = some (eV 5) := fun H => hg.g5
 have st : fB (aN 6 (.ptr 0 1 0 0) (lF (gM i.op) (lO i.op)) [⟨163, 6, [.agg [(.str ⟨#[]⟩), (.bool false), (.bool false), (.bool false), (.bool false), (.bool false)]]⟩]) = some (.tup [], [⟨163, 6, [lF (gM i.op) (lO i.op)]⟩]) := rfl
 have ld : aC G true 6 (.ptr 0 1 0 0) [⟨163, 6, [lF (gM i.op) (lO i.op)]⟩] = some (lF (gM i.op) (lO i.op)) := rfl
 have lc : dH (.ro bor (gW cs)) = some (I6 cs.length) := by simp [dH, jU]
 have lb : dH (bsV (lO i.op)) = some (.int .i64 5) := rfl
 have hcl : cG 0 (.ro bor (gW cs)) = true := by simp [cG, kC]
 obtain ⟨p1, p2⟩ := aMj G (k + 6) (dO.f G (k + 6)) R (.ro bor (gW cs)) M i (lO i.op) hg.g2 hcl (k + 1)
 obtain ⟨p3, p4⟩ := aJR G (k + 6) (dO.f G (k + 6)) R (.ro bor (gW cs)) M i (lO i.op) hg.g3 hcl k
 refine eO ?_
 by_cases h0 : (jW i.op).isSome = false
 ·have e : jI i R cs.length = some 4 := by unfold jI; rw [if_pos h0]
  rw [e]
  rw [h0] at r1
  have fx := aPt r1 <| aPt b1 <| aPt g0 <| aPt l0 <| aPt st <| e4
  refine gI ?_
  exact w1e (by rfl) (by rfl)
 have h0' : (jW i.op).isSome = true := by
  cases hh : (jW i.op).isSome
  ·exact absurd hh h0
  ·rfl
 rw [h0'] at r1
 by_cases h1 : vB (lO i.op) i R = true
 ·have e : jI i R cs.length = some 2 := by unfold jI; rw [if_neg h0, if_pos h1]
  rw [e]
  obtain ⟨j, p1⟩ := p1 h1
  clear p2 p3 p4
  unfold bxC at p1
  have fx := aPt r1 <| aPt r2 <| aPt b1 <| aPt g0 <| aPt l0 <| aPt l6 <| aPt st <| aPt ld <| e2
  have lx1 := p1
  refine gI ?_
  exact w1e (by rfl) (by rfl)
 replace p2 := p2 (by simpa using h1)
 clear p1
 by_cases h2 : uX (lO i.op) i = true
 ·have e : jI i R cs.length = some 3 := by unfold jI; rw [if_neg h0, if_neg h1, if_pos h2]
  rw [e]
  obtain ⟨j, p3⟩ := p3 h2
  clear p4
  have fx := aPt r1 <| aPt r2 <| aPt b1 <| aPt g0 <| aPt l0 <| aPt l6 <| aPt st <| aPt ld <| aPt e2 <| lb
  have lx1 := p2
  have lx2 := p3
  refine gI ?_
  exact w1e (by rfl) (by rfl)
 replace p4 := p4 (by simpa using h2)
 clear p3
 have e : jI i R cs.length = (if i.op = 10 ∨ i.op = 11 ∨ i.op = 12 then (if i.k < 0 ∨ 63 < i.k then some 2 else none)
 else if i.op = 20 then (if i.k < 0 ∨ 2 < i.k then some 2 else none)
 else if i.op = 15 ∨ i.op = 16 then (if i.k < 0 ∨ 65535 < i.k then some 2 else none)
 else if i.op = 17 ∨ i.op = 18 ∨ i.op = 19 then (if i.k < 0 ∨ (cs.length : Int) < i.k then some 5 else none)
 else none) := by unfold jI; rw [if_neg h0, if_neg h1, if_neg h2]
 rw [e]
 clear e
 repeat' first
  | (with_reducible first | refine eT ?_ | refine eN ?_ | refine eS ?_ | refine eXn ?_ | refine eXr ?_ | refine eX ?_ | refine eI ?_ | refine eK ?_ | refine eV0 ?_ | refine sL ?_ | refine sO ?_ | refine sI ?_ | refine sN ?_ | refine sJ ?_ | refine sK ?_)
  | ((with_reducible apply eCn); (simp only [dX, dW]; first | done | (with_reducible exact rfl)))
  | ((with_reducible apply eJ); (rfl))
  | ((with_reducible apply sM); (first | rfl | (simp only [dX, dW]; rfl)))
  | ((with_reducible apply eL); (first | exact p2 | exact p4))
  | ((with_reducible apply eB); (first | (with_reducible exact rfl) | (simp (disch := omega) only [qf, r1, r2, b1, g0, g5, l0, l5, l6, st, ld, e2, e5, lb, lc]; first | done | (with_reducible exact rfl) | (with_reducible exact ⟨rfl, rfl⟩)) | (simp (disch := omega) only [qa, jP, AV.cells, fH, bA, kX, fK, fM, kL, Nat.reduceLeDiff, Nat.reduceLT, Nat.reduceAdd, ↓reduceIte, r1, r2, b1, g0, g5, l0, l5, l6, st, ld, e2, e5, lb, lc]; first | done | (with_reducible exact rfl) | (with_reducible exact ⟨rfl, rfl⟩))))
  | ((with_reducible apply eR); (simp only [dX, dW]; (with_reducible exact rfl)))
  | ((with_reducible first | refine tG ?_ ?_ | refine tL ?_ ?_ | refine tK ?_ ?_ | refine tJ ?_ ?_ | refine tI ?_ ?_ | refine tH ?_ ?_ | refine tM ?_ ?_ | refine oG ?_ ?_ | refine sGd ?_ ?_ | refine nY ?_ ?_) <;> intro hq <;> try subst hq)
 all_goals (refine w1e ?_ (by rfl); (first | (with_reducible rfl) | ((try simp (disch := omega) only [if_pos, if_neg, if_true, if_false, ↓reduceIte, aGI]) <;> first | done | rfl | omega)))
inductive VE where
 | ok
 | bare (e : Nat)
 | at_ (j e : Nat)
def veV : VE → AV
 | .ok => .nili
 | .bare e => eV e
 | .at_ j e => .iface 133 (.rp false (.agg [Nn j, eV e]) 0)
def pI (R n : Int) : List WI → Nat → VE
 | [], _ => .ok
 | i :: l, j => match jI i R n with
  | some e => .at_ j e
  | none => pI R n l (j + 1)
def lH (cs : List WI) (R M : Int) : VE :=
 if 262144 < cs.length then .bare 0
 else if R < 0 ∨ 65536 < R ∨ M < 0 ∨ 65536 < M then .bare 0
 else pI R cs.length cs 0
theorem aBE (v : VE) : fS (veV v) = true := by cases v <;> rfl
theorem aKS (v : VE) : cG 0 (veV v) = true := by cases v <;> rfl
section
variable {bor : Bool} (G : aG) (hg : GOk G) (k : Nat) (self : dA) (cs : List WI) (R M : Int)
abbrev xsV (bor : Bool) (cs : List WI) (R M : Int) (x : AV) (j : Nat) : List AV := [bxC (.ro bor (gW cs)) R M, x, .ro bor (gW cs), I6 cs.length, Nn j]
include hg in
theorem yZ (hcl : cs.length ≤ 1000000) : ∀ (l pre : List WI) (f : Nat) (H : aF), cs = pre ++ l → l.length < f →
  ∃ o, gP (dU.l6 G (k + 7) 0 self) f (xsV bor cs R M .nili pre.length) H = some o ∧
   (match pI R cs.length l pre.length with
    | .ok => o = (.exit 1, xsV bor cs R M .nili cs.length, [])
    | v => ∃ j H', o = (.ret, xsV bor cs R M (veV v) j, H'))
 | l, pre, 0, H, hcs, hf => by omega
 | [], pre, f + 1, H, hcs, hf => by
  rw [fD, dU.l6]
  have hl : cs.length = pre.length := by rw [hcs]; simp
  refine ⟨_, ?_, rfl⟩
  have hc : iL 0 (xsV bor cs R M .nili pre.length) H = some [] := by simp [iL, dE, cG, dS, kC]
  refine lC hc ?_
  refine jQ ?_
  have hge : ¬ (pre.length : Int) < (cs.length : Int) := by omega
  have q : aQ Tryd.prog .lss 3 false (Nn pre.length) (Nn cs.length) = some (.bool false) := by rw [kU, decide_eq_false hge]
  have fx := q
  refine gI ?_
  rw [hl]
  rfl
 | i :: l, pre, f + 1, H, hcs, hf => by
  rw [fD, dU.l6]
  have hl : cs.length = pre.length + (l.length + 1) := by rw [hcs]; simp
  have hc : iL 0 (xsV bor cs R M .nili pre.length) H = some [] := by simp [iL, dE, cG, dS, kC]
  have hi : cs.getD pre.length default = i := by rw [hcs]; simp [List.getD]
  have q : aQ Tryd.prog .lss 3 false (Nn pre.length) (Nn cs.length) = some (.bool true) := by rw [kU, decide_eq_true (by omega)]
  have d1 := aHM bor cs pre.length (by omega)
  rw [hi] at d1
  have d2 : ∀ H, aC G true 6 (.rp bor i.v 0) H = some i.v := fun H => rfl
  have d3 : fB (aN 6 (.ptr 0 1 0 0) i.v [⟨60, 6, [.agg [.int .i64 0, .int .i64 0, .int .i64 0, .int .i64 0, .int .i64 0, .int .i64 0]]⟩]) = some (.tup [], [⟨60, 6, [i.v]⟩]) := rfl
  have d4 : aC G true 6 (.ptr 0 1 0 0) [⟨60, 6, [i.v]⟩] = some i.v := rfl
  have d5 : ∀ H, aE (dO.f G (k + 7)) [.agg [.ro bor (gW cs), I6 R, I6 M], i.v] H = _ := fun H => aD (H := H) (aFn G hg k cs R M i) (by simp [eE, bC, aIe, WI.v]) (by cases jI i R cs.length <;> rfl)
  cases ho : jI i R cs.length with
  | some e =>
   have hb : pI R cs.length (i :: l) pre.length = .at_ pre.length e := by simp only [pI, ho]
   rw [hb]
   rw [ho] at d5
   have q2 : aQ Tryd.prog .neq 30 true (eV e) .nili = some (.bool true) := by kernel_rfl
   refine ⟨_, ?_, pre.length, [⟨60, 6, [i.v]⟩], rfl⟩
   refine lC hc ?_
   refine jQ ?_
   simp only [aGI] at d5
   have fx := aPt q <| aPt d1 <| aPt d2 <| aPt d3 <| aPt d4 <| aPt d5 <| q2
   refine gI ?_
   rfl
  | none =>
   rw [ho] at d5
   have q2 : aQ Tryd.prog .neq 30 true .nili .nili = some (.bool false) := by kernel_rfl
   obtain ⟨o, h1, h2⟩ := yZ hcl l (pre ++ [i]) f [⟨60, 6, [i.v]⟩] (by rw [hcs]; simp) (by simp at hf; omega)
   have hlen : (pre ++ [i]).length = pre.length + 1 := by simp
   rw [hlen] at h1 h2
   have hb : pI R cs.length (i :: l) pre.length = pI R cs.length l (pre.length + 1) := by simp only [pI, ho]
   rw [hb]
   refine ⟨o, ?_, h2⟩
   refine lC hc ?_
   refine jQ ?_
   simp only [aGI] at d5
   have q3 : aQ Tryd.prog .add 3 true (Nn pre.length) (.int .i64 1) = some (Nn (pre.length + 1)) := by
    rw [kA, fP (by omega) (by omega)]; congr 2
   have fx := aPt q <| aPt d1 <| aPt d2 <| aPt d3 <| aPt d4 <| aPt d5 <| aPt q2 <| q3
   refine gI ?_
   exact h1
include hg in
theorem zA (hk : cs.length < k + 7) (hcl : cs.length ≤ 1000000) : dU.f G (k + 8) [cV bor cs R M] [] = some (veV (lH cs R M), []) := by
 rw [dU.step]
 unfold dU.c cV
 obtain ⟨o, h1, h2⟩ := yZ (bor := bor) G hg k (dU.f G (k + 7)) cs R M hcl cs [] (k + 7) [] rfl hk
 have e0 : ∀ H, aC G false 1 (.gl 0) H = some (eV 0) := fun H => hg.g0
 have lc : dH (.ro bor (gW cs)) = some (I6 cs.length) := by simp [dH, jU]
 refine eO ?_
 unfold lH
 by_cases hb : 262144 < cs.length
 ·rw [if_pos hb]
  have fx := aPt lc <| e0
  refine gI ?_
  exact w1 rfl rfl
 rw [if_neg hb]
 by_cases hr : R < 0 ∨ 65536 < R ∨ M < 0 ∨ 65536 < M
 ·rw [if_pos hr]
  have fx := aPt lc <| e0
  refine gI ?_
  exact w1 rfl rfl
 rw [if_neg hr]
 cases hv : pI R cs.length cs 0 with
 | ok =>
  simp only [List.length_nil, hv] at h2
  rw [h2] at h1
  have fx := aPt lc <| e0
  have lx1 := h1
  refine gI ?_
  exact w1 rfl rfl
 | bare e =>
  simp only [List.length_nil, hv] at h2
  obtain ⟨j, H', h2⟩ := h2
  rw [h2] at h1
  have fx := aPt lc <| e0
  have lx1 := h1
  refine gI ?_
  exact w1 rfl rfl
 | at_ j e =>
  simp only [List.length_nil, hv] at h2
  obtain ⟨j', H', h2⟩ := h2
  rw [h2] at h1
  have fx := aPt lc <| e0
  have lx1 := h1
  refine gI ?_
  exact w1 rfl rfl
end
theorem aFY {i : WI} {R n : Int} (h : jI i R n = none) (hR : 0 ≤ R) : i.Ok R.toNat n.toNat := by
 unfold jI at h
 have out : ∀ {t : Bool} {r : Int}, nJ t r R = false → t = true → 0 ≤ r ∧ r < R := fun {t r} ho ht => by
  subst ht; simp [nJ] at ho; omega
 by_cases h20 : 1 ≤ i.op ∧ i.op ≤ 20
 ·by_cases h1 : vB (lO i.op) i R = true
  ·rw [if_pos h1] at h; split at h <;> cases h
  rw [if_neg h1] at h
  by_cases h2 : uX (lO i.op) i = true
  ·rw [if_pos h2] at h; split at h <;> cases h
  rw [if_neg h2] at h
  obtain ⟨op, d, a, b, c, kk⟩ := i
  simp only at h h1 h2 h20
  simp only [vB, uX, Bool.or_eq_true, not_or, Bool.and_eq_true, Bool.not_eq_true', decide_eq_true_eq, not_and, Bool.not_eq_true] at h1 h2
  rcases aDF h20 with rfl | rfl | rfl | rfl | rfl | rfl | rfl | rfl | rfl | rfl | rfl | rfl | rfl | rfl | rfl | rfl | rfl | rfl | rfl | rfl
  all_goals (
   simp [lO, jW, nJ] at h1 h2
   simp [jW] at h
   constructor <;> simp <;> omega)
 ·rw [nU h20] at h; simp at h
theorem aFA {R n : Int} (hR : 0 ≤ R) : ∀ {l : List WI} {j : Nat}, pI R n l j = .ok → ∀ i ∈ l, i.Ok R.toNat n.toNat
 | [], _, _, i, hi => by cases hi
 | x :: l, j, h, i, hi => by
  unfold pI at h
  split at h
  ·cases h
  ·rename_i ho
   rcases List.mem_cons.1 hi with rfl | hi
   ·exact aFY ho hR
   ·exact aFA hR h i hi
theorem wU {cs : List WI} {R M : Int} (h : lH cs R M = .ok) : (0 ≤ R ∧ R ≤ 65536 ∧ 0 ≤ M ∧ M ≤ 65536 ∧ cs.length ≤ 262144) ∧ ∀ j, j < cs.length → (cs.getD j default).Ok R.toNat cs.length := by
 unfold lH at h
 by_cases h1 : 262144 < cs.length
 ·rw [if_pos h1] at h; cases h
 rw [if_neg h1] at h
 by_cases h2 : R < 0 ∨ 65536 < R ∨ M < 0 ∨ 65536 < M
 ·rw [if_pos h2] at h; cases h
 rw [if_neg h2] at h
 refine ⟨by omega, fun j hj => ?_⟩
 have := aFA (by omega) h (cs.getD j default) (by simp [List.getD, List.getElem?_eq_getElem hj])
 rwa [Int.toNat_natCast] at this
def sS (op : Int) : Int :=
 if op = 1 then 1 else if 10 ≤ op ∧ op ≤ 12 then 2 else if op = 15 ∨ op = 16 then 3 else if op = 17 ∨ op = 18 ∨ op = 19 then 4 else if op = 20 then 5 else 0
def hvV (f : Frm) (n : Int) : AV := .agg [.bool f.d, .bool f.a, .bool f.b, .bool f.c, I6 n]
theorem aEJ {op : Int} (h : ¬ (1 ≤ op ∧ op ≤ 20)) : sS op = 0 := by
 unfold sS
 repeat rw [if_neg (by omega)]
theorem aIH (G : aG) (k : Nat) (op : Int) : dD.f G (k + 1) [I6 op] [] = some (.tup [hvV (lO op) (sS op), .bool (jW op).isSome], []) := by
 by_cases h : 1 ≤ op ∧ op ≤ 20
 ·rcases aDF h with rfl | rfl | rfl | rfl | rfl | rfl | rfl | rfl | rfl | rfl | rfl | rfl | rfl | rfl | rfl | rfl | rfl | rfl | rfl | rfl <;> kernel_rfl
 ·rw [dD.step]
  unfold dD.c
  unfold lO
  rw [nU h, aEJ h]
  refine eO ?_
  have fx := True.intro
  refine gI ?_
  (refine gY ?_; rfl)
theorem aCs (G : aG) (k : Nat) (t : Bool) (r R : Int) : bI.f G (k + 1) [.bool t, I6 r, I6 R] [] = some (.bool (nJ t r R), []) := by
 rw [bI.step]
 unfold bI.c
 refine eO ?_
 cases t
 ·have fx := True.intro
  refine gI ?_
  exact qT rfl
 ·repeat' first
   | (with_reducible first | refine eT ?_ | refine eN ?_ | refine eS ?_ | refine eXn ?_ | refine eXr ?_ | refine eX ?_ | refine eI ?_ | refine eK ?_ | refine eV0 ?_ | refine sL ?_ | refine sO ?_ | refine sI ?_ | refine sN ?_ | refine sJ ?_ | refine sK ?_)
   | ((with_reducible apply eCn); (simp only [dX, dW]; first | done | (with_reducible exact rfl)))
   | ((with_reducible apply eJ); (rfl))
   | ((with_reducible apply sM); (first | rfl | (simp only [dX, dW]; rfl)))
   | ((with_reducible apply eB); (first | (with_reducible exact rfl) | (simp (disch := omega) only [qa, jP, AV.cells, fH, bA, kX, fK, fM, kL, Nat.reduceLeDiff, Nat.reduceLT, Nat.reduceAdd, ↓reduceIte]; first | done | (with_reducible exact rfl) | (with_reducible exact ⟨rfl, rfl⟩))))
   | ((with_reducible apply eR); (simp only [dX, dW]; (with_reducible exact rfl)))
   | ((with_reducible first | refine tG ?_ ?_ | refine tL ?_ ?_ | refine tK ?_ ?_ | refine tJ ?_ ?_ | refine tI ?_ ?_ | refine tH ?_ ?_ | refine tM ?_ ?_ | refine oG ?_ ?_ | refine sGd ?_ ?_ | refine nY ?_ ?_) <;> intro hq <;> try subst hq)
  all_goals (refine qT ?_; unfold nJ; simp; omega)
def inK (n m : Int) : Bool := decide (0 ≤ n) && decide (n < m)
theorem aEl (G : aG) (k : Nat) (n m : Int) : bM.f G (k + 1) [I6 n, I6 m] [] = some (.bool (inK n m), []) := by
 rw [bM.step]
 unfold bM.c
 refine eO ?_
 repeat' first
  | (with_reducible first | refine eT ?_ | refine eN ?_ | refine eS ?_ | refine eXn ?_ | refine eXr ?_ | refine eX ?_ | refine eI ?_ | refine eK ?_ | refine eV0 ?_ | refine sL ?_ | refine sO ?_ | refine sI ?_ | refine sN ?_ | refine sJ ?_ | refine sK ?_)
  | ((with_reducible apply eCn); (simp only [dX, dW]; first | done | (with_reducible exact rfl)))
  | ((with_reducible apply eJ); (rfl))
  | ((with_reducible apply sM); (first | rfl | (simp only [dX, dW]; rfl)))
  | ((with_reducible apply eB); (first | (with_reducible exact rfl) | (simp (disch := omega) only [qa, jP, AV.cells, fH, bA, kX, fK, fM, kL, Nat.reduceLeDiff, Nat.reduceLT, Nat.reduceAdd, ↓reduceIte]; first | done | (with_reducible exact rfl) | (with_reducible exact ⟨rfl, rfl⟩))))
  | ((with_reducible apply eR); (simp only [dX, dW]; (with_reducible exact rfl)))
  | ((with_reducible first | refine tG ?_ ?_ | refine tL ?_ ?_ | refine tK ?_ ?_ | refine tJ ?_ ?_ | refine tI ?_ ?_ | refine tH ?_ ?_ | refine tM ?_ ?_ | refine oG ?_ ?_ | refine sGd ?_ ?_ | refine nY ?_ ?_) <;> intro hq <;> try subst hq)
 all_goals (refine qT ?_; unfold inK; simp; omega)
def ftV (c : Int) (p : Bool) (j : Int) : AV := .agg [I6 c, .bool p, I6 j]
theorem aGB (G : aG) (k : Nat) (c : Int) : eF.f G (k + 1) [I6 c] [] = some (ftV c false 0, []) := by kernel_rfl
theorem aGC (G : aG) (k : Nat) : dN.f G (k + 1) [] [] = some (ftV 0 false 0, []) := by kernel_rfl
theorem aCQ (G : aG) (k : Nat) (c j : Int) (hc : c ≠ 0) : cJ.f G (k + 2) [I6 c, I6 j] [] = some (ftV c true j, []) := by
 rw [cJ.step]
 unfold cJ.c
 refine eO ?_
 have fx := True.intro
 refine gI ?_
 refine gY ?_
 rfl
def aHy (e : Nat) : Int := if e = 0 then 103 else if e = 1 then 102 else if e = 2 then 101 else if e = 3 then 104 else if e = 4 then 106 else 109
def aMv (f : Frm) (kd : Int) (i : WI) (R n : Int) : Option Nat :=
 if vB f i R = true then some 2
 else if uX f i = true then some 3
 else if kd = 2 then (if inK i.k 64 = true then none else some 2)
 else if kd = 5 then (if inK i.k 3 = true then none else some 2)
 else if kd = 3 then (if inK i.k 65536 = true then none else some 2)
 else if kd = 4 then (if inK i.k (n + 1) = true then none else some 5)
 else none
theorem aHa (i : WI) (R n : Int) (h : 1 ≤ i.op ∧ i.op ≤ 20) : jI i R n = aMv (lO i.op) (sS i.op) i R n := by
 have e : ∀ m : Int, inK i.k m = true ↔ ¬ (i.k < 0 ∨ m - 1 < i.k) := fun m => by unfold inK; simp; omega
 unfold jI aMv
 have hs : (jW i.op).isSome = true := by
  rcases aDF h with h | h | h | h | h | h | h | h | h | h | h | h | h | h | h | h | h | h | h | h <;> rw [h] <;> rfl
 rw [hs]
 simp only [Bool.true_eq_false, if_false]
 by_cases h1 : vB (lO i.op) i R = true
 ·rw [if_pos h1, if_pos h1]
 rw [if_neg h1, if_neg h1]
 by_cases h2 : uX (lO i.op) i = true
 ·rw [if_pos h2, if_pos h2]
 rw [if_neg h2, if_neg h2]
 simp only [e]
 clear hs h1 h2 e
 rcases aDF h with h | h | h | h | h | h | h | h | h | h | h | h | h | h | h | h | h | h | h | h <;> rw [h] <;> simp [sS] <;> (split <;> (try split) <;> first | rfl | omega)
inductive Cls : Frm → Int → Prop
 | c1 : Cls ⟨true, false, false, false, true⟩ 1
 | c2 : Cls ⟨true, true, false, false, false⟩ 0
 | c3 : Cls ⟨true, true, true, false, false⟩ 0
 | c4 : Cls ⟨true, true, false, false, true⟩ 2
 | c5 : Cls ⟨true, true, true, true, false⟩ 0
 | c6 : Cls ⟨true, true, false, false, true⟩ 3
 | c7 : Cls ⟨false, true, true, false, true⟩ 3
 | c8 : Cls ⟨false, false, false, false, true⟩ 4
 | c9 : Cls ⟨false, true, false, false, true⟩ 4
 | c10 : Cls ⟨false, false, false, false, true⟩ 5
theorem aLU {op : Int} (h : 1 ≤ op ∧ op ≤ 20) : Cls (lO op) (sS op) ∧ (jW op).isSome = true := by
 rcases aDF h with h | h | h | h | h | h | h | h | h | h | h | h | h | h | h | h | h | h | h | h <;> rw [h] <;> exact ⟨by constructor, rfl⟩
section
variable (G : aG) (k : Nat) (self : dA) (cs : List WI) (R M : Int)
abbrev f0 : AV := ftV 0 false 0
abbrev xY (cs : List WI) (R M : Int) (j : Int) : List AV := [bxC (.ro false (gW cs)) R M, .ptr 0 1 0 0, I6 j]
abbrev hp3 (x : AV) (i : WI) (f : Frm) (kd : Int) : aF := [⟨34, 3, [x]⟩, ⟨60, 6, [i.v]⟩, ⟨97, 5, [hvV f kd]⟩]
theorem aIO (lp : iV) (i : WI) (j : Nat) (hj : j < cs.length) (hl : cs.length ≤ 1000000) (hi : cs.getD j default = i) (H : aF) (hH : H.take 1 = [⟨34, 3, [f0]⟩]) :
  bH.l4 G (k + 2) 1 self lp (xY cs R M j) H =
   match jI i R cs.length with
   | some e => some (.ret, xY cs R M j, hp3 (ftV (aHy e) true j) i (lO i.op) (sS i.op))
   | none => lp (xY cs R M (j + 1 : Nat)) (hp3 f0 i (lO i.op) (sS i.op)) := by
 rw [bH.l4]
 have hc : iL 1 (xY cs R M j) H = some [⟨34, 3, [f0]⟩] := by
  unfold iL
  rw [hH]
  simp [dE, cG, dS, kC, ftV]
 have q : aQ Tryd.prog .lss 3 false (Nn j) (Nn cs.length) = some (.bool true) := by rw [kU, decide_eq_true (by omega)]
 have q1 : aQ Tryd.prog .add 3 true (Nn j) (.int .i64 1) = some (Nn (j + 1)) := by
  rw [kA, fP (by omega) (by omega)]; congr 2
 have d1 := aHM false cs j hj
 rw [hi] at d1
 have lc : dH (.ro false (gW cs)) = some (I6 cs.length) := by simp [dH, jU]
 have r1 : ∀ H, aE (dD.f G (k + 2)) [I6 i.op] H = _ := fun H => aD (H := H) (aIH G (k + 1) i.op) rfl rfl
 have r2 : ∀ t r R H, aE (bI.f G (k + 2)) [.bool t, I6 r, I6 R] H = _ := fun t r R H => aD (H := H) (aCs G (k + 1) t r R) rfl rfl
 have r3 : ∀ n m H, aE (bM.f G (k + 2)) [I6 n, I6 m] H = _ := fun n m H => aD (H := H) (aEl G (k + 1) n m) rfl rfl
 have r4 : ∀ c H, c ≠ 0 → aE (cJ.f G (k + 2)) [I6 c, Nn j] H = _ := fun c H hc => aD (H := H) (aCQ G k c j hc) rfl rfl
 refine jQ ?_
 refine eC hc ?_
 have b2 : ∀ b y, fB (aN 5 (.ptr 2 1 0 0) (hvV b y) [⟨34, 3, [f0]⟩, ⟨60, 6, [i.v]⟩, ⟨97, 5, [.agg [(.bool false), (.bool false), (.bool false), (.bool false), (.int .i64 0)]]⟩]) = some (.tup [], [⟨34, 3, [f0]⟩, ⟨60, 6, [i.v]⟩, ⟨97, 5, [hvV b y]⟩]) := fun b y => rfl
 have b1 : fB (aN 6 (.ptr 1 1 0 0) i.v [⟨34, 3, [f0]⟩, ⟨60, 6, [.agg [.int .i64 0, .int .i64 0, .int .i64 0, .int .i64 0, .int .i64 0, .int .i64 0]]⟩]) = some (.tup [], [⟨34, 3, [f0]⟩, ⟨60, 6, [i.v]⟩]) := rfl
 have b3 : ∀ y l, fB (aN 3 (.ptr 0 1 0 0) (ftV y true j) (⟨34, 3, [f0]⟩ :: l)) = some (.tup [], ⟨34, 3, [ftV y true j]⟩ :: l) := fun y l => rfl
 have d2 : ∀ H, aC G true 6 (.rp false i.v 0) H = some i.v := fun H => rfl
 have i0 : ∀ l, aC G false 1 (.ptr 1 1 0 0) (⟨34, 3, [f0]⟩ :: ⟨60, 6, [i.v]⟩ :: l) = some (I6 i.op) := fun l => rfl
 have i1 : ∀ l, aC G false 1 (.ptr 1 1 0 1) (⟨34, 3, [f0]⟩ :: ⟨60, 6, [i.v]⟩ :: l) = some (I6 i.d) := fun l => rfl
 have i2 : ∀ l, aC G false 1 (.ptr 1 1 0 2) (⟨34, 3, [f0]⟩ :: ⟨60, 6, [i.v]⟩ :: l) = some (I6 i.a) := fun l => rfl
 have i3 : ∀ l, aC G false 1 (.ptr 1 1 0 3) (⟨34, 3, [f0]⟩ :: ⟨60, 6, [i.v]⟩ :: l) = some (I6 i.b) := fun l => rfl
 have i4 : ∀ l, aC G false 1 (.ptr 1 1 0 4) (⟨34, 3, [f0]⟩ :: ⟨60, 6, [i.v]⟩ :: l) = some (I6 i.c) := fun l => rfl
 have i5 : ∀ l, aC G false 1 (.ptr 1 1 0 5) (⟨34, 3, [f0]⟩ :: ⟨60, 6, [i.v]⟩ :: l) = some (I6 i.k) := fun l => rfl
 have h0 : ∀ f kd l, aC G false 1 (.ptr 2 1 0 0) (⟨34, 3, [f0]⟩ :: ⟨60, 6, [i.v]⟩ :: ⟨97, 5, [hvV f kd]⟩ :: l) = some (.bool f.d) := fun f kd l => rfl
 have h1 : ∀ f kd l, aC G false 1 (.ptr 2 1 0 1) (⟨34, 3, [f0]⟩ :: ⟨60, 6, [i.v]⟩ :: ⟨97, 5, [hvV f kd]⟩ :: l) = some (.bool f.a) := fun f kd l => rfl
 have h2 : ∀ f kd l, aC G false 1 (.ptr 2 1 0 2) (⟨34, 3, [f0]⟩ :: ⟨60, 6, [i.v]⟩ :: ⟨97, 5, [hvV f kd]⟩ :: l) = some (.bool f.b) := fun f kd l => rfl
 have h3 : ∀ f kd l, aC G false 1 (.ptr 2 1 0 3) (⟨34, 3, [f0]⟩ :: ⟨60, 6, [i.v]⟩ :: ⟨97, 5, [hvV f kd]⟩ :: l) = some (.bool f.c) := fun f kd l => rfl
 have h4 : ∀ f kd l, aC G false 1 (.ptr 2 1 0 4) (⟨34, 3, [f0]⟩ :: ⟨60, 6, [i.v]⟩ :: ⟨97, 5, [hvV f kd]⟩ :: l) = some (I6 kd) := fun f kd l => rfl
 by_cases h20 : 1 ≤ i.op ∧ i.op ≤ 20
 ·rw [aHa i R cs.length h20]
  obtain ⟨hcl, hs⟩ := aLU h20
  rw [hs] at r1
  generalize hfd : lO i.op = f at *
  generalize hkd : sS i.op = kd at *
  have o0 : ∀ r R, nJ false r R = false := fun r R => rfl
  have o1 := r2 true i.d R
  have o2 := r2 true i.a R
  have o3 := r2 true i.b R
  have o4 := r2 true i.c R
  have n0 := r2 false
  simp only [o0] at n0
  have w1 := r3 i.k 64
  have w2 := r3 i.k 3
  have w3 := r3 i.k 65536
  have w4 := r3 i.k (cs.length + 1)
  unfold aMv vB uX
  clear r2 r3
  cases hcl
  all_goals (
   simp only [o0]
   generalize nJ true i.d R = z1 at *
   generalize nJ true i.a R = z2 at *
   generalize nJ true i.b R = z3 at *
   generalize nJ true i.c R = z4 at *
   generalize inK i.k 64 = z5 at *
   generalize inK i.k 3 = z6 at *
   generalize inK i.k 65536 = z7 at *
   generalize inK i.k (cs.length + 1) = z8 at *
   clear hfd hkd hs h20)
  all_goals (
   repeat' first
    | (with_reducible first | refine eT ?_ | refine eN ?_ | refine eS ?_ | refine eXn ?_ | refine eXr ?_ | refine eX ?_ | refine eI ?_ | refine eK ?_ | refine eV0 ?_ | refine sL ?_ | refine sO ?_ | refine sI ?_ | refine sN ?_ | refine sJ ?_ | refine sK ?_)
    | ((with_reducible apply eCn); (simp only [dX, dW]; first | done | (with_reducible exact rfl)))
    | ((with_reducible apply eJ); (rfl))
    | ((with_reducible apply sM); (first | rfl | (simp only [dX, dW]; rfl)))
    | ((with_reducible apply eB); (first | (with_reducible exact rfl) | (simp (disch := omega) only [qf, q, q1, d1, lc, r1, r4, b1, b2, b3, d2, i0, i1, i2, i3, i4, i5, h0, h1, h2, h3, h4, o1, o2, o3, o4, n0, w1, w2, w3, w4]; first | done | (with_reducible exact rfl) | (with_reducible exact ⟨rfl, rfl⟩)) | (simp (disch := omega) only [qa, jP, AV.cells, fH, bA, kX, fK, fM, kL, Nat.reduceLeDiff, Nat.reduceLT, Nat.reduceAdd, ↓reduceIte, q, q1, d1, lc, r1, r4, b1, b2, b3, d2, i0, i1, i2, i3, i4, i5, h0, h1, h2, h3, h4, o1, o2, o3, o4, n0, w1, w2, w3, w4]; first | done | (with_reducible exact rfl) | (with_reducible exact ⟨rfl, rfl⟩))))
    | ((with_reducible apply eR); (simp only [dX, dW]; (with_reducible exact rfl)))
    | ((with_reducible first | refine tG ?_ ?_ | refine tL ?_ ?_ | refine tK ?_ ?_ | refine tJ ?_ ?_ | refine tI ?_ ?_ | refine tH ?_ ?_ | refine tM ?_ ?_ | refine oG ?_ ?_ | refine sGd ?_ ?_ | refine nY ?_ ?_) <;> intro hq <;> try subst hq)
   all_goals (refine gY ?_; (try simp (disch := omega) only [Bool.not_true, Bool.not_false, Bool.true_and, Bool.false_and, Bool.false_or, Bool.or_false, Bool.or_true, Bool.true_or, Bool.or_eq_true, decide_eq_true_eq, ne_eq, Bool.false_eq_true, Bool.true_eq_false, false_or, or_false, true_or, or_true, if_pos, if_neg, if_true, if_false, ↓reduceIte]); first | rfl | omega))
 ·have hs : jW i.op = none := nU h20
  have e : jI i R cs.length = some 4 := by unfold jI; rw [hs]; rfl
  rw [e]
  rw [hs] at r1
  simp only [Option.isSome_none] at r1
  have fx := aPt q <| aPt q1 <| aPt d1 <| aPt lc <| aPt r1 <| aPt r4 <| aPt b1 <| aPt b2 <| aPt b3 <| aPt d2 <| i0
  refine gI ?_
  refine gY ?_
  rfl
end
def ftO (v : VE) : AV := match v with
 | .ok => ftV 0 false 0
 | .bare e => ftV (aHy e) false 0
 | .at_ j e => ftV (aHy e) true j
theorem aGO (v : VE) : fS (ftO v) = true := by cases v <;> rfl
theorem aJN (v : VE) : cG 0 (ftO v) = true := by cases v <;> rfl
section
variable (G : aG) (k : Nat) (self : dA) (cs : List WI) (R M : Int)
theorem aGs (hcl : cs.length ≤ 1000000) : ∀ (l pre : List WI) (f : Nat) (H : aF), cs = pre ++ l → l.length < f → H.take 1 = [⟨34, 3, [f0]⟩] →
  ∃ o, gP (bH.l4 G (k + 2) 1 self) f (xY cs R M pre.length) H = some o ∧
   (match pI R cs.length l pre.length with
    | .ok => o = (.exit 0, xY cs R M cs.length, [⟨34, 3, [f0]⟩])
    | v => ∃ j H', o = (.ret, xY cs R M j, ⟨34, 3, [ftO v]⟩ :: H'))
 | l, pre, 0, H, hcs, hf, hH => by omega
 | [], pre, f + 1, H, hcs, hf, hH => by
  rw [fD, bH.l4]
  have hl : cs.length = pre.length := by rw [hcs]; simp
  refine ⟨_, ?_, rfl⟩
  have hc : iL 1 (xY cs R M pre.length) H = some [⟨34, 3, [f0]⟩] := by
   unfold iL
   rw [hH]
   simp [dE, cG, dS, kC, ftV]
  refine lC hc ?_
  refine jQ ?_
  have hge : ¬ (pre.length : Int) < (cs.length : Int) := by omega
  have q : aQ Tryd.prog .lss 3 false (Nn pre.length) (Nn cs.length) = some (.bool false) := by rw [kU, decide_eq_false hge]
  have lc : dH (.ro false (gW cs)) = some (I6 cs.length) := by simp [dH, jU]
  have fx := aPt q <| lc
  refine gI ?_
  rw [hl]
  rfl
 | i :: l, pre, f + 1, H, hcs, hf, hH => by
  have hl : cs.length = pre.length + (l.length + 1) := by rw [hcs]; simp
  have hi : cs.getD pre.length default = i := by rw [hcs]; simp [List.getD]
  rw [fD, aIO G k self cs R M _ i pre.length (by omega) hcl hi H hH]
  cases ho : jI i R cs.length with
  | some e =>
   have hb : pI R cs.length (i :: l) pre.length = .at_ pre.length e := by simp only [pI, ho]
   rw [hb]
   exact ⟨_, rfl, pre.length, _, rfl⟩
  | none =>
   obtain ⟨o, h1, h2⟩ := aGs hcl l (pre ++ [i]) f (hp3 f0 i (lO i.op) (sS i.op)) (by rw [hcs]; simp) (by simp at hf; omega) rfl
   have hlen : (pre ++ [i]).length = pre.length + 1 := by simp
   rw [hlen] at h1 h2
   have hb : pI R cs.length (i :: l) pre.length = pI R cs.length l (pre.length + 1) := by simp only [pI, ho]
   rw [hb]
   exact ⟨o, h1, h2⟩
theorem aDS (hk : cs.length < k + 2) (hcl : cs.length ≤ 1000000) : bH.f G (k + 3) [cV false cs R M] [] = some (ftO (lH cs R M), []) := by
 rw [bH.step]
 unfold bH.c cV
 obtain ⟨o, h1, h2⟩ := aGs G k (bH.f G (k + 2)) cs R M hcl cs [] (k + 2) [⟨34, 3, [f0]⟩] rfl hk rfl
 have lc : dH (.ro false (gW cs)) = some (I6 cs.length) := by simp [dH, jU]
 have r1 : ∀ c H, aE (eF.f G (k + 2)) [I6 c] H = _ := fun c H => aD (H := H) (aGB G (k + 1) c) rfl rfl
 have r2 : ∀ H, aE (dN.f G (k + 2)) [] H = _ := fun H => aD (H := H) (aGC G (k + 1)) rfl rfl
 have st : ∀ c p j x l, fB (aN 3 (.ptr 0 1 0 0) (ftV c p j) (⟨34, 3, [.agg [x, .bool false, I6 0]]⟩ :: l)) = some (.tup [], ⟨34, 3, [ftV c p j]⟩ :: l) := fun c p j x l => rfl
 have st2 : ∀ c p j l, fB (aN 3 (.ptr 0 1 0 0) (ftV c p j) (⟨34, 3, [f0]⟩ :: l)) = some (.tup [], ⟨34, 3, [ftV c p j]⟩ :: l) := fun c p j l => rfl
 have fin : ∀ v l, fL [aC G true 3 (.ptr 0 1 0 0) (⟨34, 3, [ftO v]⟩ :: l)] ([] : aF).length (⟨34, 3, [ftO v]⟩ :: l) = some (.ret, [ftO v], []) := fun v l => by
  have : aC G true 3 (.ptr 0 1 0 0) (⟨34, 3, [ftO v]⟩ :: l) = some (ftO v) := by cases v <;> rfl
  unfold fL
  rw [this]
  simp only [tU]
  exact mL (aJN v) _
 refine eO ?_
 unfold lH
 by_cases hb : 262144 < cs.length
 ·rw [if_pos hb]
  have fx := aPt lc <| aPt r1 <| st
  refine gI ?_
  exact oF (fin (.bare 0) [])
 rw [if_neg hb]
 by_cases hr : R < 0 ∨ 65536 < R ∨ M < 0 ∨ 65536 < M
 ·rw [if_pos hr]
  have fx := aPt lc <| aPt r1 <| st
  refine gI ?_
  exact oF (fin (.bare 0) [])
 rw [if_neg hr]
 cases hv : pI R cs.length cs 0 with
 | ok =>
  simp only [List.length_nil, hv] at h2
  rw [h2] at h1
  have fx := aPt lc <| aPt r2 <| st2
  have lx1 := h1
  refine gI ?_
  exact oF (fin .ok [])
 | bare e =>
  simp only [List.length_nil, hv] at h2
  obtain ⟨j, H', h2⟩ := h2
  rw [h2] at h1
  have fx := lc
  have lx1 := h1
  refine gI ?_
  exact oF (fin (.bare e) H')
 | at_ j e =>
  simp only [List.length_nil, hv] at h2
  obtain ⟨j', H', h2⟩ := h2
  rw [h2] at h1
  have fx := lc
  have lx1 := h1
  refine gI ?_
  exact oF (fin (.at_ j e) H')
end
def VE.low : VE → Prop
 | .ok => True
 | .bare e => e < 6
 | .at_ j e => e < 6
theorem aMr (n : Nat) (h : n ≤ 63) : bits .and .i64 (n : Int) 63 = (n : Int) := by
 show IntKind.i64.wrap ((BitVec.ofInt 64 (n : Int) &&& BitVec.ofInt 64 63).toNat : Int) = _
 rw [BitVec.toNat_and, mC n (by omega)]
 have e : (BitVec.ofInt 64 (63 : Int)).toNat = 63 := rfl
 have e2 : n &&& 63 = n := by have := Nat.and_two_pow_sub_one_eq_mod n 6; simp at this; omega
 rw [e, e2, fP (by omega) (by omega)]
theorem aDZ (G : aG) (k : Nat) (op d a b c n : Int) (x y z : Nat) (hx : x < 18446744073709551616) (hy : y < 18446744073709551616) (hz : z < 18446744073709551616) :
  cD.f G (k + 2) [WI.v ⟨op, d, a, b, c, n⟩, Un x, Un y, Un z] [] = some (.tup [Un (jL op n x y z).1, .bool (jL op n x y z).2], []) := by
 rw [cD.step]
 unfold cD.c WI.v
 obtain ⟨w, hw⟩ : ∃ w, w = bits .and .i64 n 63 := ⟨_, rfl⟩
 have k0 : aQ Tryd.prog .and 2 true (I6 n) (.int .i64 63) = some (I6 w) := by rw [oR, hw]
 obtain ⟨w2, hw2⟩ : ∃ w2, w2 = IntKind.u64.wrap w := ⟨_, rfl⟩
 have k0' : aJ .u64 (I6 w) = some (.int .u64 w2) := by rw [eW, hw2]
 have hw3 : 0 ≤ n → n ≤ 63 → w2 = n := fun h0 h1 => by
  obtain ⟨m, rfl⟩ : ∃ m : Nat, n = (m : Int) := ⟨n.toNat, by omega⟩
  rw [hw2, hw, aMr m (by omega), fA (by omega) (by omega)]
 clear hw hw2
 have k1 := gX .i64 n
 have k3 := qH Tryd.prog 43 false x y
 have k4 := yU Tryd.prog 43 false x y hy
 have k5 := vR Tryd.prog 43 false x y
 have k6 : ∀ H, aE (cB.f G (k + 1)) [Un x, Un y] H = _ := fun H => aD (H := H) (aAa G k x y hx hy) rfl rfl
 have k7 : aQ Tryd.prog .and 43 false (Un x) (Un y) = some (Un (x &&& y)) := by rw [oR, vQ x y hx hy]
 have k8 : aQ Tryd.prog .or 43 false (Un x) (Un y) = some (Un (x ||| y)) := by rw [aBU, aJj x y hx hy]
 have k9 : aQ Tryd.prog .xor 43 false (Un x) (Un y) = some (Un (x ^^^ y)) := by rw [yK, yV x y hx hy]
 have k10 : 0 ≤ n → n ≤ 63 → aQ Tryd.prog .shl 43 false (Un x) (.int .u64 w2) = some (Un (x * 2 ^ n.toNat % 18446744073709551616)) := fun h0 h1 => by
  have := vS Tryd.prog 43 false .u64 x n.toNat (by omega); rw [Int.toNat_of_nonneg h0] at this; rw [hw3 h0 h1]; exact this
 have k11 : 0 ≤ n → n ≤ 63 → aQ Tryd.prog .shr 43 false (Un x) (.int .u64 w2) = some (Un (x / 2 ^ n.toNat)) := fun h0 h1 => by
  have := sH Tryd.prog 43 false .u64 x n.toNat (by omega); rw [Int.toNat_of_nonneg h0] at this; rw [hw3 h0 h1]; exact this
 have k12 := uD x hx
 have k13 : 0 ≤ n → n ≤ 63 → aQ Tryd.prog .shr 2 false (I6 (mI x)) (.int .u64 w2) = some (I6 ((mI x).fdiv (2 ^ n.toNat))) := fun h0 h1 => by
  rw [hw3 h0 h1, yI _ _ _ _ _ _ _ h0]
  have e : min n.toNat IntKind.i64.bits = n.toNat := Nat.min_eq_left (by have : IntKind.i64.bits = 64 := rfl; omega)
  rw [e]
 have k14 := gX .i64 ((mI x).fdiv (2 ^ n.toNat))
 have hq : u64 ((mI x).fdiv (2 ^ n.toNat)) = aCA x n.toNat := rfl
 rw [hq] at k14
 clear hw3 hq
 refine eO ?_
 repeat' first
  | (with_reducible first | refine eT ?_ | refine eN ?_ | refine eS ?_ | refine eXn ?_ | refine eXr ?_ | refine eX ?_ | refine eI ?_ | refine eK ?_ | refine eV0 ?_ | refine sL ?_ | refine sO ?_ | refine sI ?_ | refine sN ?_ | refine sJ ?_ | refine sK ?_)
  | ((with_reducible apply eCn); (simp only [dX, dW]; first | done | (with_reducible exact rfl)))
  | ((with_reducible apply eJ); (rfl))
  | ((with_reducible apply sM); (first | rfl | (simp only [dX, dW]; rfl)))
  | ((with_reducible apply eB); (first | (with_reducible exact rfl) | (simp (disch := omega) only [qf, k0, k0', k1, k3, k4, k5, k6, k7, k8, k9, k10, k11, k12, k13, k14]; first | done | (with_reducible exact rfl) | (with_reducible exact ⟨rfl, rfl⟩)) | (simp (disch := omega) only [qa, jP, AV.cells, fH, bA, kX, fK, fM, kL, Nat.reduceLeDiff, Nat.reduceLT, Nat.reduceAdd, ↓reduceIte, k0, k0', k1, k3, k4, k5, k6, k7, k8, k9, k10, k11, k12, k13, k14]; first | done | (with_reducible exact rfl) | (with_reducible exact ⟨rfl, rfl⟩))))
  | ((with_reducible apply eR); (simp only [dX, dW]; (with_reducible exact rfl)))
  | ((with_reducible first | refine tG ?_ ?_ | refine tL ?_ ?_ | refine tK ?_ ?_ | refine tJ ?_ ?_ | refine tI ?_ ?_ | refine tH ?_ ?_ | refine tM ?_ ?_ | refine oG ?_ ?_ | refine sGd ?_ ?_ | refine nY ?_ ?_) <;> intro hq <;> try subst hq)
 all_goals first | (refine nN ?_ ?_ <;> ((try simp (disch := omega) only [jL, qG, if_pos, if_neg, if_true, if_false, ↓reduceIte]) <;> first | done | rfl | omega)) | (by_cases h10 : op = 10 ∨ op = 11 ∨ op = 12 <;> refine nN ?_ ?_ <;> ((try simp (disch := omega) only [jL, qG, if_pos, if_neg, if_true, if_false, ↓reduceIte]) <;> first | done | rfl | omega))
def wS (s : MS) (wr : Int) : AV := .agg [I6 s.code, .sl 2 s.mem.length 0 s.mem.length 1, .sl 6 s.leaks.length 0 s.leaks.length 2, Nn s.steps, I6 wr]
def oM (s : MS) (wr : Int) : aF :=
 [⟨40, 5, [.agg [.int .i64 0, .nils, .sl 5 0 0 0 2, .int .i64 0, .int .i64 0]]⟩, ⟨43, 1, []⟩, ⟨43, 1, bV s.mem⟩, ⟨40, 5, [wS s wr]⟩, ⟨43, 1, bV (s.regs ++ [0])⟩, ⟨107, 2, []⟩, ⟨107, 2, dK s.leaks⟩]
def iJ (s : MS) (wr : Int) (x : AV) : aF :=
 [⟨40, 5, [.agg [.int .i64 0, .nils, .sl 5 0 0 0 2, .int .i64 0, .int .i64 0]]⟩, ⟨43, 1, []⟩, ⟨43, 1, bV s.mem⟩, ⟨40, 5, [wS s wr]⟩, ⟨43, 1, bV (s.regs ++ [0])⟩, ⟨107, 2, []⟩, ⟨107, 2, dK s.leaks⟩, ⟨60, 6, [x]⟩]
def aAO (s : MS) (wr : Int) (l : aF) : aF :=
 ⟨40, 5, [wS s wr]⟩ :: ⟨43, 1, []⟩ :: ⟨43, 1, bV s.mem⟩ :: ⟨40, 5, [wS s wr]⟩ :: ⟨43, 1, bV (s.regs ++ [0])⟩ :: ⟨107, 2, []⟩ :: ⟨107, 2, dK s.leaks⟩ :: l
def sZ (sp : AV) (fuel : Int) (bc bor : Bool) (cs : List WI) (R : Nat) (M : Int) (pc : Nat) : List AV :=
 [sp, I6 fuel, .rp bc (.agg [.ro bor (gW cs), I6 R, I6 M]) 0, .ptr 0 1 0 0, .ptr 3 1 0 0, .sl 4 (R + 1) 0 (R + 1) 1, Nn pc]
section
variable (G : aG) (s : MS) (wr : Int) (x : AV)
abbrev zI : AV := .agg [.int .i64 0, .int .i64 0, .int .i64 0, .int .i64 0, .int .i64 0, .int .i64 0]
theorem aMh : (oM s wr).length = 7 := rfl
theorem aIh : aC G false 1 (.ptr 3 1 0 3) (oM s wr) = some (Nn s.steps) := rfl
theorem aLu (n : Int) : fB (aN 1 (.ptr 3 1 0 0) (I6 n) (oM s wr)) = some (.tup [], oM { s with code := n } wr) := rfl
theorem aNZ : aC G true 5 (.ptr 3 1 0 0) (oM s wr) = some (wS s wr) := rfl
theorem aOa : fB (aN 5 (.ptr 0 1 0 0) (wS s wr) (oM s wr)) = some (.tup [], aAO s wr []) := rfl
theorem aOF : fF 60 zI (oM s wr) = some (.ptr 7 1 0 0, iJ s wr zI) := rfl
theorem aOH (i : WI) : fB (aN 6 (.ptr 7 1 0 0) i.v (iJ s wr zI)) = some (.tup [], iJ s wr i.v) := rfl
theorem aMJ : aC G false 1 (.ptr 3 1 0 3) (iJ s wr x) = some (Nn s.steps) := rfl
theorem aIE (n : Nat) : fB (aN 1 (.ptr 3 1 0 3) (Nn n) (iJ s wr x)) = some (.tup [], iJ { s with steps := n } wr x) := rfl
theorem aLB (n : Int) : fB (aN 1 (.ptr 3 1 0 0) (I6 n) (iJ s wr x)) = some (.tup [], iJ { s with code := n } wr x) := rfl
theorem rH : aC G true 5 (.ptr 3 1 0 0) (iJ s wr x) = some (wS s wr) := rfl
theorem aOb : fB (aN 5 (.ptr 0 1 0 0) (wS s wr) (iJ s wr x)) = some (.tup [], aAO s wr [⟨60, 6, [x]⟩]) := rfl
theorem aEU : aC G false 1 (.ptr 3 1 0 2) (iJ s wr x) = some (.sl 6 s.leaks.length 0 s.leaks.length 2) := rfl
theorem aOJ : aC G false 1 (.ptr 3 1 0 1) (iJ s wr x) = some (.sl 2 s.mem.length 0 s.mem.length 1) := rfl
theorem rI0 (i : WI) : aC G false 1 (.ptr 7 1 0 0) (iJ s wr i.v) = some (I6 i.op) := rfl
theorem rI1 (i : WI) : aC G false 1 (.ptr 7 1 0 1) (iJ s wr i.v) = some (I6 i.d) := rfl
theorem rI2 (i : WI) : aC G false 1 (.ptr 7 1 0 2) (iJ s wr i.v) = some (I6 i.a) := rfl
theorem rI3 (i : WI) : aC G false 1 (.ptr 7 1 0 3) (iJ s wr i.v) = some (I6 i.b) := rfl
theorem rI4 (i : WI) : aC G false 1 (.ptr 7 1 0 4) (iJ s wr i.v) = some (I6 i.c) := rfl
theorem rI5 (i : WI) : aC G false 1 (.ptr 7 1 0 5) (iJ s wr i.v) = some (I6 i.k) := rfl
theorem rI6 (i : WI) : aC G true 6 (.ptr 7 1 0 0) (iJ s wr i.v) = some i.v := rfl
theorem aKi (p : Int × Int) (hl : s.leaks.length ≤ 1000000) : fI 107 2 (.sl 6 s.leaks.length 0 s.leaks.length 2) (.ro false [iD p]) (iJ s wr x) =
  some (.sl 6 (s.leaks.length + 1) 0 (s.leaks.length + 1) 2, (iJ s wr x).set 6 ⟨107, 2, dK (s.leaks ++ [p])⟩) := by
 have e : (iJ s wr x)[6]? = some ⟨107, 2, dK s.leaks⟩ := rfl
 unfold fI
 simp only [e, iX, iB, List.length_singleton]
 rw [if_pos (by refine ⟨?_, ?_, ?_, ?_, ?_⟩ <;> first | trivial | rfl | omega)]
 have e2 : (dK s.leaks).take s.leaks.length = dK s.leaks := List.take_of_length_le (by rw [iB]; exact Nat.le_refl _)
 have e3 : (dK s.leaks).drop (s.leaks.length + 1) = [] := List.drop_of_length_le (by rw [iB]; omega)
 rw [e2, e3, List.append_nil]
 have e4 : dK s.leaks ++ [iD p] = dK (s.leaks ++ [p]) := by simp [dK]
 rw [e4, iB]; simp
theorem aKj (p : Int × Int) : fB (aN 1 (.ptr 3 1 0 2) (.sl 6 (s.leaks.length + 1) 0 (s.leaks.length + 1) 2) ((iJ s wr x).set 6 ⟨107, 2, dK (s.leaks ++ [p])⟩)) =
  some (.tup [], iJ (s.leak p.1 p.2) wr x) := by
 have e : (s.leak p.1 p.2).leaks.length = s.leaks.length + 1 := by simp [MS.leak]
 unfold iJ wS
 rw [e]
 rfl
theorem aMI (R : Nat) (j : Int) (h0 : 0 ≤ j) (hj : j ≤ R) (hR : s.regs.length = R) : aC G false 1 (.ptr 4 (R + 1) j.toNat 0) (iJ s wr x) = some (Un (s.rg j)) := by
 have e : (iJ s wr x)[4]? = some ⟨43, 1, bV (s.regs ++ [0])⟩ := rfl
 have hl : (s.regs ++ [0]).length = R + 1 := by simp [hR]
 have h1 : j.toNat < (s.regs ++ [0]).length := by rw [hl]; omega
 have e2 : (s.regs ++ [0]).getD j.toNat 0 = s.rg j := by
  unfold MS.rg
  simp only [List.getD_eq_getElem?_getD]
  by_cases hlt : j.toNat < s.regs.length
  ·rw [List.getElem?_append_left hlt]
  ·rw [List.getElem?_append_right (by omega), List.getElem?_eq_none (l := s.regs) (by omega)]
   have : j.toNat - s.regs.length = 0 := by omega
   rw [this]; rfl
 unfold aC
 simp only [e, bL, hl, lQ _ _ h1, if_true, e2]
 rfl
theorem aOc (R : Nat) (j : Int) (n : Nat) (h0 : 0 ≤ j) (hj : j < R) (hR : s.regs.length = R) : fB (aN 1 (.ptr 4 (R + 1) j.toNat 0) (Un n) (iJ s wr x)) = some (.tup [], iJ (s.set j n) wr x) := by
 have e : (iJ s wr x)[4]? = some ⟨43, 1, bV (s.regs ++ [0])⟩ := rfl
 have hl : (s.regs ++ [0]).length = R + 1 := by simp [hR]
 have h1 : j.toNat < (s.regs ++ [0]).length := by rw [hl]; omega
 have e2 : (s.set j n).regs ++ [0] = (s.regs ++ [0]).set j.toNat n := by
  unfold MS.set
  rw [List.set_append_left _ _ (by omega)]
 unfold aN
 simp only [e, bL, hl, lQ _ _ h1]
 unfold iJ
 rw [e2, rV]
 rfl
theorem aOI (j : Nat) (h : j < s.mem.length) : aC G false 1 (.ptr 2 s.mem.length j 0) (iJ s wr x) = some (Un (s.mem.getD j 0)) := by
 have e : (iJ s wr x)[2]? = some ⟨43, 1, bV s.mem⟩ := rfl
 unfold aC
 simp only [e, bL, lQ _ _ h, if_true]
 rfl
theorem aOG (n : Nat) (h : n < s.mem.length) : cF 1 (.sl 2 s.mem.length 0 s.mem.length 1) (Un n) = some (.ptr 2 s.mem.length n 0) := by
 have h0 : (0 : Int) ≤ (n : Int) := by omega
 have h' : (n : Int) < (s.mem.length : Int) := by omega
 simp [cF, h0, h']
theorem aOK (j n : Nat) (h : j < s.mem.length) : fB (aN 1 (.ptr 2 s.mem.length j 0) (Un n) (iJ s wr x)) = some (.tup [], iJ { s with mem := s.mem.set j n } wr x) := by
 have e : (iJ s wr x)[2]? = some ⟨43, 1, bV s.mem⟩ := rfl
 unfold aN
 simp only [e, bL, lQ _ _ h]
 unfold iJ wS
 simp only [List.length_set, rV]
 rfl
theorem idR (R : Nat) (j : Int) (h0 : 0 ≤ j) (hj : j ≤ R) : cF 1 (.sl 4 (R + 1) 0 (R + 1) 1) (I6 j) = some (.ptr 4 (R + 1) j.toNat 0) := by
 have h' : j < ((R + 1 : Nat) : Int) := by omega
 simp only [cF]
 rw [if_pos ⟨h0, h'⟩, if_pos trivial, Nat.zero_add]
end
structure WI.Ok2 (i : WI) (R n : Nat) : Prop where
 ok : i.Ok R n
 sh : 10 ≤ i.op → i.op ≤ 12 → 0 ≤ i.k ∧ i.k ≤ 63
 ha : 0 ≤ i.a ∧ i.a ≤ R
 hb : 0 ≤ i.b ∧ i.b ≤ R
theorem aGA {op n : Int} {a b c : Nat} (h : 1 ≤ op ∧ op ≤ 14) (hs : 10 ≤ op → op ≤ 12 → 0 ≤ n ∧ n ≤ 63) : (jL op n a b c).2 = true := by
 by_cases e : op = 10 ∨ op = 11 ∨ op = 12
 ·have := hs (by omega) (by omega)
  have e2 : jL op n a b c = qG op n a := by
   unfold jL
   simp (disch := omega) only [if_neg, if_pos]
  rw [e2]
  unfold qG
  rw [if_neg (by omega)]
  split
  ·rfl
  ·split <;> rfl
 ·have : op = 1 ∨ op = 2 ∨ op = 3 ∨ op = 4 ∨ op = 5 ∨ op = 6 ∨ op = 7 ∨ op = 8 ∨ op = 9 ∨ op = 13 ∨ op = 14 := by omega
  rcases this with rfl | rfl | rfl | rfl | rfl | rfl | rfl | rfl | rfl | rfl | rfl <;> simp [jL]
theorem aIa {i : WI} {R n : Int} (h : jI i R n = none) (hR : 0 ≤ R) : i.Ok2 R.toNat n.toNat := by
 have h0 := aFY h hR
 unfold jI at h
 have h20 := h0.op
 by_cases h1 : vB (lO i.op) i R = true
 ·rw [if_pos h1] at h; split at h <;> cases h
 rw [if_neg h1] at h
 by_cases h2 : uX (lO i.op) i = true
 ·rw [if_pos h2] at h; split at h <;> cases h
 rw [if_neg h2] at h
 obtain ⟨op, d, a, b, c, kk⟩ := i
 simp only at h h1 h2 h20
 simp only [vB, uX, Bool.or_eq_true, not_or, Bool.and_eq_true, Bool.not_eq_true', decide_eq_true_eq, not_and, Bool.not_eq_true] at h1 h2
 rcases aDF h20 with rfl | rfl | rfl | rfl | rfl | rfl | rfl | rfl | rfl | rfl | rfl | rfl | rfl | rfl | rfl | rfl | rfl | rfl | rfl | rfl
 all_goals (
  simp [lO, jW, nJ] at h1 h2
  simp [jW] at h
  exact ⟨h0, by simp; try omega, by simp; omega, by simp; omega⟩)
theorem aEk (G : aG) (k : Nat) (b : Bool) : bT.f G (k + 1) [.bool b] [] = some (.int .i64 (if b = true then 1 else 0), []) := by cases b <;> kernel_rfl
section
variable (G : aG) (k : Nat) (self : dA) (fuel : Int) (bc bor : Bool) (cs : List WI) (R : Nat) (s : MS) (wr : Int)
theorem aFb (sp : AV) (hsp : cG 0 sp = true) (M : Int) (pc : Nat) (H : aF) (hH : H.take 7 = oM s wr) : iL 7 (sZ sp fuel bc bor cs R M pc) H = some (oM s wr) := by
 have h1 := kO (Nat.zero_le 7) hsp
 have h2 : dS 7 (oM s wr) = true := by simp [oM, wS, dS, dE, cG, iE, kB]
 unfold iL
 rw [hH, h2]
 simp [sZ, dE, cG, kC, h1]
theorem aIJ (lp : iV) (i : WI) (H : aF) (hH : H.take 7 = oM s wr) (hs : s.Ok R) (hi : i.Ok2 R cs.length) (hcl : cs.length ≤ 100000) (hat : s.at_ < cs.length) (hci : cs.getD s.at_ default = i)
  (hst : (s.steps : Int) < fuel) (hst2 : s.steps ≤ 99998) (M : Int) (hM : M = s.mem.length) :
  bN.l4 G (k + 3) 7 self lp (sZ .nils fuel bc bor cs R M s.at_) H =
   match s.tick.step i with
   | (s', true) => lp (sZ .nils fuel bc bor cs R M s'.at_) (iJ s' wr i.v)
   | (s', false) => some (.ret, sZ .nils fuel bc bor cs R M s.at_, aAO s' wr [⟨60, 6, [i.v]⟩]) := by
 rw [bN.l4]
 have hc := aFb fuel bc bor cs R s wr .nils rfl M s.at_ H hH
 unfold sZ at *
 have hll : s.leaks.length ≤ 999990 := by have := hs.leaks; omega
 refine jQ ?_
 refine eC hc ?_
 have lc : dH (.ro bor (gW cs)) = some (I6 cs.length) := by simp [dH, jU]
 have q1 : aQ Tryd.prog .geq 3 false (Nn s.at_) (I6 cs.length) = some (.bool false) := by rw [lV, decide_eq_false (by omega)]
 have q2 : aQ Tryd.prog .geq 2 false (Nn s.steps) (I6 fuel) = some (.bool false) := by rw [lV, decide_eq_false (by omega)]
 have q3 : aQ Tryd.prog .add 2 true (Nn s.steps) (.int .i64 1) = some (Nn (s.steps + 1)) := by
  rw [kA, fP (by omega) (by omega)]; congr 2
 have q4 : aQ Tryd.prog .add 3 true (Nn s.at_) (.int .i64 1) = some (Nn (s.at_ + 1)) := by
  rw [kA, fP (by omega) (by omega)]; congr 2
 have d1 := aHM bor cs s.at_ hat
 rw [hci] at d1
 have d2 : ∀ H, aC G true 6 (.rp bor i.v 0) H = some i.v := fun H => rfl
 have p1 := aIh G s wr
 have p2 := aOF s wr
 have p3 := aOH s wr i
 have p4 := aMJ G s wr i.v
 have p5 := aIE s wr i.v (s.steps + 1)
 obtain ⟨s1, hs1⟩ : ∃ s1 : MS, s1 = { s with steps := s.steps + 1 } := ⟨_, rfl⟩
 have hl1 : s1.leaks.length = s.leaks.length := by rw [hs1]
 rw [← hs1] at p5
 have p6 := aEU G s1 wr i.v
 have p7 : fI 107 2 (.sl 6 s1.leaks.length 0 s1.leaks.length 2) (.ro false [.agg [.int .i64 1, Nn s.at_]]) (iJ s1 wr i.v) = _ := aKi s1 wr i.v (1, s.at_) (by omega)
 have p8 := aKj s1 wr i.v (1, s.at_)
 have ht : s1.leak 1 s.at_ = s.tick := by rw [hs1]; rfl
 simp only [ht] at p8
 obtain ⟨t, htt⟩ : ∃ t, t = s.tick := ⟨_, rfl⟩
 have tok : t.Ok R := by
  rw [htt]; exact ⟨hs.len, hs.regs, hs.mem, by have := hs.leaks; simp [MS.tick, MS.leak]; omega, hs.big, by simp [MS.tick, MS.leak]; omega⟩
 have tat : t.at_ = s.at_ := by rw [htt]; rfl
 have tll : t.leaks.length ≤ 999991 := by rw [htt]; simp [MS.tick, MS.leak]; omega
 have tmem : t.mem = s.mem := by rw [htt]; rfl
 rw [← htt] at p8 ⊢
 clear htt ht hs1 hH hc
 have tR := tok.len
 obtain ⟨a0, a1⟩ := hi.ha
 obtain ⟨b0, b1⟩ := hi.hb
 have r2 := rI2 G t wr i
 have r3 := rI3 G t wr i
 have r0 := rI0 G t wr i
 have i2 := idR R i.a a0 a1
 have i3 := idR R i.b b0 b1
 have l2 := aMI G t wr i.v R i.a a0 a1 tR
 have l3 := aMI G t wr i.v R i.b b0 b1 tR
 have r5 := rI5 G t wr i
 have fx := aPt lc <| aPt q1 <| aPt q2 <| aPt q3 <| aPt q4 <| aPt d1 <| aPt d2 <| aPt p1 <| aPt p2 <| aPt p3 <| aPt p4 <| aPt p5 <| aPt p6 <| aPt p7 <| aPt p8 <| aPt r0 <| aPt r2 <| aPt r3 <| aPt i2 <| aPt i3 <| aPt l2 <| l3
 refine kN ?_
 clear lc q1 q2 q3 d1 d2 p1 p2 p3 p4 p5 p6 p7 p8 i2 i3 l2 l3 hci
 have e0 : t.step i = (let u : MS := { t with at_ := t.at_ + 1 };
  if i.op = 15 ∨ i.op = 16 then u.touch i
  else if i.op = 17 ∨ i.op = 18 ∨ i.op = 19 then (u.branch i, true)
  else if i.op = 20 then ({ u with code := i.k }, false)
  else if (jL i.op i.k (t.rg i.a) (t.rg i.b) (t.rg i.c)).2 = true then (u.set i.d (jL i.op i.k (t.rg i.a) (t.rg i.b) (t.rg i.c)).1, true)
  else (u, true)) := rfl
 have eat : t.at_ + 1 = s.at_ + 1 := by rw [tat]
 have hop := hi.ok.op
 subst hM
 by_cases h1 : i.op = 15 ∨ i.op = 16
 ·obtain ⟨ad, had⟩ : ∃ z, z = (t.rg i.a + u64 i.k) % 18446744073709551616 := ⟨_, rfl⟩
  have hadl : ad < 18446744073709551616 := by rw [had]; exact Nat.mod_lt _ (by decide)
  have c1 : aJ .u64 (I6 i.k) = some (Un (u64 i.k)) := gX ..
  have c2 := qH Tryd.prog 43 false (t.rg i.a) (u64 i.k)
  rw [← had] at c2
  have c3 := uD ad hadl
  have p6 := aEU G t wr i.v
  have p7 : fI 107 2 (.sl 6 t.leaks.length 0 t.leaks.length 2) (.ro false [.agg [.int .i64 3, I6 (mI ad)]]) (iJ t wr i.v) = _ := aKi t wr i.v (3, mI ad) (by omega)
  have p8 := aKj t wr i.v (3, mI ad)
  have e1 : t.step i = (if t.mem.length ≤ ad then ({ (({ t with at_ := t.at_ + 1 } : MS).leak 3 (mI ad)) with code := 3 }, false) else if i.op = 15 then (({ t with at_ := t.at_ + 1 } : MS).leak 3 (mI ad) |>.set i.d (t.mem.getD ad 0), true) else ({ (({ t with at_ := t.at_ + 1 } : MS).leak 3 (mI ad)) with mem := t.mem.set ad (t.rg i.b) }, true)) := by
   rw [e0]
   simp only
   rw [if_pos h1]
   unfold MS.touch
   simp only
   rw [had]; rfl
  rw [e1]
  clear e0 e1 had
  have hml : t.mem.length = s.mem.length := by rw [tmem]
  have hbig := hs.big
  obtain ⟨t1, ht1⟩ : ∃ t1, t1 = t.leak 3 (mI ad) := ⟨_, rfl⟩
  have t1m : t1.mem = t.mem := by rw [ht1]; rfl
  have t1r : t1.regs = t.regs := by rw [ht1]; rfl
  simp only [← ht1] at p8
  have r0' := rI0 G t1 wr i
  have r1' := rI1 G t1 wr i
  have cM : aJ .u64 (I6 (s.mem.length : Int)) = some (Un s.mem.length) := by rw [gX, aKL _ (by omega)]
  have bcM : ∀ H, aC G false 1 (.rp bc (.agg [.ro bor (gW cs), I6 R, I6 (s.mem.length : Int)]) 2) H = some (I6 (s.mem.length : Int)) := fun H => rfl
  by_cases hin : t.mem.length ≤ ad
  ·rw [if_pos hin]
   have q5 : aQ Tryd.prog .geq 43 false (Un ad) (Un s.mem.length) = some (.bool true) := by rw [lV, decide_eq_true (by omega)]
   have z1 := aLB t1 wr i.v 3
   have z2 := rH G { t1 with code := 3 } wr i.v
   have z3 := aOb { t1 with code := 3 } wr i.v
   repeat' first
    | (with_reducible first | refine eT ?_ | refine eN ?_ | refine eS ?_ | refine eXn ?_ | refine eXr ?_ | refine eX ?_ | refine eI ?_ | refine eK ?_ | refine eV0 ?_ | refine sL ?_ | refine sO ?_ | refine sI ?_ | refine sN ?_ | refine sJ ?_ | refine sK ?_)
    | ((with_reducible apply eCn); (simp only [dX, dW]; first | done | (with_reducible exact rfl)))
    | ((with_reducible apply eJ); (rfl))
    | ((with_reducible apply sM); (first | rfl | (simp only [dX, dW]; rfl)))
    | ((with_reducible apply eB); (first | (with_reducible exact rfl) | (simp (disch := omega) only [qf, r5, c1, c2, c3, p6, p7, p8, cM, bcM, q5, z1, z2, z3]; first | done | (with_reducible exact rfl) | (with_reducible exact ⟨rfl, rfl⟩)) | (simp (disch := omega) only [qa, jP, AV.cells, fH, bA, kX, fK, fM, kL, Nat.reduceLeDiff, Nat.reduceLT, Nat.reduceAdd, ↓reduceIte, r5, c1, c2, c3, p6, p7, p8, cM, bcM, q5, z1, z2, z3]; first | done | (with_reducible exact rfl) | (with_reducible exact ⟨rfl, rfl⟩))))
    | ((with_reducible apply eR); (simp only [dX, dW]; (with_reducible exact rfl)))
    | ((with_reducible first | refine tG ?_ ?_ | refine tL ?_ ?_ | refine tK ?_ ?_ | refine tJ ?_ ?_ | refine tI ?_ ?_ | refine tH ?_ ?_ | refine tM ?_ ?_ | refine oG ?_ ?_ | refine sGd ?_ ?_ | refine nY ?_ ?_) <;> intro hq <;> try subst hq)
   all_goals (rw [ht1]; refine gY ?_; rfl)
  ·rw [if_neg hin]
   have q5 : aQ Tryd.prog .geq 43 false (Un ad) (Un s.mem.length) = some (.bool false) := by rw [lV, decide_eq_false (by omega)]
   have m1 := aOJ G t1 wr i.v
   have m2 := aOG t1 ad (by rw [t1m]; omega)
   have m3 := aOI G t1 wr i.v ad (by rw [t1m]; omega)
   by_cases h15 : i.op = 15
   ·rw [if_pos h15]
    have q6 : aQ Tryd.prog .eql 3 true (I6 i.op) (.int .i64 15) = some (.bool true) := by rw [jV, decide_eq_true h15]
    obtain ⟨d0, dR⟩ := hi.ok.d (by omega)
    have m4 := idR R i.d d0 (by omega)
    have m5 := aOc t1 wr i.v R i.d (t1.mem.getD ad 0) d0 dR (by rw [t1r]; exact tR)
    have fx := aPt r5 <| aPt c1 <| aPt c2 <| aPt c3 <| aPt p6 <| aPt p7 <| aPt p8 <| aPt cM <| aPt bcM <| aPt q5 <| aPt q6 <| aPt r0' <| aPt r1' <| aPt m1 <| aPt m2 <| aPt m3 <| aPt m4 <| m5
    refine gI ?_
    rw [t1m, ht1, ← eat]; refine gY ?_; rfl
   ·rw [if_neg h15]
    have q6 : aQ Tryd.prog .eql 3 true (I6 i.op) (.int .i64 15) = some (.bool false) := by rw [jV, decide_eq_false h15]
    have m5 := aOK t1 wr i.v ad (t.rg i.b) (by rw [t1m]; omega)
    have fx := aPt r5 <| aPt c1 <| aPt c2 <| aPt c3 <| aPt p6 <| aPt p7 <| aPt p8 <| aPt cM <| aPt bcM <| aPt q5 <| aPt q6 <| aPt r0' <| aPt r1' <| aPt m1 <| aPt m2 <| aPt m3 <| m5
    refine gI ?_
    rw [t1m, ht1, ← eat]; refine gY ?_; rfl
 by_cases h2 : i.op = 17 ∨ i.op = 18 ∨ i.op = 19
 ·have hk := hi.ok.k (by omega) (by omega)
  have nk : I6 i.k = Nn i.k.toNat := by show AV.int .i64 i.k = .int .i64 _; congr 1; omega
  rw [nk] at r5
  have e1 : t.step i = (({ t with at_ := t.at_ + 1 } : MS).branch i, true) := by
   rw [e0]
   simp only
   rw [if_neg h1, if_pos h2]
  rw [e1]
  clear e0 e1
  by_cases h17 : i.op = 17
  ·unfold MS.branch
   rw [if_pos h17]
   have fx := aPt r0 <| r5
   refine gI ?_
   refine gY ?_; rfl
  ·unfold MS.branch
   rw [if_neg h17]
   have p6 := aEU G t wr i.v
   have z0 : aQ Tryd.prog .eql 43 true (Un (t.rg i.a)) (.int .u64 0) = some (.bool (decide (t.rg i.a = 0))) := by
    rw [jV]; congr 2; simp only [decide_eq_decide]; omega
   have z1 : aQ Tryd.prog .eql 3 true (I6 i.op) (.int .i64 18) = some (.bool (decide (i.op = 18))) := jV ..
   have z2 : aQ Tryd.prog .eql 4 false (.bool (decide (t.rg i.a = 0))) (.bool (decide (i.op = 18))) = some (.bool (decide (t.rg i.a = 0) == decide (i.op = 18))) := tX Tryd.underlying4 ..
   have z3 : ∀ b H, aE (bT.f G (k + 3)) [.bool b] H = _ := fun b H => aD (H := H) (aEk G (k + 2) b) rfl rfl
   have rgu : (({ t with at_ := t.at_ + 1 } : MS).rg i.a) = t.rg i.a := rfl
   rw [rgu]
   by_cases hg : (decide (t.rg i.a = 0) == decide (i.op = 18)) = true
   ·rw [if_pos hg]
    rw [hg] at z2
    have z3' := z3 true
    rw [if_pos rfl] at z3'
    have p7 : fI 107 2 (.sl 6 t.leaks.length 0 t.leaks.length 2) (.ro false [.agg [.int .i64 2, .int .i64 1]]) (iJ t wr i.v) = _ := aKi t wr i.v (2, 1) (by omega)
    have p8 := aKj t wr i.v (2, 1)
    have r5' : ∀ y, aC G false 1 (.ptr 7 1 0 5) (iJ (t.leak 2 y) wr i.v) = some (Nn i.k.toNat) := fun y => by rw [rI5, nk]
    clear z3
    have w18 : aQ Tryd.prog .eql 3 true (I6 i.op) (.int .i64 17) = some (.bool false) := by rw [jV, decide_eq_false h17]
    generalize decide (t.rg i.a = 0) = g1 at *
    generalize hg2 : decide (i.op = 18) = g2 at *
    have w19 : g2 = false → aQ Tryd.prog .eql 3 true (I6 i.op) (.int .i64 19) = some (.bool true) := fun h => by
     subst h; simp at hg2; rw [jV, decide_eq_true (by omega)]
    cases hgg : g2
    ·rw [hgg] at z1 z2
     have w19 := w19 hgg
     have fx := aPt r0 <| aPt r5' <| aPt p6 <| aPt p7 <| aPt p8 <| aPt z0 <| aPt z1 <| aPt z2 <| aPt z3' <| aPt w18 <| w19
     refine gI ?_
     refine gY ?_; rfl
    ·rw [hgg] at z1 z2
     have fx := aPt r0 <| aPt r5' <| aPt p6 <| aPt p7 <| aPt p8 <| aPt z0 <| aPt z1 <| aPt z2 <| aPt z3' <| w18
     refine gI ?_
     refine gY ?_; rfl
   ·rw [if_neg hg]
    rw [Bool.not_eq_true] at hg
    rw [hg] at z2
    have z3' := z3 false
    rw [if_neg (by decide)] at z3'
    have p7 : fI 107 2 (.sl 6 t.leaks.length 0 t.leaks.length 2) (.ro false [.agg [.int .i64 2, .int .i64 0]]) (iJ t wr i.v) = _ := aKi t wr i.v (2, 0) (by omega)
    have p8 := aKj t wr i.v (2, 0)
    clear z3
    have w18 : aQ Tryd.prog .eql 3 true (I6 i.op) (.int .i64 17) = some (.bool false) := by rw [jV, decide_eq_false h17]
    generalize decide (t.rg i.a = 0) = g1 at *
    generalize hg2 : decide (i.op = 18) = g2 at *
    have w19 : g2 = false → aQ Tryd.prog .eql 3 true (I6 i.op) (.int .i64 19) = some (.bool true) := fun h => by
     subst h; simp at hg2; rw [jV, decide_eq_true (by omega)]
    cases hgg : g2
    ·rw [hgg] at z1 z2
     have w19 := w19 hgg
     have fx := aPt r0 <| aPt p6 <| aPt p7 <| aPt p8 <| aPt z0 <| aPt z1 <| aPt z2 <| aPt z3' <| aPt w18 <| w19
     refine gI ?_
     rw [← eat]; refine gY ?_; rfl
    ·rw [hgg] at z1 z2
     have fx := aPt r0 <| aPt p6 <| aPt p7 <| aPt p8 <| aPt z0 <| aPt z1 <| aPt z2 <| aPt z3' <| w18
     refine gI ?_
     rw [← eat]; refine gY ?_; rfl
 by_cases h3 : i.op = 20
 ·have e1 : t.step i = ({ ({ t with at_ := t.at_ + 1 } : MS) with code := i.k }, false) := by
   rw [e0]
   simp only
   rw [if_neg h1, if_neg h2, if_pos h3]
  rw [e1]
  clear e0 e1
  have z1 := aLB t wr i.v i.k
  have z2 := rH G { t with code := i.k } wr i.v
  have z3 := aOb { t with code := i.k } wr i.v
  have fx := aPt r0 <| aPt r5 <| aPt z1 <| aPt z2 <| z3
  refine gI ?_
  refine gY ?_; rfl
 ·have hv := aGA (n := i.k) (a := t.rg i.a) (b := t.rg i.b) (c := t.rg i.c) (show 1 ≤ i.op ∧ i.op ≤ 14 by omega) hi.sh
  have e1 : t.step i = (({ t with at_ := t.at_ + 1 } : MS).set i.d (jL i.op i.k (t.rg i.a) (t.rg i.b) (t.rg i.c)).1, true) := by
   rw [e0]
   simp only
   rw [if_neg h1, if_neg h2, if_neg h3, if_pos hv]
  rw [e1]
  clear e0 e1
  obtain ⟨d0, dR⟩ := hi.ok.d (by omega)
  obtain ⟨c0, cR⟩ := hi.ok.c (by omega)
  have z1 := rI6 G t wr i
  have z2 := rI4 G t wr i
  have z3 := idR R i.c c0 (by omega)
  have z4 := aMI G t wr i.v R i.c c0 (by omega) tR
  have z5 : ∀ H, aE (cD.f G (k + 3)) [i.v, Un (t.rg i.a), Un (t.rg i.b), Un (t.rg i.c)] H = _ := fun H => aD (H := H) (aDZ G (k + 1) i.op i.d i.a i.b i.c i.k _ _ _ (tok.rg _) (tok.rg _) (tok.rg _)) rfl rfl
  have z6 := rI1 G t wr i
  have z7 := idR R i.d d0 (by omega)
  have z8 := aOc t wr i.v R i.d (jL i.op i.k (t.rg i.a) (t.rg i.b) (t.rg i.c)).1 d0 dR tR
  rw [hv] at z5
  generalize (jL i.op i.k (t.rg i.a) (t.rg i.b) (t.rg i.c)).1 = v at *
  have fx := aPt r0 <| aPt z1 <| aPt z2 <| aPt z3 <| aPt z4 <| aPt z5 <| aPt z6 <| aPt z7 <| z8
  refine gI ?_
  rw [← eat]; refine gY ?_; rfl
end
section
variable (G : aG) (k : Nat) (self : dA) (fuel : Int) (bc bor : Bool) (cs : List WI) (R : Nat) (wr : Int)
theorem aGn (hcl : cs.length ≤ 100000) (hcs : ∀ j, j < cs.length → (cs.getD j default).Ok2 R cs.length) (hf : fuel ≤ 99998) (M : Int) : ∀ (f : Nat) (s s' : MS) (H : aF), vL cs fuel f s = some s' → s.Ok R → (s.steps : Int) ≤ fuel → M = s.mem.length → s.at_ ≤ cs.length → H.take 7 = oM s wr →
  ∃ pc l, gP (bN.l4 G (k + 3) 7 self) f (sZ .nils fuel bc bor cs R M s.at_) H = some (.ret, sZ .nils fuel bc bor cs R M pc, aAO s' wr l)
 | 0, s, s', H, h, hs, hst, hM, hat, hH => by simp [vL] at h
 | f + 1, s, s', H, h, hs, hst, hM, hat, hH => by
  have few := hs.few
  rw [fD]
  simp only [vL] at h
  by_cases h1 : cs.length ≤ s.at_
  ·rw [if_pos h1] at h
   simp only [Option.some.injEq] at h
   refine ⟨s.at_, [], ?_⟩
   rw [bN.l4]
   have hc := aFb fuel bc bor cs R s wr .nils rfl M s.at_ H hH
   unfold sZ at *
   have lc : dH (.ro bor (gW cs)) = some (I6 cs.length) := by simp [dH, jU]
   have q1 : aQ Tryd.prog .geq 3 false (Nn s.at_) (I6 cs.length) = some (.bool true) := by rw [lV, decide_eq_true (by omega)]
   have z1 := aLu s wr 3
   have z2 := aNZ G { s with code := 3 } wr
   have z3 := aOa { s with code := 3 } wr
   rw [h] at z1 z2 z3
   refine jQ ?_
   refine eC hc ?_
   have fx := aPt lc <| aPt q1 <| aPt z1 <| aPt z2 <| z3
   refine gI ?_
   refine gY ?_; rfl
  rw [if_neg h1] at h
  by_cases h2 : (s.steps : Int) = fuel
  ·rw [if_pos h2] at h
   simp only [Option.some.injEq] at h
   refine ⟨s.at_, [], ?_⟩
   rw [bN.l4]
   have hc := aFb fuel bc bor cs R s wr .nils rfl M s.at_ H hH
   unfold sZ at *
   have lc : dH (.ro bor (gW cs)) = some (I6 cs.length) := by simp [dH, jU]
   have q1 : aQ Tryd.prog .geq 3 false (Nn s.at_) (I6 cs.length) = some (.bool false) := by rw [lV, decide_eq_false (by omega)]
   have q2 : aQ Tryd.prog .geq 2 false (Nn s.steps) (I6 fuel) = some (.bool true) := by rw [lV, decide_eq_true (by omega)]
   have p1 := aIh G s wr
   have z1 := aLu s wr 4
   have z2 := aNZ G { s with code := 4 } wr
   have z3 := aOa { s with code := 4 } wr
   rw [h] at z1 z2 z3
   refine jQ ?_
   refine eC hc ?_
   have fx := aPt lc <| aPt q1 <| aPt q2 <| aPt p1 <| aPt z1 <| aPt z2 <| z3
   refine gI ?_
   refine gY ?_; rfl
  rw [if_neg h2] at h
  have hi := hcs s.at_ (by omega)
  rw [aIJ G k self fuel bc bor cs R s wr _ (cs.getD s.at_ default) H hH hs hi hcl (by omega) rfl (by omega) (by omega) M hM]
  have okt : s.tick.Ok R := ⟨hs.len, hs.regs, hs.mem, by have := hs.leaks; simp [MS.tick, MS.leak]; omega, hs.big, by simp [MS.tick, MS.leak]; omega⟩
  obtain ⟨o1, o2, o3, o4⟩ := MS.step_ok okt hi.ok (by have := hs.leaks; simp [MS.tick, MS.leak]; omega) (show s.tick.at_ < cs.length from by show s.at_ < _; omega)
  have tm : s.tick.mem = s.mem := rfl
  have tst : s.tick.steps = s.steps + 1 := rfl
  obtain ⟨s2, b, hsb⟩ : ∃ s2 b, s.tick.step (cs.getD s.at_ default) = (s2, b) := ⟨_, _, rfl⟩
  rw [hsb] at h o1 o2 o3 o4 ⊢
  simp only at h o1 o2 o3 o4
  cases b
  ·simp only [Option.some.injEq] at h
   subst h
   exact ⟨s.at_, _, rfl⟩
  ·exact aGn hcl hcs hf M f s2 s' _ h o1 (by rw [o3, tst]; omega) (by rw [o4, tm]; exact hM) o2 rfl
abbrev aFm : ABlk := ⟨40, 5, [.agg [.int .i64 0, .nils, .nils, .int .i64 0, .int .i64 0]]⟩
def nO (l : List Nat) : aF := [aFm, ⟨43, 1, []⟩, ⟨43, 1, bV l⟩]
theorem vT (b : Bool) (mem : List Nat) (hml : mem.length ≤ 1000000) : ∀ (suf pre : List Nat) (f : Nat), mem = pre ++ suf → suf.length < f →
  gP (aY.l3 G k 3 self) f [.ro b (bV mem), .sl 2 pre.length 0 pre.length 1, Nn pre.length] (nO pre) = some (.exit 0, [.ro b (bV mem), .sl 2 mem.length 0 mem.length 1, Nn mem.length], nO mem)
 | suf, pre, 0, hm, hf => by omega
 | [], pre, f + 1, hm, hf => by
  rw [fD, aY.l3]
  have hl : mem = pre := by rw [hm]; simp
  have hc : iL 3 [.ro b (bV mem), .sl 2 pre.length 0 pre.length 1, Nn pre.length] (nO pre) = some (nO pre) := by
   simp [iL, nO, dE, cG, dS, iE]
  have lc : dH (.ro b (bV mem)) = some (I6 mem.length) := by simp [dH, bL]
  have q : aQ Tryd.prog .lss 3 false (Nn pre.length) (Nn mem.length) = some (.bool false) := by rw [kU, decide_eq_false (by rw [hl]; omega)]
  refine jQ ?_
  refine eC hc ?_
  have fx := aPt lc <| q
  refine gI ?_
  rw [hl]
  refine gY ?_; rfl
 | a :: suf, pre, f + 1, hm, hf => by
  rw [fD, aY.l3]
  have hl : mem.length = pre.length + (suf.length + 1) := by rw [hm]; simp
  have hc : iL 3 [.ro b (bV mem), .sl 2 pre.length 0 pre.length 1, Nn pre.length] (nO pre) = some (nO pre) := by
   simp [iL, nO, dE, cG, dS, iE]
  have lc : dH (.ro b (bV mem)) = some (I6 mem.length) := by simp [dH, bL]
  have q : aQ Tryd.prog .lss 3 false (Nn pre.length) (Nn mem.length) = some (.bool true) := by rw [kU, decide_eq_true (by omega)]
  have ha : mem.getD pre.length 0 = a := by rw [hm]; simp [List.getD]
  have d1 : cF 1 (.ro b (bV mem)) (Nn pre.length) = some (.rp b (Un a) 0) := by
   have := lQ mem pre.length (by omega)
   rw [ha] at this
   exact zT this rfl
  have d2 : ∀ H, aC G false 1 (.rp b (Un a) 0) H = some (Un a) := fun H => rfl
  have d3 : fI 43 1 (.sl 2 pre.length 0 pre.length 1) (.ro false [Un a]) (nO pre) = some (.sl 2 (pre ++ [a]).length 0 (pre ++ [a]).length 1, nO (pre ++ [a])) := by
   have e : (nO pre)[2]? = some ⟨43, 1, bV pre⟩ := rfl
   unfold fI
   simp only [e, iX, bL, List.length_singleton]
   rw [if_pos (by refine ⟨?_, ?_, ?_, ?_, ?_⟩ <;> first | trivial | rfl | omega)]
   have e2 : (bV pre).take pre.length = bV pre := List.take_of_length_le (by rw [bL]; exact Nat.le_refl _)
   have e3 : (bV pre).drop (pre.length + 1) = [] := List.drop_of_length_le (by rw [bL]; omega)
   rw [e2, e3, List.append_nil]
   have e4 : bV pre ++ [Un a] = bV (pre ++ [a]) := by simp [bV]
   rw [e4, bL]; simp [nO]
  have d4 : aQ Tryd.prog .add 3 true (Nn pre.length) (.int .i64 1) = some (Nn (pre ++ [a]).length) := by
   rw [kA, fP (by omega) (by omega)]; congr 2; simp
  have ih := vT b mem hml suf (pre ++ [a]) f (by rw [hm]; simp) (by simp at hf; omega)
  refine jQ ?_
  refine eC hc ?_
  have fx := aPt lc <| aPt q <| aPt d1 <| aPt d2 <| aPt d3 <| d4
  refine gI ?_
  exact ih
theorem aCG (b : Bool) (mem : List Nat) (hml : mem.length ≤ 1000000) (hk : mem.length < k) : aY.f G (k + 1) [.ro b (bV mem)] [aFm] = some (.sl 2 mem.length 0 mem.length 1, nO mem) := by
 rw [aY.step]
 unfold aY.c
 have lc : dH (.ro b (bV mem)) = some (I6 mem.length) := by simp [dH, bL]
 have ms : jH 43 1 (.int .u64 0) (.int .i64 0) (I6 mem.length) [aFm, ⟨43, 1, []⟩] = some (.sl 2 0 0 0 1, nO []) := by
  unfold jH
  simp only
  rw [if_pos (by omega)]
  rfl
 have lp : gP (aY.l3 G k 3 (aY.f G k)) k [.ro b (bV mem), .sl 2 0 0 0 1, .int .i64 0] (nO []) = _ := vT G k (aY.f G k) b mem hml mem [] k rfl hk
 refine eO ?_
 have fx := aPt lc <| ms
 have lx1 := lp
 refine gI ?_
 refine gY ?_; rfl
def qI (s : MS) (wr : Int) : AV := .agg [I6 s.code, .ro false (bV s.mem), .ro false (dK s.leaks), Nn s.steps, I6 wr]
theorem aCF (s : MS) (wr : Int) : fS (qI s wr) = true := by simp [qI, fS, iZ, kE, aFD]
theorem aID (s : MS) (wr : Int) (l : aF) : fL [aC G true 5 (.ptr 0 1 0 0) (aAO s wr l)] ([] : aF).length (aAO s wr l) = some (.ret, [qI s wr], []) := by
 have f1 := wF (H := aAO s wr l) (b := 2) (n0 := 0) (d := 4) (ty := 43) rfl (by omega) (bL s.mem) (aFv _) (iE 0 _)
 have f2 := wF (H := aAO s wr l) (b := 6) (n0 := 0) (d := 4) (ty := 107) rfl (by omega) (iB s.leaks) (aFu _) (kB 0 _)
 have f3 : wD (aAO s wr l) 0 6 (wS s wr) = some (qI s wr) :=
  aFO (by simp [dE, cG]) (jO (lW rfl 5) (jO f1 (jO f2 (jO (lW rfl 5) (jO (lW rfl 5) uS)))))
 have hl : aC G true 5 (.ptr 0 1 0 0) (aAO s wr l) = some (wS s wr) := rfl
 unfold fL
 rw [hl]
 simp only [tU]
 exact aJK f3 rfl
theorem aHc (M : Int) (mem : List Nat) (bm : Bool) (hR : R ≤ 100000) (hm : ∀ x ∈ mem, x < 18446744073709551616) (hml : mem.length ≤ 1000000) (hM : M = mem.length) (h0 : 0 ≤ fuel) (hf : fuel ≤ 99998) (hcl : cs.length ≤ 100000)
  (hcs : ∀ j, j < cs.length → (cs.getD j default).Ok2 R cs.length) (hk : mem.length < k + 2) (s' : MS) (hrun : vL cs fuel (k + 3) (s0 R mem) = some s') :
  bN.f G (k + 4) [cV bor cs R M, .nils, .ro bm (bV mem), I6 fuel] [] = some (qI s' (-1), []) := by
 rw [bN.step]
 unfold bN.c cV
 obtain ⟨pc, l, lp⟩ := aGn G k (bN.f G (k + 3)) fuel false bor cs R (-1) hcl hcs hf M (k + 3) (s0 R mem) s' (oM (s0 R mem) (-1)) hrun (aJe R mem hm hml) (by simp only [s0]; omega) (by simpa [s0] using hM) (by simp [s0]) rfl
 have w1_ : bK (aY.f G (k + 3)) [.ro bm (bV mem)] [aFm] = some (.sl 2 mem.length 0 mem.length 1, [aFm, ⟨43, 1, []⟩, ⟨43, 1, bV mem⟩]) := rA (aCG G (k + 2) bm mem hml hk) (by simp [nO])
 have q1 : aQ Tryd.prog .add 3 true (I6 R) (.int .i64 1) = some (I6 (R + 1 : Nat)) := by
  rw [kA, fP (by omega) (by omega)]; congr 2
 have c5 : jH 43 1 (.int .u64 0) (I6 (R + 1 : Nat)) (I6 (R + 1 : Nat)) [aFm, ⟨43, 1, []⟩, ⟨43, 1, bV mem⟩, ⟨40, 5, [.agg [.int .i64 0, .sl 2 mem.length 0 mem.length 1, .nils, .int .i64 0, .int .i64 (-1)]]⟩] =
   some (.sl 4 (R + 1) 0 (R + 1) 1, [aFm, ⟨43, 1, []⟩, ⟨43, 1, bV mem⟩, ⟨40, 5, [.agg [.int .i64 0, .sl 2 mem.length 0 mem.length 1, .nils, .int .i64 0, .int .i64 (-1)]]⟩, ⟨43, 1, bV (List.replicate R 0 ++ [0])⟩]) := by
  unfold jH
  have : (0 : Int) ≤ (R + 1 : Nat) ∧ ((R + 1 : Nat) : Int) ≤ (R + 1 : Nat) ∧ ((R + 1 : Nat) : Int) ≤ 1099511627776 := by omega
  have e : List.replicate R 0 ++ [0] = List.replicate (R + 1) 0 := by rw [List.replicate_succ']
  rw [e]
  simp only [this, and_self, if_true, Int.toNat_natCast, bV, List.map_replicate]
  rfl
 refine eO ?_
 have fx := aPt w1_ <| aPt q1 <| c5
 refine kN ?_
 refine eV1 (H1 := [⟨40, 5, [.agg [.int .i64 0, .nils, .sl 5 0 0 0 2, .int .i64 0, .int .i64 0]]⟩, ⟨43, 1, []⟩, ⟨43, 1, bV mem⟩, ⟨40, 5, [.agg [.int .i64 0, .sl 2 mem.length 0 mem.length 1, .nils, .int .i64 0, .int .i64 (-1)]]⟩, ⟨43, 1, bV (List.replicate R 0 ++ [0])⟩, ⟨107, 2, []⟩]) rfl ?_
 refine eV1 (H1 := oM (s0 R mem) (-1)) rfl ?_
 refine eV0 ?_
 rw [aMh]
 refine eK ?_
 refine eL lp ?_
 have fx := True.intro
 refine kN ?_
 exact oF (aID G s' (-1) l)
end
theorem pS (G : aG) (k : Nat) (self : dA) (p q : Bool) (a : List (Int × Int)) (hla : a.length ≤ 1000000) : ∀ (suf pre : List (Int × Int)) (f : Nat), a = pre ++ suf → suf.length < f →
  gP (aS.l4 G (k + 1) 0 self) f [.ro p (dK a), .ro q (dK a), .bool false, Nn pre.length] [] = some (.exit 0, [.ro p (dK a), .ro q (dK a), .bool false, Nn a.length], [])
 | suf, pre, 0, hm, hf => by omega
 | [], pre, f + 1, hm, hf => by
  rw [fD, aS.l4]
  have hl : a = pre := by rw [hm]; simp
  have hc : iL 0 [.ro p (dK a), .ro q (dK a), .bool false, Nn pre.length] [] = some [] := by simp [iL, dE, cG, dS, kB]
  have lc : dH (.ro p (dK a)) = some (I6 a.length) := by simp [dH, iB]
  have qq : aQ Tryd.prog .lss 3 false (Nn pre.length) (Nn a.length) = some (.bool false) := by rw [kU, decide_eq_false (by rw [hl]; omega)]
  refine jQ ?_
  refine eC hc ?_
  have fx := aPt lc <| qq
  refine gI ?_
  rw [hl]
  refine gY ?_; rfl
 | x :: suf, pre, f + 1, hm, hf => by
  rw [fD, aS.l4]
  have hl : a.length = pre.length + (suf.length + 1) := by rw [hm]; simp
  have hc : iL 0 [.ro p (dK a), .ro q (dK a), .bool false, Nn pre.length] [] = some [] := by simp [iL, dE, cG, dS, kB]
  have lc : dH (.ro p (dK a)) = some (I6 a.length) := by simp [dH, iB]
  have qq : aQ Tryd.prog .lss 3 false (Nn pre.length) (Nn a.length) = some (.bool true) := by rw [kU, decide_eq_true (by omega)]
  have ha : (dK a)[pre.length]? = some (iD x) := by rw [hm]; simp [dK]
  have d1 : ∀ b, cF 2 (.ro b (dK a)) (Nn pre.length) = some (.rp b (iD x) 0) := fun b => by
   unfold cF
   have h0 : (0 : Int) ≤ (pre.length : Int) := by omega
   simp only [h0, if_true, Int.toNat_natCast, ha]
   rfl
  have d2 : ∀ b H, aC G true 2 (.rp b (iD x) 0) H = some (iD x) := fun b H => rfl
  have d4 : aQ Tryd.prog .add 3 true (Nn pre.length) (.int .i64 1) = some (Nn (pre ++ [x]).length) := by
   rw [kA, fP (by omega) (by omega)]; congr 2; simp
  have s1 : bE.f G (k + 1) [iD x, iD x] [] = some (.bool true, []) := by
   rw [bE.step]
   unfold bE.c iD
   refine eO ?_
   have fx := True.intro
   refine gI ?_
   exact qT rfl
  have d5 : ∀ H, aE (bE.f G (k + 1)) [iD x, iD x] H = _ := fun H => aD (H := H) s1 rfl rfl
  have ih := pS G k self p q a hla suf (pre ++ [x]) f (by rw [hm]; simp) (by simp at hf; omega)
  refine jQ ?_
  refine eC hc ?_
  have fx := aPt lc <| aPt qq <| aPt d1 <| aPt d2 <| aPt d4 <| d5
  refine gI ?_
  exact ih
theorem wV (G : aG) (k : Nat) (p q : Bool) (a : List (Int × Int)) (hla : a.length ≤ 1000000) (hk : a.length < k + 1) : aS.f G (k + 2) [.ro p (dK a), .ro q (dK a)] [] = some (.bool true, []) := by
 rw [aS.step]
 unfold aS.c
 have lc : ∀ b, dH (.ro b (dK a)) = some (I6 a.length) := fun b => by simp [dH, iB]
 have lp : gP (aS.l4 G (k + 1) 0 (aS.f G (k + 1))) (k + 1) [.ro p (dK a), .ro q (dK a), .bool false, .int .i64 0] [] = _ := pS G k (aS.f G (k + 1)) p q a hla a [] (k + 1) rfl hk
 refine eO ?_
 have fx := lc
 have lx1 := lp
 refine gI ?_
 exact qT rfl
theorem aDE {x : AV} {t e : TypeId} (hu : Tryd.prog.underlying t = some (.slice e)) (he : Tryd.prog.underlying e = some (.int .u64)) (h : IsT Tryd.prog t x) :
  ∃ l : List Nat, x = .ro false (bV l) ∧ (∀ n ∈ l, n < 18446744073709551616) := by
 obtain ⟨l, rfl, hw, hl⟩ := h.of_ints hu he
 refine ⟨l.map Int.toNat, ?_, ?_⟩
 ·unfold bV
  rw [List.map_map]
  congr 1
  apply List.map_congr_left
  intro n hn
  obtain ⟨h1, h2⟩ := aJm (hw n hn)
  show AV.int .u64 n = AV.int .u64 ((n.toNat : Nat) : Int)
  rw [Int.toNat_of_nonneg h1]
 ·intro n hn
  obtain ⟨z, hz, rfl⟩ := List.mem_map.1 hn
  have := aJm (hw z hz)
  omega
theorem aMu {x : AV} (h : IsT Tryd.prog 60 x) : ∃ i : WI, x = i.v ∧ (-9223372036854775808 ≤ i.k ∧ i.k < 9223372036854775808) := by
 obtain ⟨cs, rfl, hf⟩ := h.of_struct Tryd.underlying60
 cases hf with
 | cons h1 hf =>
 cases hf with
 | cons h2 hf =>
 cases hf with
 | cons h3 hf =>
 cases hf with
 | cons h4 hf =>
 cases hf with
 | cons h5 hf =>
 cases hf with
 | cons h6 hf =>
 cases hf with
 | nil =>
 obtain ⟨a, rfl, _⟩ := h1.of_int (k := .i64) Tryd.underlying3
 obtain ⟨b, rfl, _⟩ := h2.of_int (k := .i64) Tryd.underlying3
 obtain ⟨c, rfl, _⟩ := h3.of_int (k := .i64) Tryd.underlying3
 obtain ⟨d, rfl, _⟩ := h4.of_int (k := .i64) Tryd.underlying3
 obtain ⟨e, rfl, _⟩ := h5.of_int (k := .i64) Tryd.underlying3
 obtain ⟨f, rfl, hw⟩ := h6.of_int (k := .i64) Tryd.underlying2
 exact ⟨⟨a, b, c, d, e, f⟩, rfl, aFo hw⟩
theorem aFW {α : Type} {P : AV → Prop} {e : α → AV} {Q : α → Prop} (h : ∀ x, P x → ∃ a, x = e a ∧ Q a) : ∀ xs : List AV, (∀ x ∈ xs, P x) → ∃ l : List α, xs = l.map e ∧ ∀ a ∈ l, Q a
 | [], _ => ⟨[], rfl, fun a h => by cases h⟩
 | x :: xs, hx => by
  obtain ⟨a, rfl, ha⟩ := h x (hx x (by simp))
  obtain ⟨l, rfl, hl⟩ := aFW h xs (fun y hy => hx y (by simp [hy]))
  refine ⟨a :: l, rfl, fun b hb => ?_⟩
  rcases List.mem_cons.1 hb with rfl | hb
  ·exact ha
  ·exact hl b hb
theorem aKc {x : AV} (h : IsT Tryd.prog 24 x) : ∃ (cs : List WI) (R M : Int), x = cV false cs R M ∧ (-9223372036854775808 ≤ R ∧ R < 9223372036854775808) ∧ (-9223372036854775808 ≤ M ∧ M < 9223372036854775808) := by
 obtain ⟨cs, rfl, hf⟩ := h.of_struct Tryd.underlying24
 cases hf with
 | cons h1 hf =>
 cases hf with
 | cons h2 hf =>
 cases hf with
 | cons h3 hf =>
 cases hf with
 | nil =>
 obtain ⟨xs, rfl, hx, _⟩ := h1.of_slice Tryd.underlying22
 obtain ⟨l, rfl, _⟩ := aFW (e := WI.v) (fun x hx => aMu hx) xs hx
 obtain ⟨R, rfl, hR⟩ := h2.of_int (k := .i64) Tryd.underlying3
 obtain ⟨M, rfl, hM⟩ := h3.of_int (k := .i64) Tryd.underlying3
 exact ⟨l, R, M, rfl, aFo hR, aFo hM⟩
theorem aGp (cs : List WI) (fuel : Int) (R : Nat) (hf : fuel ≤ 99999) (hcs : ∀ j, j < cs.length → (cs.getD j default).Ok R cs.length) : ∀ (f : Nat) (s s' : MS), vL cs fuel f s = some s' → s.Ok R → s.at_ ≤ cs.length → (s.steps : Int) ≤ fuel →
  s'.Ok R ∧ (s'.steps : Int) ≤ fuel ∧ s'.mem.length = s.mem.length
 | 0, s, s', h, _, _, _ => by simp [vL] at h
 | f + 1, s, s', h, hs, hat, hst => by
  simp only [vL] at h
  by_cases h1 : cs.length ≤ s.at_
  ·rw [if_pos h1] at h; simp only [Option.some.injEq] at h; subst h
   exact ⟨⟨hs.len, hs.regs, hs.mem, hs.leaks, hs.big, hs.few⟩, hst, rfl⟩
  rw [if_neg h1] at h
  by_cases h2 : (s.steps : Int) = fuel
  ·rw [if_pos h2] at h; simp only [Option.some.injEq] at h; subst h
   exact ⟨⟨hs.len, hs.regs, hs.mem, hs.leaks, hs.big, hs.few⟩, hst, rfl⟩
  rw [if_neg h2] at h
  have okt : s.tick.Ok R := ⟨hs.len, hs.regs, hs.mem, by have := hs.leaks; simp [MS.tick, MS.leak]; omega, hs.big, by simp [MS.tick, MS.leak]; omega⟩
  obtain ⟨o1, o2, o3, o4⟩ := MS.step_ok okt (hcs s.at_ (by omega)) (by have := hs.leaks; simp [MS.tick, MS.leak]; omega) (show s.tick.at_ < cs.length from by show s.at_ < _; omega)
  have tst : s.tick.steps = s.steps + 1 := rfl
  have tm : s.tick.mem = s.mem := rfl
  obtain ⟨s2, b, hsb⟩ : ∃ s2 b, s.tick.step (cs.getD s.at_ default) = (s2, b) := ⟨_, _, rfl⟩
  rw [hsb] at h o1 o2 o3 o4
  simp only at h o1 o2 o3 o4
  cases b
  ·simp only [Option.some.injEq] at h
   subst h
   exact ⟨o1, by rw [o3, tst]; omega, by rw [o4, tm]⟩
  ·obtain ⟨r1, r2, r3⟩ := aGp cs fuel R hf hcs f s2 s' h o1 o2 (by rw [o3, tst]; omega)
   exact ⟨r1, r2, by rw [r3, o4, tm]⟩
theorem aFE (e : Nat) : aHy e ≠ 0 := by unfold aHy; repeat' split <;> try omega
abbrev JL := List (MI × Option Int)
def gS (l : List MI) : JL := l.map fun i => (i, none)
def nC : Nat → JL → List (Nat × Int)
 | _, [] => []
 | b, (_, none) :: L => nC (b + 1) L
 | b, (_, some t) :: L => (b, t) :: nC (b + 1) L
def KS.lay (s : KS) (L : JL) : KS := ⟨s.out ++ L.map Prod.fst, s.place, s.jumps ++ nC s.out.length L⟩
theorem uN : ∀ (L M : JL) (b : Nat), nC b (L ++ M) = nC b L ++ nC (b + L.length) M
 | [], M, b => by simp [nC]
 | (_, none) :: L, M, b => by
  simp only [List.cons_append, nC, uN L M (b + 1), List.length_cons]
  rw [show b + 1 + L.length = b + (L.length + 1) by omega]
 | (_, some t) :: L, M, b => by
  simp only [List.cons_append, nC, uN L M (b + 1), List.length_cons]
  rw [show b + 1 + L.length = b + (L.length + 1) by omega]
theorem zV : ∀ (l : List MI) (b : Nat), nC b (gS l) = []
 | [], b => rfl
 | i :: l, b => zV l (b + 1)
theorem aER (l m : List MI) : gS (l ++ m) = gS l ++ gS m := by simp [gS]
theorem aES (l : List MI) : (gS l).map Prod.fst = l := by simp [gS, Function.comp_def]
theorem mP (l : List MI) : (gS l).length = l.length := by simp [gS]
theorem oW (s : KS) (L M : JL) : s.lay (L ++ M) = (s.lay L).lay M := by
 unfold KS.lay
 simp only [uN, List.map_append, List.append_assoc, List.length_append, List.length_map]
theorem pA (s : KS) (l : List MI) : s.put l = s.lay (gS l) := by
 unfold KS.lay KS.put
 rw [zV, aES, List.append_nil]
theorem zW (s : KS) (i : MI) (t : Int) : s.jump i t = s.lay [(i, some t)] := rfl
def mD (i : WI) : List MI := if i.k ≤ 4095 then [⟨10, 28, i.a, 0, 0, i.k⟩] else iN 28 (u64 i.k) ++ [⟨3, 28, i.a, 28, 0, 0⟩]
def nM (op r : Int) (i : WI) (e : Int) : JL := gS (mD i) ++ (gS [⟨13, 29, 28, 0, 0, 16⟩] ++ ([(⟨23, 29, 0, 0, 0, 0⟩, some e)] ++ gS [⟨12, 28, 28, 0, 0, 3⟩, ⟨op, r, 28, 0, 0, 0⟩]))
theorem aHl (s : KS) (op r : Int) (i : WI) (e : Int) : s.touch op r i e = s.lay (nM op r i e) := by
 unfold KS.touch nM mD
 by_cases h : i.k ≤ 4095
 ·simp only [if_pos h]
  rw [pA, pA, zW, pA, oW, oW, oW]
 ·simp only [if_neg h]
  rw [pA, pA, pA, zW, pA, aER, oW, oW, oW, oW]
def iH (e : Int) (i : WI) : JL :=
 if i.op = 1 then gS (iN i.d (u64 i.k))
 else if i.op = 2 then gS [⟨6, i.d, i.a, 31, 0, 0⟩]
 else if i.op = 3 then gS [⟨3, i.d, i.a, i.b, 0, 0⟩]
 else if i.op = 4 then gS [⟨4, i.d, i.a, i.b, 0, 0⟩]
 else if i.op = 5 then gS [⟨8, i.d, i.a, i.b, 31, 0⟩]
 else if i.op = 6 then gS [⟨9, i.d, i.a, i.b, 0, 0⟩]
 else if i.op = 7 then gS [⟨5, i.d, i.a, i.b, 0, 0⟩]
 else if i.op = 8 then gS [⟨6, i.d, i.a, i.b, 0, 0⟩]
 else if i.op = 9 then gS [⟨7, i.d, i.a, i.b, 0, 0⟩]
 else if i.op = 10 then gS [⟨12, i.d, i.a, 0, 0, i.k⟩]
 else if i.op = 11 then gS [⟨13, i.d, i.a, 0, 0, i.k⟩]
 else if i.op = 12 then gS [⟨14, i.d, i.a, 0, 0, i.k⟩]
 else if i.op = 13 then gS [⟨15, 0, i.a, i.b, 0, 0⟩, ⟨17, i.d, 0, 0, 3, 0⟩]
 else if i.op = 14 then gS [⟨15, 0, i.a, 31, 0, 0⟩, ⟨16, i.d, i.b, i.c, 1, 0⟩]
 else if i.op = 15 then nM 18 i.d i e
 else if i.op = 16 then nM 19 i.b i e
 else if i.op = 17 then [(⟨20, 0, 0, 0, 0, 0⟩, some i.k)]
 else if i.op = 18 then [(⟨22, i.a, 0, 0, 0, 0⟩, some i.k)]
 else if i.op = 19 then [(⟨23, i.a, 0, 0, 0, 0⟩, some i.k)]
 else if i.op = 20 then gS [⟨24, 0, 0, 0, 0, i.k⟩]
 else []
theorem aFS (s : KS) : s.lay [] = s := by unfold KS.lay; simp [nC]
theorem aJT (s : KS) (c : Prop) [Decidable c] (L M : JL) : s.lay (if c then L else M) = if c then s.lay L else s.lay M := by split <;> rfl
theorem aFZ (s : KS) (i : WI) (e : Int) : s.one i e = s.lay (iH e i) := by
 unfold KS.one iH
 simp only [aJT, ← pA, ← zW, ← aHl, aFS]
def iC (e : Int) : List WI → JL
 | [] => []
 | w :: ws => iH e w ++ iC e ws
theorem wC (e : Int) : ∀ (l m : List WI), iC e (l ++ m) = iC e l ++ iC e m
 | [], m => rfl
 | w :: l, m => by simp only [List.cons_append, iC, wC e l m, List.append_assoc]
def wQ (e : Int) : Nat → List WI → List Nat
 | _, [] => []
 | b, w :: ws => b :: wQ e (b + (iH e w).length) ws
theorem aDL (e : Int) : ∀ (ws : List WI) (b : Nat), (wQ e b ws).length = ws.length
 | [], b => rfl
 | w :: ws, b => by simp only [wQ, List.length_cons, aDL e ws]
theorem aGr (e : Int) : ∀ (ws : List WI) (s : KS), KS.run e ws s = ⟨(s.lay (iC e ws)).out, s.place ++ wQ e s.out.length ws, (s.lay (iC e ws)).jumps⟩
 | [], s => by simp [KS.run, iC, wQ, aFS]
 | w :: ws, s => by
  have h := aGr e ws (s.mark.one w e)
  rw [aFZ] at h
  simp only [KS.run, aFZ, h, iC, wQ, oW]
  simp [KS.lay, KS.mark]
def mM (P : List Nat) : Nat → JL → List MI
 | _, [] => []
 | b, (i, none) :: L => i :: mM P (b + 1) L
 | b, (i, some t) :: L => { i with imm := (P.getD t.toNat 0 : Int) - b } :: mM P (b + 1) L
theorem nA (P : List Nat) : ∀ (L M : JL) (b : Nat), mM P b (L ++ M) = mM P b L ++ mM P (b + L.length) M
 | [], M, b => by simp [mM]
 | (_, none) :: L, M, b => by
  simp only [List.cons_append, mM, nA P L M (b + 1), List.length_cons]
  rw [show b + 1 + L.length = b + (L.length + 1) by omega]
 | (_, some t) :: L, M, b => by
  simp only [List.cons_append, mM, nA P L M (b + 1), List.length_cons]
  rw [show b + 1 + L.length = b + (L.length + 1) by omega]
theorem uH (P : List Nat) : ∀ (L : JL) (b : Nat), (mM P b L).length = L.length
 | [], b => rfl
 | (_, none) :: L, b => by simp only [mM, List.length_cons, uH P L]
 | (_, some t) :: L, b => by simp only [mM, List.length_cons, uH P L]
theorem mN (P : List Nat) : ∀ (l : List MI) (b : Nat), mM P b (gS l) = l
 | [], b => rfl
 | i :: l, b => by
  have := mN P l (b + 1)
  show i :: mM P (b + 1) (gS l) = _
  rw [this]
theorem wB (P : List Nat) (J : List (Nat × Int)) : ∀ (L : JL) (A : List MI), KS.fixes (nC A.length L) ⟨A ++ L.map Prod.fst, P, J⟩ = ⟨A ++ mM P A.length L, P, J⟩
 | [], A => by simp [nC, mM, KS.fixes]
 | (i, none) :: L, A => by
  have h := wB P J L (A ++ [i])
  simp only [List.length_append, List.length_singleton, List.append_assoc, List.singleton_append] at h
  exact h
 | (i, some t) :: L, A => by
  have h := wB P J L (A ++ [{ i with imm := (P.getD t.toNat 0 : Int) - A.length }])
  simp only [List.length_append, List.length_singleton, List.append_assoc, List.singleton_append] at h
  have e : KS.fix ⟨A ++ i :: L.map Prod.fst, P, J⟩ (A.length, t) = ⟨A ++ { i with imm := (P.getD t.toNat 0 : Int) - A.length } :: L.map Prod.fst, P, J⟩ := by
   unfold KS.fix aMe
   simp [List.getD_eq_getElem?_getD]
  show KS.fixes (nC (A.length + 1) L) (KS.fix ⟨A ++ i :: L.map Prod.fst, P, J⟩ (A.length, t)) = _
  rw [e]; exact h
theorem aDK (e : Int) : ∀ (ws : List WI) (b j : Nat), j ≤ ws.length → (wQ e b ws ++ [b + (iC e ws).length]).getD j 0 = b + (iC e (ws.take j)).length
 | [], b, 0, h => by simp [wQ, iC]
 | [], b, j + 1, h => by simp at h
 | w :: ws, b, 0, h => by simp [wQ, iC]
 | w :: ws, b, j + 1, h => by
  have h2 := aDK e ws (b + (iH e w).length) j (by simpa using h)
  simp only [wQ, iC, List.length_append, List.cons_append, List.getD_cons_succ, List.take_succ_cons]
  rw [show b + ((iH e w).length + (iC e ws).length) = b + (iH e w).length + (iC e ws).length by omega, h2]
  omega
def kW (ws : List WI) : List Nat := wQ ws.length 0 ws ++ [(iC ws.length ws).length]
def aCr (ws : List WI) : List MI := mM (kW ws) 0 (iC ws.length ws)
def lL (ws : List WI) (j : Nat) : Nat := (iC ws.length (ws.take j)).length
theorem tF (ws : List WI) (j : Nat) (h : j ≤ ws.length) : (kW ws).getD j 0 = lL ws j := by
 have := aDK ws.length ws 0 j h
 simp only [Nat.zero_add] at this
 exact this
theorem aEQ (ws : List WI) : (kW ws).length = ws.length + 1 := by simp [kW, aDL]
theorem aIN (ws : List WI) : (KS.run ws.length ws k00).mark = ⟨(iC ws.length ws).map Prod.fst, kW ws, nC 0 (iC ws.length ws)⟩ := by
 rw [aGr]
 simp [KS.mark, KS.lay, k00, kW]
theorem aHD (ws : List WI) (s0 : KS) (h : s0 = (KS.run ws.length ws k00).mark) : (KS.fixes s0.jumps s0).out = aCr ws := by
 rw [h, aIN]
 have := wB (kW ws) (nC 0 (iC ws.length ws)) (iC ws.length ws) []
 simp only [List.length_nil, List.nil_append] at this
 rw [this]; rfl
theorem aDH (ws : List WI) : (aCr ws).length = (iC ws.length ws).length := uH _ _ _
theorem aFk (ws : List WI) (j : Nat) (h : j < ws.length) : ws = ws.take j ++ ws.getD j default :: ws.drop (j + 1) := by
 have : ws.getD j default = ws[j] := by rw [List.getD_eq_getElem?_getD, List.getElem?_eq_getElem h]; rfl
 rw [this, ← List.drop_eq_getElem_cons h, List.take_append_drop]
theorem aKg (ws : List WI) (j : Nat) (h : j < ws.length) : ∃ pre post, aCr ws = pre ++ (mM (kW ws) (lL ws j) (iH ws.length (ws.getD j default)) ++ post) ∧ pre.length = lL ws j := by
 have e := aFk ws j h
 have e2 : iC ws.length ws = iC ws.length (ws.take j) ++ (iH ws.length (ws.getD j default) ++ iC ws.length (ws.drop (j + 1))) := by
  have : ∀ n : Int, iC n ws = iC n (ws.take j) ++ (iH n (ws.getD j default) ++ iC n (ws.drop (j + 1))) := fun n => by
   conv => lhs; rw [e]
   rw [wC]; rfl
  exact this _
 refine ⟨mM (kW ws) 0 (iC ws.length (ws.take j)), mM (kW ws) (lL ws j + (iH ws.length (ws.getD j default)).length) (iC ws.length (ws.drop (j + 1))), ?_, uH _ _ _⟩
 unfold aCr
 conv => lhs; rw [e2]
 rw [nA, nA, Nat.zero_add]; rfl
theorem zF (ws : List WI) (j : Nat) (h : j < ws.length) : lL ws (j + 1) = lL ws j + (iH ws.length (ws.getD j default)).length := by
 unfold lL
 have : ws.take (j + 1) = ws.take j ++ [ws.getD j default] := by
  rw [List.take_add_one, List.getD_eq_getElem?_getD, List.getElem?_eq_getElem h]; rfl
 rw [this, wC]
 simp [iC]
theorem aFz (ws : List WI) : lL ws ws.length = (aCr ws).length := by rw [aDH]; unfold lL; rw [List.take_length]
theorem aMi {c : Prop} [Decidable c] {a b : JL} {n : Nat} (ha : a.length ≤ n) (hb : b.length ≤ n) : (if c then a else b).length ≤ n := by split <;> assumption
theorem tA (e : Int) (i : WI) : (iH e i).length ≤ 9 := by
 have h := fun d u => (kF d u).2
 have ht : ∀ op r : Int, (nM op r i e).length ≤ 9 := fun op r => by
  unfold nM mD
  have := h 28 (u64 i.k)
  split <;> simp [gS] <;> omega
 have h1 := h i.d (u64 i.k)
 have h2 := ht 18 i.d
 have h3 := ht 19 i.b
 unfold iH
 repeat' apply aMi
 all_goals first | assumption | (rw [mP]; omega) | (simp [gS]; done) | simp
theorem rS (e : Int) : ∀ ws : List WI, (iC e ws).length ≤ 9 * ws.length
 | [] => by simp [iC]
 | w :: ws => by
  have := rS e ws
  have := tA e w
  simp only [iC, List.length_append, List.length_cons]; omega
structure WI.Good (i : WI) (R n : Nat) : Prop where
 ok2 : i.Ok2 R n
 mem : i.op = 15 ∨ i.op = 16 → 0 ≤ i.k ∧ i.k ≤ 65535
 halt : i.op = 20 → 0 ≤ i.k ∧ i.k ≤ 2
theorem aGZ {i : WI} {R n : Int} (h : jI i R n = none) (hR : 0 ≤ R) : i.Good R.toNat n.toNat := by
 refine ⟨aIa h hR, fun ho => ?_, fun ho => ?_⟩
 ·unfold jI at h
  by_cases h0 : (jW i.op).isSome = false
  ·rw [if_pos h0] at h; cases h
  rw [if_neg h0] at h
  by_cases h1 : vB (lO i.op) i R = true
  ·rw [if_pos h1] at h; cases h
  rw [if_neg h1] at h
  by_cases h2 : uX (lO i.op) i = true
  ·rw [if_pos h2] at h; cases h
  rw [if_neg h2, if_neg (by omega), if_neg (by omega), if_pos ho] at h
  by_cases h3 : i.k < 0 ∨ 65535 < i.k
  ·rw [if_pos h3] at h; cases h
  ·omega
 ·unfold jI at h
  by_cases h0 : (jW i.op).isSome = false
  ·rw [if_pos h0] at h; cases h
  rw [if_neg h0] at h
  by_cases h1 : vB (lO i.op) i R = true
  ·rw [if_pos h1] at h; cases h
  rw [if_neg h1] at h
  by_cases h2 : uX (lO i.op) i = true
  ·rw [if_pos h2] at h; cases h
  rw [if_neg h2, if_neg (by omega), if_pos ho] at h
  by_cases h3 : i.k < 0 ∨ 2 < i.k
  ·rw [if_pos h3] at h; cases h
  ·omega
theorem aAU {R n : Int} (hR : 0 ≤ R) : ∀ {l : List WI} {j : Nat}, pI R n l j = .ok → ∀ i ∈ l, i.Good R.toNat n.toNat
 | [], _, _, i, hi => by cases hi
 | x :: l, j, h, i, hi => by
  unfold pI at h
  split at h
  ·cases h
  ·rename_i ho
   rcases List.mem_cons.1 hi with rfl | hi
   ·exact aGZ ho hR
   ·exact aAU hR h i hi
theorem xX {cs : List WI} {R M : Int} (h : lH cs R M = .ok) : ∀ i ∈ cs, i.Good R.toNat cs.length := by
 have hb := (wU h).1
 unfold lH at h
 rw [if_neg (by omega), if_neg (by omega)] at h
 have := aAU hb.1 h
 simpa using this
abbrev Rw (r : Int) : Prop := 0 ≤ r ∧ r < 28
theorem Rw.le {r m : Int} (h : Rw r) (hm : 28 ≤ m) : 0 ≤ r ∧ r ≤ m := by
 unfold Rw at h; omega
theorem rt3 {op d n m : Int} (ho : op = 3 ∨ op = 4 ∨ op = 5 ∨ op = 6 ∨ op = 7 ∨ op = 9) (hd : 0 ≤ d ∧ d ≤ 28) (hn : 0 ≤ n ∧ n ≤ 28) (hm : 0 ≤ m ∧ m ≤ 31) : aU ⟨op, d, n, m, 0, 0⟩ = true := by
 rcases ho with rfl | rfl | rfl | rfl | rfl | rfl <;> simp [aU, kG, aO, eQ, gC, dL, gL, eU, dM] <;> omega
theorem aOk {d n m : Int} (hd : Rw d) (hn : Rw n) (hm : Rw m) : aU ⟨8, d, n, m, 31, 0⟩ = true := by
 simp [aU, kG, aO, eQ, gC, dL, gL, eU, dM]; omega
theorem aHi {op d n k : Int} (ho : op = 12 ∨ op = 13 ∨ op = 14) (hd : 0 ≤ d ∧ d ≤ 29) (hn : 0 ≤ n ∧ n ≤ 29) (hk : 0 ≤ k ∧ k ≤ 63) : aU ⟨op, d, n, 0, 0, k⟩ = true := by
 rcases ho with rfl | rfl | rfl <;> simp [aU, kG, aO, eQ, gC, dL, gL, eU, dM] <;> omega
theorem aLJ {n m : Int} (hn : Rw n) (hm : 0 ≤ m ∧ m ≤ 31) : aU ⟨15, 0, n, m, 0, 0⟩ = true := by
 simp [aU, kG, aO, eQ, gC, dL, gL, eU, dM]; omega
theorem aMZ {d : Int} (hd : Rw d) : aU ⟨17, d, 0, 0, 3, 0⟩ = true := by
 simp [aU, kG, aO, eQ, gC, dL, gL, eU, dM]; omega
theorem aMY {d n m : Int} (hd : Rw d) (hn : Rw n) (hm : Rw m) : aU ⟨16, d, n, m, 1, 0⟩ = true := by
 simp [aU, kG, aO, eQ, gC, dL, gL, eU, dM]; omega
theorem aOh {n k : Int} (hn : Rw n) (hk : 0 ≤ k ∧ k ≤ 4095) : aU ⟨10, 28, n, 0, 0, k⟩ = true := by
 simp [aU, kG, aO, eQ, gC, dL, gL, eU, dM]; omega
theorem aOj {op r : Int} (ho : op = 18 ∨ op = 19) (hr : Rw r) : aU ⟨op, r, 28, 0, 0, 0⟩ = true := by
 rcases ho with rfl | rfl <;> simp [aU, kG, aO, eQ, gC, dL, gL, eU, dM] <;> omega
theorem rtB {k : Int} (hk : -100000 ≤ k ∧ k ≤ 100000) : aU ⟨20, 0, 0, 0, 0, k⟩ = true := by
 simp [aU, kG, aO, eQ, gC, dL, gL, eU, dM]; omega
theorem aMX {op r k : Int} (ho : op = 22 ∨ op = 23) (hr : 0 ≤ r ∧ r ≤ 29) (hk : -100000 ≤ k ∧ k ≤ 100000) : aU ⟨op, r, 0, 0, 0, k⟩ = true := by
 rcases ho with rfl | rfl <;> simp [aU, kG, aO, eQ, gC, dL, gL, eU, dM] <;> omega
theorem aOi {k : Int} (hk : 0 ≤ k ∧ k ≤ 2) : aU ⟨24, 0, 0, 0, 0, k⟩ = true := by
 simp [aU, kG, aO, eQ, gC, dL, gL, eU, dM]; omega
theorem aJn (d n : Int) : cS ⟨12, d, n, 0, 0, 0⟩ = cS ⟨13, d, n, 0, 0, 0⟩ := by
 simp [cS, aO, fC]
theorem wI {i : WI} {R n : Nat} (h : i.Good R n) (hR : R ≤ 28) : (i.op ≠ 17 → i.op ≠ 20 → Rw i.a) ∧ (i.op ≤ 16 → Rw i.d ∧ Rw i.b ∧ Rw i.c) := by
 refine ⟨fun h1 h2 => ?_, fun h1 => ?_⟩
 ·have := h.ok2.ok.a h1 h2; omega
 ·have := h.ok2.ok.d h1; have := h.ok2.ok.b h1; have := h.ok2.ok.c h1; omega
def aAK (P : List Nat) (b : Nat) (L : JL) : Prop := ∀ i ∈ mM P b L, aU i = true
theorem gU {P : List Nat} {b : Nat} {l : List MI} (h : ∀ i ∈ l, aU i = true) : aAK P b (gS l) := by
 unfold aAK; rw [mN]; exact h
theorem tS {P : List Nat} {b : Nat} {L M : JL} (h : aAK P b L) (h2 : aAK P (b + L.length) M) : aAK P b (L ++ M) := by
 unfold aAK; rw [nA]
 intro i hi
 rcases List.mem_append.1 hi with hi | hi
 ·exact h i hi
 ·exact h2 i hi
theorem tT {P : List Nat} {b : Nat} {i : MI} {t : Int} (h : aU { i with imm := (P.getD t.toNat 0 : Int) - b } = true) : aAK P b [(i, some t)] := by
 intro j hj
 simp only [mM, List.mem_singleton] at hj
 rw [hj]; exact h
theorem xC (d : Int) (hd : 0 ≤ d ∧ d ≤ 30) (k : Int) : ∀ i ∈ iN d (u64 k), aU i = true := fun i hi => ((uC d hd (u64 k) (iW k) jD).1 i hi).1
theorem sP {x : MI} (h : aU x = true) : ∀ i ∈ [x], aU i = true := fun i hi => by rw [List.mem_singleton.1 hi]; exact h
theorem aMs {x y : MI} (h : aU x = true) (h2 : aU y = true) : ∀ i ∈ [x, y], aU i = true := fun i hi => by
 rcases List.mem_cons.1 hi with rfl | hi
 ·exact h
 ·exact sP h2 i hi
theorem xW {P : List Nat} {b : Nat} {op r e : Int} {i : WI} (ho : op = 18 ∨ op = 19) (hr : Rw r) (ha : Rw i.a) (hk : 0 ≤ i.k ∧ i.k ≤ 65535) (hP : ∀ x ∈ P, x ≤ 90000) (hb : b ≤ 90000) : aAK P b (nM op r i e) := by
 have hPe : ((P.getD e.toNat 0 : Nat) : Int) ≤ 90000 := by
  rw [List.getD_eq_getElem?_getD]
  cases hq : P[e.toNat]? with
  | none => simp
  | some x => have := hP x (List.mem_of_getElem? hq); simp; omega
 have hc := (kF 28 (u64 i.k)).2
 have hal : (mD i).length ≤ 5 := by
  unfold mD; split
  ·simp
  ·simp; omega
 unfold nM
 refine tS (gU ?_) (tS (gU (sP (aHi (.inr (.inl rfl)) ⟨by decide, by decide⟩ ⟨by decide, by decide⟩ ⟨by decide, by decide⟩))) (tS (tT ?_) (gU (aMs (aHi (.inl rfl) ⟨by decide, by decide⟩ ⟨by decide, by decide⟩ ⟨by decide, by decide⟩) (aOj ho hr)))))
 ·unfold mD
  by_cases h : i.k ≤ 4095
  ·rw [if_pos h]; exact sP (aOh ha ⟨hk.1, h⟩)
  ·rw [if_neg h]
   intro j hj
   rcases List.mem_append.1 hj with hj | hj
   ·exact xC 28 ⟨by decide, by decide⟩ _ j hj
   ·exact sP (rt3 (.inl rfl) ⟨by decide, by decide⟩ (by omega) ⟨by decide, by decide⟩) j hj
 ·refine aMX (.inr rfl) ⟨by decide, by decide⟩ ?_
  rw [mP, mP]
  simp only [List.length_singleton]
  omega
theorem aCZ {P : List Nat} {b : Nat} {e : Int} {i : WI} {R n : Nat} (h : i.Good R n) (hR : R ≤ 28) (hP : ∀ x ∈ P, x ≤ 90000) (hb : b ≤ 90000) : aAK P b (iH e i) := by
 have hPt : ∀ t : Int, ((P.getD t.toNat 0 : Nat) : Int) ≤ 90000 := fun t => by
  rw [List.getD_eq_getElem?_getD]
  cases hq : P[t.toNat]? with
  | none => simp
  | some x => have := hP x (List.mem_of_getElem? hq); simp; omega
 obtain ⟨ha, hdbc⟩ := wI h hR
 have hsh := h.ok2.sh
 have hmem := h.mem
 have hhalt := h.halt
 have h20 := h.ok2.ok.op
 obtain ⟨op, d, a, b2, c, k⟩ := i
 simp only at ha hdbc hsh hmem hhalt h20
 rcases aDF h20 with rfl | rfl | rfl | rfl | rfl | rfl | rfl | rfl | rfl | rfl | rfl | rfl | rfl | rfl | rfl | rfl | rfl | rfl | rfl | rfl
 ·exact gU (xC d (Rw.le (hdbc (by decide)).1 (by decide)) k)
 ·exact gU (sP (rt3 (by omega) (Rw.le (hdbc (by decide)).1 (by decide)) (Rw.le (ha (by decide) (by decide)) (by decide)) ⟨by decide, by decide⟩))
 ·exact gU (sP (rt3 (by omega) (Rw.le (hdbc (by decide)).1 (by decide)) (Rw.le (ha (by decide) (by decide)) (by decide)) (Rw.le (hdbc (by decide)).2.1 (by decide))))
 ·exact gU (sP (rt3 (by omega) (Rw.le (hdbc (by decide)).1 (by decide)) (Rw.le (ha (by decide) (by decide)) (by decide)) (Rw.le (hdbc (by decide)).2.1 (by decide))))
 ·exact gU (sP (aOk (hdbc (by decide)).1 (ha (by decide) (by decide)) (hdbc (by decide)).2.1))
 ·exact gU (sP (rt3 (by omega) (Rw.le (hdbc (by decide)).1 (by decide)) (Rw.le (ha (by decide) (by decide)) (by decide)) (Rw.le (hdbc (by decide)).2.1 (by decide))))
 ·exact gU (sP (rt3 (by omega) (Rw.le (hdbc (by decide)).1 (by decide)) (Rw.le (ha (by decide) (by decide)) (by decide)) (Rw.le (hdbc (by decide)).2.1 (by decide))))
 ·exact gU (sP (rt3 (by omega) (Rw.le (hdbc (by decide)).1 (by decide)) (Rw.le (ha (by decide) (by decide)) (by decide)) (Rw.le (hdbc (by decide)).2.1 (by decide))))
 ·exact gU (sP (rt3 (by omega) (Rw.le (hdbc (by decide)).1 (by decide)) (Rw.le (ha (by decide) (by decide)) (by decide)) (Rw.le (hdbc (by decide)).2.1 (by decide))))
 ·exact gU (sP (aHi (.inl rfl) (Rw.le (hdbc (by decide)).1 (by decide)) (Rw.le (ha (by decide) (by decide)) (by decide)) (hsh (by decide) (by decide))))
 ·exact gU (sP (aHi (.inr (.inl rfl)) (Rw.le (hdbc (by decide)).1 (by decide)) (Rw.le (ha (by decide) (by decide)) (by decide)) (hsh (by decide) (by decide))))
 ·exact gU (sP (aHi (.inr (.inr rfl)) (Rw.le (hdbc (by decide)).1 (by decide)) (Rw.le (ha (by decide) (by decide)) (by decide)) (hsh (by decide) (by decide))))
 ·exact gU (aMs (aLJ (ha (by decide) (by decide)) (Rw.le (hdbc (by decide)).2.1 (by decide))) (aMZ (hdbc (by decide)).1))
 ·exact gU (aMs (aLJ (ha (by decide) (by decide)) ⟨by decide, by decide⟩) (aMY (hdbc (by decide)).1 (hdbc (by decide)).2.1 (hdbc (by decide)).2.2))
 ·exact xW (.inl rfl) (hdbc (by decide)).1 (ha (by decide) (by decide)) (hmem (by omega)) hP hb
 ·exact xW (.inr rfl) (hdbc (by decide)).2.1 (ha (by decide) (by decide)) (hmem (by omega)) hP hb
 ·exact tT (rtB (by have := hPt k; dsimp only; omega))
 ·exact tT (aMX (.inl rfl) (Rw.le (ha (by decide) (by decide)) (by decide)) (by have := hPt k; dsimp only; omega))
 ·exact tT (aMX (.inr rfl) (Rw.le (ha (by decide) (by decide)) (by decide)) (by have := hPt k; dsimp only; omega))
 ·exact gU (sP (aOi (hhalt rfl)))
theorem zQ {P : List Nat} {e : Int} {R n : Nat} (hR : R ≤ 28) (hP : ∀ x ∈ P, x ≤ 90000) : ∀ (ws : List WI) (b : Nat), (∀ w ∈ ws, w.Good R n) → b + 9 * ws.length ≤ 90000 → aAK P b (iC e ws)
 | [], b, _, _ => fun i hi => by simp [iC, mM] at hi
 | w :: ws, b, hw, hb => by
  simp only [List.length_cons] at hb
  have hc := tA e w
  exact tS (aCZ (hw w (List.mem_cons_self ..)) hR hP (by omega)) (zQ hR hP ws _ (fun x hx => hw x (List.mem_cons_of_mem _ hx)) (by omega))
theorem aGe (e : Int) : ∀ (ws : List WI) (b : Nat), ∀ x ∈ wQ e b ws, x ≤ b + 9 * ws.length
 | [], b, x, hx => by cases hx
 | w :: ws, b, x, hx => by
  have hc := tA e w
  simp only [wQ, List.mem_cons, List.length_cons] at hx ⊢
  rcases hx with rfl | hx
  ·omega
  ·have := aGe e ws _ x hx; omega
theorem aBt (ws : List WI) : ∀ x ∈ kW ws, x ≤ 9 * ws.length := by
 intro x hx
 unfold kW at hx
 rcases List.mem_append.1 hx with hx | hx
 ·have := aGe _ _ _ x hx; omega
 ·rw [List.mem_singleton.1 hx]; exact rS _ _
theorem tE {ws : List WI} {R : Nat} (hR : R ≤ 28) (hw : ∀ w ∈ ws, w.Good R ws.length) (hl : ws.length ≤ 10000) : ∀ i ∈ aCr ws, aU i = true :=
 zQ hR (fun x hx => by have := aBt ws x hx; omega) ws 0 hw (by omega)
theorem aFQ {e : Int} {m : Nat} (he : 0 ≤ e ∧ e ≤ m) {R n : Nat} (hn : n ≤ m) : ∀ (ws : List WI) (b : Nat), (∀ w ∈ ws, w.Good R n) → ∀ p ∈ nC b (iC e ws), p.1 < b + (iC e ws).length ∧ 0 ≤ p.2 ∧ p.2 ≤ m
 | [], b, _, p, hp => by simp [iC, nC] at hp
 | w :: ws, b, hw, p, hp => by
  simp only [iC, uN, List.mem_append, List.length_append] at hp ⊢
  rcases hp with hp | hp
  ·have key : ∀ (L : JL) (b : Nat), (∀ q ∈ L, ∀ t, q.2 = some t → 0 ≤ t ∧ t ≤ m) → ∀ p ∈ nC b L, p.1 < b + L.length ∧ 0 ≤ p.2 ∧ p.2 ≤ m := by
    intro L
    induction L with
    | nil => intro b _ p hp; simp [nC] at hp
    | cons q L ih =>
     intro b hq p hp
     obtain ⟨i, o⟩ := q
     cases o with
     | none =>
      have := ih (b + 1) (fun q h => hq q (List.mem_cons_of_mem _ h)) p hp
      simp only [List.length_cons]; omega
     | some t =>
      simp only [nC, List.mem_cons] at hp
      rcases hp with rfl | hp
      ·have := hq _ (List.mem_cons_self ..) t rfl
       simp only [List.length_cons]; omega
      ·have := ih (b + 1) (fun q h => hq q (List.mem_cons_of_mem _ h)) p hp
       simp only [List.length_cons]; omega
   have pl : ∀ l : List MI, ∀ q ∈ gS l, ∀ t, q.2 = some t → 0 ≤ t ∧ t ≤ m := fun l q hq t ht => by
    unfold gS at hq
    obtain ⟨i, _, rfl⟩ := List.mem_map.1 hq
    cases ht
   have hk := (hw w (List.mem_cons_self ..)).ok2.ok.k
   have on : ∀ (x : MI) (z : Int), 0 ≤ z ∧ z ≤ m → ∀ q ∈ [(x, some z)], ∀ t, q.2 = some t → 0 ≤ t ∧ t ≤ m := fun x z hz q hq t ht => by
    rw [List.mem_singleton.1 hq] at ht; cases ht; exact hz
   have ap : ∀ L M : JL, (∀ q ∈ L, ∀ t, q.2 = some t → 0 ≤ t ∧ t ≤ m) → (∀ q ∈ M, ∀ t, q.2 = some t → 0 ≤ t ∧ t ≤ m) → (∀ q ∈ L ++ M, ∀ t, q.2 = some t → 0 ≤ t ∧ t ≤ m) := fun L M h1 h2 q hq => by
    rcases List.mem_append.1 hq with hq | hq
    ·exact h1 q hq
    ·exact h2 q hq
   have tc : ∀ op r : Int, ∀ q ∈ nM op r w e, ∀ t, q.2 = some t → 0 ≤ t ∧ t ≤ m := fun op r => ap _ _ (pl _) (ap _ _ (pl _) (ap _ _ (on _ _ he) (pl _)))
   have all : ∀ q ∈ iH e w, ∀ t, q.2 = some t → 0 ≤ t ∧ t ≤ m := by
    have ite : ∀ (c : Prop) [Decidable c] (L M : JL), (c → ∀ q ∈ L, ∀ t, q.2 = some t → 0 ≤ t ∧ t ≤ m) → (∀ q ∈ M, ∀ t, q.2 = some t → 0 ≤ t ∧ t ≤ m) → ∀ q ∈ (if c then L else M), ∀ t, q.2 = some t → 0 ≤ t ∧ t ≤ m := fun c _ L M h1 h2 => by
     split
     ·rename_i hc; exact h1 hc
     ·exact h2
    unfold iH
    iterate 14 refine ite _ _ _ (fun _ => pl _) ?_
    refine ite _ _ _ (fun _ => tc _ _) ?_
    refine ite _ _ _ (fun _ => tc _ _) ?_
    refine ite _ _ _ (fun h => on _ _ (by have := hk (by omega) (by omega); omega)) ?_
    refine ite _ _ _ (fun h => on _ _ (by have := hk (by omega) (by omega); omega)) ?_
    refine ite _ _ _ (fun h => on _ _ (by have := hk (by omega) (by omega); omega)) ?_
    refine ite _ _ _ (fun _ => pl _) ?_
    intro q hq; cases hq
   have := key _ b all p hp
   omega
  ·have := aFQ he hn ws (b + (iH e w).length) (fun x hx => hw x (List.mem_cons_of_mem _ hx)) p hp
   omega
section
variable {cs : List Int} {fuel : Int} {f : Nat} {s s2 s' : QS} {i : MI}
theorem vN (h1 : 0 ≤ s.at_ ∧ s.at_ < cs.length) (h2 : (s.steps : Int) ≠ fuel) (ho : ofF (cs.getD s.at_.toNat 0) = some i) (ha : s.tick.next.act i = (s2, true)) : nT cs fuel (f + 1) s = nT cs fuel f s2 := by
 simp only [nT]
 rw [if_neg (by omega), if_neg h2]
 have e : s.tick.step (cs.getD s.at_.toNat 0) = (s2, true) := by unfold QS.step; rw [ho]; exact ha
 rw [e]
theorem aDY (h1 : 0 ≤ s.at_ ∧ s.at_ < cs.length) (h2 : (s.steps : Int) ≠ fuel) (ho : ofF (cs.getD s.at_.toNat 0) = some i) (ha : s.tick.next.act i = (s2, false)) : nT cs fuel (f + 1) s = some s2 := by
 simp only [nT]
 rw [if_neg (by omega), if_neg h2]
 have e : s.tick.step (cs.getD s.at_.toNat 0) = (s2, false) := by unfold QS.step; rw [ho]; exact ha
 rw [e]
theorem aIL (h1 : s.at_ < 0 ∨ (cs.length : Int) ≤ s.at_) : nT cs fuel (f + 1) s = some { s with code := 3 } := by
 simp only [nT]
 rw [if_pos h1]
end
section
variable {cs : List Int} {fuel : Int} {f : Nat} {cd : Int} {mem : List Nat} {x0 x1 y z : Nat} {lk : List (Int × Int)} {st : Nat} {fl : FL} {a : Int}
end
def At (cs : List Int) (p : Int) (i : MI) : Prop := 0 ≤ p ∧ p < cs.length ∧ ofF (cs.getD p.toNat 0) = some i
def pG (cs : List Int) (fuel : Int) (q : QS) (m : Nat) (q2 : QS) : Prop := ∀ f, nT cs fuel (f + m) q = nT cs fuel f q2
def aCP (cs : List Int) (fuel : Int) (q : QS) (m : Nat) (q2 : QS) : Prop := ∀ f, nT cs fuel (f + m) q = some q2
section
variable {cs : List Int} {fuel : Int} {cd : Int} {mem : List Nat} {r : List Nat} {lk : List (Int × Int)} {st : Nat} {fl : FL} {p : Int} {i : MI} {q q2 q3 : QS} {m n : Nat}
theorem pG.refl : pG cs fuel q 0 q := fun f => rfl
theorem pG.trans (h : pG cs fuel q m q2) (h2 : pG cs fuel q2 n q3) : pG cs fuel q (m + n) q3 := fun f => by
 rw [show f + (m + n) = f + n + m by omega, h, h2]
theorem pG.ends (h : pG cs fuel q m q2) (h2 : aCP cs fuel q2 n q3) : aCP cs fuel q (m + n) q3 := fun f => by
 rw [show f + (m + n) = f + n + m by omega, h, h2]
theorem wY (h : At cs p i) (ho : i.op ≤ 17) (hs : (st : Int) < fuel) : pG cs fuel ⟨cd, mem, r, lk, st, fl, p⟩ 1 ⟨cd, mem, (cY i r fl).1, lk ++ [(1, p)], st + 1, (cY i r fl).2, p + 1⟩ := fun f => by
 refine vN ⟨h.1, h.2.1⟩ (show ((st : Nat) : Int) ≠ fuel by omega) h.2.2 ?_
 unfold QS.act
 rw [if_neg (by omega), if_neg (by omega), if_neg (by omega)]
 rfl
theorem aOx {k : Int} (h : At cs p ⟨20, 0, 0, 0, 0, k⟩) (hs : (st : Int) < fuel) : pG cs fuel ⟨cd, mem, r, lk, st, fl, p⟩ 1 ⟨cd, mem, r, lk ++ [(1, p)], st + 1, fl, p + k⟩ := fun f => by
 refine vN ⟨h.1, h.2.1⟩ (show ((st : Nat) : Int) ≠ fuel by omega) h.2.2 ?_
 unfold QS.act
 rw [if_neg (show ¬ ((20 : Int) = 18 ∨ (20 : Int) = 19) by decide), if_pos (show (20 : Int) = 20 ∨ (20 : Int) = 21 ∨ (20 : Int) = 22 ∨ (20 : Int) = 23 by decide)]
 unfold QS.branch
 rw [if_pos rfl]
 have : p + k = p + 1 + (k - 1) := by omega
 rw [this]; rfl
theorem aLk {op d k : Int} (ho : op = 22 ∨ op = 23) (g : Bool) (hg : g = (if op = 22 then decide (cK r d = 0) else decide (cK r d ≠ 0))) (h : At cs p ⟨op, d, 0, 0, 0, k⟩) (hs : (st : Int) < fuel) :
  pG cs fuel ⟨cd, mem, r, lk, st, fl, p⟩ 1 ⟨cd, mem, r, lk ++ [(1, p)] ++ [(2, if g = true then 1 else 0)], st + 1, fl, if g = true then p + k else p + 1⟩ := fun f => by
 refine vN ⟨h.1, h.2.1⟩ (show ((st : Nat) : Int) ≠ fuel by omega) h.2.2 ?_
 have e : (QS.next (QS.tick ⟨cd, mem, r, lk, st, fl, p⟩)).goes ⟨op, d, 0, 0, 0, k⟩ = g := by
  rw [hg]
  unfold QS.goes
  rw [if_neg (show ¬ op = 21 by omega)]; rfl
 unfold QS.act
 rw [if_neg (show ¬ (op = 18 ∨ op = 19) by omega), if_pos (show op = 20 ∨ op = 21 ∨ op = 22 ∨ op = 23 by omega)]
 unfold QS.branch
 rw [if_neg (show ¬ op = 20 by omega), e]
 cases g
 ·rfl
 ·have : p + k = p + 1 + (k - 1) := by omega
  simp only [if_true]
  rw [this]; rfl
theorem aLP {k : Int} (hk : k ≤ 2) (h : At cs p ⟨24, 0, 0, 0, 0, k⟩) (hs : (st : Int) < fuel) : aCP cs fuel ⟨cd, mem, r, lk, st, fl, p⟩ 1 ⟨k, mem, r, lk ++ [(1, p)], st + 1, fl, p + 1⟩ := fun f => by
 refine aDY ⟨h.1, h.2.1⟩ (show ((st : Nat) : Int) ≠ fuel by omega) h.2.2 ?_
 unfold QS.act
 rw [if_neg (show ¬ ((24 : Int) = 18 ∨ (24 : Int) = 19) by decide), if_neg (show ¬ ((24 : Int) = 20 ∨ (24 : Int) = 21 ∨ (24 : Int) = 22 ∨ (24 : Int) = 23) by decide), if_pos rfl]
 show (({ code := if k ≤ 2 then k else 3, mem := mem, regs := r, leaks := lk ++ [(1, p)], steps := st + 1, flags := fl, at_ := p + 1 } : QS), false) = _
 rw [if_pos hk]
theorem aHt (h : (cs.length : Int) ≤ p) : aCP cs fuel ⟨cd, mem, r, lk, st, fl, p⟩ 1 ⟨3, mem, r, lk, st, fl, p⟩ := fun f => aIL (Or.inr h)
theorem aBO {op d : Int} {y : Nat} (hy : y < 65536) (hr : cK r 28 = 8 * y) : (QS.next (QS.tick ⟨cd, mem, r, lk, st, fl, p⟩)).addr ⟨op, d, 28, 0, 0, 0⟩ = 8 * y := by
 show (cK r 28 + 8 * u64 0 % 18446744073709551616) % 18446744073709551616 = _
 rw [hr]
 have : u64 0 = 0 := rfl
 rw [this]; omega
theorem aNB {d : Int} {y : Nat} (h : At cs p ⟨18, d, 28, 0, 0, 0⟩) (hs : (st : Int) < fuel) (hy : y < 65536) (hr : cK r 28 = 8 * y) (hm : y < mem.length) :
  pG cs fuel ⟨cd, mem, r, lk, st, fl, p⟩ 1 ⟨cd, mem, fT r d (mem.getD y 0), lk ++ [(1, p)] ++ [(3, mI (8 * y))], st + 1, fl, p + 1⟩ := fun f => by
 refine vN ⟨h.1, h.2.1⟩ (show ((st : Nat) : Int) ≠ fuel by omega) h.2.2 ?_
 have ea := @aBO cd mem r lk st fl p 18 d y hy hr
 have hmm : (QS.next (QS.tick ⟨cd, mem, r, lk, st, fl, p⟩)).mem = mem := rfl
 unfold QS.act
 rw [if_pos (show (18 : Int) = 18 ∨ (18 : Int) = 19 by decide)]
 unfold QS.touch
 rw [ea, hmm]
 have e8 : 8 * y / 8 = y := by omega
 simp only
 rw [if_neg (show ¬ (8 * y % 8 ≠ 0 ∨ mem.length ≤ 8 * y / 8) by omega), if_pos trivial, e8]
 rfl
theorem aNC {d : Int} {y : Nat} (h : At cs p ⟨19, d, 28, 0, 0, 0⟩) (hs : (st : Int) < fuel) (hy : y < 65536) (hr : cK r 28 = 8 * y) (hm : y < mem.length) :
  pG cs fuel ⟨cd, mem, r, lk, st, fl, p⟩ 1 ⟨cd, mem.set y (cK r d), r, lk ++ [(1, p)] ++ [(3, mI (8 * y))], st + 1, fl, p + 1⟩ := fun f => by
 refine vN ⟨h.1, h.2.1⟩ (show ((st : Nat) : Int) ≠ fuel by omega) h.2.2 ?_
 have ea := @aBO cd mem r lk st fl p 19 d y hy hr
 have hmm : (QS.next (QS.tick ⟨cd, mem, r, lk, st, fl, p⟩)).mem = mem := rfl
 unfold QS.act
 rw [if_pos (show (19 : Int) = 18 ∨ (19 : Int) = 19 by decide)]
 unfold QS.touch
 rw [ea, hmm]
 have e8 : 8 * y / 8 = y := by omega
 simp only
 rw [if_neg (show ¬ (8 * y % 8 ≠ 0 ∨ mem.length ≤ 8 * y / 8) by omega), if_neg (show ¬ (19 : Int) = 18 by decide), e8]
 rfl
theorem aLQ {op d : Int} {y : Nat} (ho : op = 18 ∨ op = 19) (h : At cs p ⟨op, d, 28, 0, 0, 0⟩) (hs : (st : Int) < fuel) (hy : y < 65536) (hr : cK r 28 = 8 * y) (hm : mem.length ≤ y) :
  aCP cs fuel ⟨cd, mem, r, lk, st, fl, p⟩ 1 ⟨3, mem, r, lk ++ [(1, p)] ++ [(3, mI (8 * y))], st + 1, fl, p + 1⟩ := fun f => by
 refine aDY ⟨h.1, h.2.1⟩ (show ((st : Nat) : Int) ≠ fuel by omega) h.2.2 ?_
 have ea := @aBO cd mem r lk st fl p op d y hy hr
 have hmm : (QS.next (QS.tick ⟨cd, mem, r, lk, st, fl, p⟩)).mem = mem := rfl
 unfold QS.act
 rw [if_pos (show op = 18 ∨ op = 19 from ho)]
 unfold QS.touch
 rw [ea, hmm]
 have e8 : 8 * y / 8 = y := by omega
 simp only
 rw [if_pos (show (8 * y % 8 ≠ 0 ∨ mem.length ≤ 8 * y / 8) by omega)]
 rfl
end
def vU (p : Int) : Nat → List (Int × Int)
 | 0 => []
 | c + 1 => (1, p) :: vU (p + 1) c
theorem aCl (p : Int) : ∀ a b : Nat, vU p (a + b) = vU p a ++ vU (p + a) b
 | 0, b => by simp [vU]
 | a + 1, b => by
  rw [show a + 1 + b = a + b + 1 by omega]
  simp only [vU, aCl (p + 1) a b, List.cons_append]
  rw [show p + 1 + (a : Int) = p + ((a + 1 : Nat) : Int) by omega]
theorem aJX (p : Int) : vU p 1 = [(1, p)] := rfl
def lkA (ws : List WI) (x : Int) : List (Int × Int) :=
 if (ws.getD x.toNat default).op = 15 ∨ (ws.getD x.toNat default).op = 16 ∨ (ws.getD x.toNat default).op = 18 ∨ (ws.getD x.toNat default).op = 19 then []
 else vU (lL ws x.toNat) (iH ws.length (ws.getD x.toNat default)).length
def lkT (P : Int) (c : Nat) (y : Nat) : List (Int × Int) :=
 vU P (c + 2) ++ (if y / 65536 ≠ 0 then [(2, 1)] else [(2, 0), (1, P + c + 2), (1, P + c + 3), (3, mI (8 * y))])
def lkB (ws : List WI) (pc x : Int) : List (Int × Int) :=
 if (ws.getD pc.toNat default).op = 18 ∨ (ws.getD pc.toNat default).op = 19 then [(1, (lL ws pc.toNat : Int)), (2, x)]
 else lkT (lL ws pc.toNat) (mD (ws.getD pc.toNat default)).length (u64 x)
def mlk (ws : List WI) : Int → List (Int × Int) → List (Int × Int)
 | _, [] => []
 | pc, (k, x) :: T => if k = 1 then lkA ws x ++ mlk ws x T else lkB ws pc x ++ mlk ws pc T
theorem wG {cs : List Int} {fuel cd : Int} {mem : List Nat} {fl : FL} {d : Int} : ∀ (L : List MI) (p : Int) (r : List Nat) (lk : List (Int × Int)) (st : Nat), (∀ i ∈ L, isC d i) → (∀ (t : Nat) (i : MI), L[t]? = some i → At cs (p + t) i) → (st : Int) + L.length ≤ fuel →
  pG cs fuel ⟨cd, mem, r, lk, st, fl, p⟩ L.length ⟨cd, mem, aCy fl L r, lk ++ vU p L.length, st + L.length, fl, p + L.length⟩
 | [], p, r, lk, st, _, _, _ => by
  have e : p + (([] : List MI).length : Int) = p := by simp
  rw [e]
  show pG cs fuel _ 0 ⟨cd, mem, r, lk ++ [], st, fl, p⟩
  rw [List.append_nil]
  exact pG.refl
 | i :: L, p, r, lk, st, hL, hA, hst => by
  obtain ⟨hr, hop⟩ := hL i (List.mem_cons_self ..)
  simp only [List.length_cons] at hst ⊢
  have e2 : (cY i r fl).2 = fl := by
   unfold cY
   rw [if_neg (by omega), if_neg (by omega), if_neg (by omega)]
  have a0 : At cs p i := by
   have := hA 0 i rfl
   simpa using this
  have g1 := wY (cd := cd) (mem := mem) (r := r) (lk := lk) (st := st) (fl := fl) a0 (by omega) (show ((st : Nat) : Int) < fuel by omega)
  rw [e2] at g1
  have g2 := wG (cs := cs) (fuel := fuel) (cd := cd) (mem := mem) (fl := fl) (d := d) L (p + 1) (cY i r fl).1 (lk ++ [(1, p)]) (st + 1) (fun j hj => hL j (List.mem_cons_of_mem _ hj)) (fun t j hj => by
   have := hA (t + 1) j (by simpa using hj)
   rw [show p + 1 + (t : Int) = p + ((t + 1 : Nat) : Int) by omega]; exact this) (by omega)
  have g3 := g1.trans g2
  rw [show 1 + L.length = L.length + 1 by omega, show st + 1 + L.length = st + (L.length + 1) by omega, show p + 1 + (L.length : Int) = p + ((L.length + 1 : Nat) : Int) by omega, List.append_assoc] at g3
  exact g3
structure Sim (ws : List WI) (R : Nat) (s : MS) (q : QS) : Prop where
 rl : q.regs.length = 31
 rg : ∀ j, j < R → q.regs.getD j 0 = s.regs.getD j 0
 mem : q.mem = s.mem
 at_ : q.at_ = (lL ws s.at_ : Int)
def oU (ws : List WI) : List Int := (aCr ws).map cS
def lZ (fuel : Int) (ws : List WI) (R : Nat) (s : MS) (q : QS) (s2 : MS) (b : Bool) : Prop :=
 ∃ (m : Nat) (q2 : QS) (Y X : List (Int × Int)), m ≤ 10 ∧ s2.leaks = s.leaks ++ Y ∧ q2.leaks = q.leaks ++ X ∧ (∀ pc T, mlk ws pc (Y ++ T) = X ++ mlk ws s.at_ T) ∧ q2.mem = s2.mem ∧ q2.steps ≤ q.steps + 9 ∧
  (b = true → pG (oU ws) fuel q m q2 ∧ Sim ws R s2 q2) ∧ (b = false → aCP (oU ws) fuel q m q2 ∧ q2.code = s2.code)
theorem mF (l : List Nat) (i j x : Nat) (hi : i < l.length) : (l.set i x).getD j 0 = if i = j then x else l.getD j 0 := by
 rw [List.getD_eq_getElem?_getD, List.getD_eq_getElem?_getD, List.getElem?_set]
 by_cases h : i = j
 ·rw [if_pos h, if_pos h, if_pos hi]; rfl
 ·rw [if_neg h, if_neg h]
section
variable {ws : List WI} {R : Nat} {fuel : Int} {s : MS} {q : QS} {i : WI}
theorem vO (h : Sim ws R s q) {a : Int} (h0 : 0 ≤ a) (h1 : a < R) (hR : R ≤ 28) : cK q.regs a = s.rg a := by
 unfold cK MS.rg
 rw [if_neg (by omega)]
 exact h.rg _ (by omega)
theorem aGw {r r2 : List Nat} (hl : r.length = R) (hl2 : r2.length = 31) (hR : R ≤ 28) (h : ∀ j, j < R → r2.getD j 0 = r.getD j 0) (d x : Nat) (hd : d < R) : ∀ j, j < R → (r2.set d x).getD j 0 = (r.set d x).getD j 0 := fun j hj => by
 rw [mF _ _ _ _ (by omega), mF _ _ _ _ (by omega), h j hj]
theorem aFF (hR : R ≤ 28) (hw : ∀ w ∈ ws, w.Good R ws.length) (hl : ws.length ≤ 10000) {j : Nat} (hj : j < ws.length) {t : Nat} {i : MI} (hC : (mM (kW ws) (lL ws j) (iH ws.length (ws.getD j default)))[t]? = some i) :
  (oU ws).getD ((lL ws j : Int) + t).toNat 0 = cS i ∧ aU i = true ∧ (0 : Int) ≤ (lL ws j : Int) + t ∧ (lL ws j : Int) + t < ((oU ws).length : Int) := by
 obtain ⟨pre, post, h1, h2⟩ := aKg ws j hj
 have ht := (List.getElem?_eq_some_iff.1 hC).1
 have e : (aCr ws)[lL ws j + t]? = some i := by
  rw [h1, List.getElem?_append_right (by omega), h2, Nat.add_sub_cancel_left, List.getElem?_append_left ht, hC]
 have hlt := (List.getElem?_eq_some_iff.1 e).1
 refine ⟨?_, tE hR hw hl i (List.mem_of_getElem? e), by omega, by unfold oU; rw [List.length_map]; omega⟩
 rw [show ((lL ws j : Int) + t).toNat = lL ws j + t by omega]
 unfold oU
 rw [List.getD_eq_getElem?_getD, List.getElem?_map, e]; rfl
theorem tW (hR : R ≤ 28) (hw : ∀ w ∈ ws, w.Good R ws.length) (hl : ws.length ≤ 10000) {j : Nat} (hj : j < ws.length) {t : Nat} {i : MI} (hC : (mM (kW ws) (lL ws j) (iH ws.length (ws.getD j default)))[t]? = some i) (hn : ¬ (i.op = 12 ∧ i.imm = 0)) :
  At (oU ws) ((lL ws j : Int) + t) i := by
 obtain ⟨h1, h2, h3, h4⟩ := aFF hR hw hl hj hC
 exact ⟨h3, h4, by rw [h1]; exact aCp h2 hn⟩
theorem aHs (hR : R ≤ 28) (hw : ∀ w ∈ ws, w.Good R ws.length) (hl : ws.length ≤ 10000) {j : Nat} (hj : j < ws.length) {t : Nat} {d n : Int} (hd : Rw d) (hn : Rw n) (hC : (mM (kW ws) (lL ws j) (iH ws.length (ws.getD j default)))[t]? = some ⟨12, d, n, 0, 0, 0⟩) :
  At (oU ws) ((lL ws j : Int) + t) ⟨13, d, n, 0, 0, 0⟩ := by
 obtain ⟨h1, h2, h3, h4⟩ := aFF hR hw hl hj hC
 refine ⟨h3, h4, ?_⟩
 rw [h1, aJn]
 exact aCp (aHi (.inr (.inl rfl)) (Rw.le hd (by decide)) (Rw.le hn (by decide)) ⟨by decide, by decide⟩) (show ¬ ((13 : Int) = 12 ∧ (0 : Int) = 0) by decide)
theorem aHo (h : 1 ≤ i.op ∧ i.op ≤ 14) (hv : (jL i.op i.k (s.rg i.a) (s.rg i.b) (s.rg i.c)).2 = true) :
  s.tick.step i = (⟨s.regs.set i.d.toNat (jL i.op i.k (s.rg i.a) (s.rg i.b) (s.rg i.c)).1, s.at_ + 1, s.code, s.mem, s.leaks ++ [(1, (s.at_ : Int))], s.steps + 1⟩, true) := by
 have e : ∀ j, MS.rg ({ s.tick with at_ := s.tick.at_ + 1 } : MS) j = s.rg j := fun j => rfl
 unfold MS.step
 simp only [e]
 rw [if_neg (by omega), if_neg (by omega), if_neg (by omega), if_pos hv]
 rfl
theorem aAy (hsim : Sim ws R s q) (hs : s.Ok R) (hR : R ≤ 28) (hj : s.at_ < ws.length) (hi : ws.getD s.at_ default = i) (hop : 1 ≤ i.op ∧ i.op ≤ 14) (hv : (jL i.op i.k (s.rg i.a) (s.rg i.b) (s.rg i.c)).2 = true) (hd : 0 ≤ i.d ∧ i.d < R)
  {c : Nat} (hc : (iH ws.length i).length = c) (hc9 : c ≤ 9) {fl2 : FL} (hg : pG (oU ws) fuel q c ⟨q.code, q.mem, q.regs.set i.d.toNat (jL i.op i.k (s.rg i.a) (s.rg i.b) (s.rg i.c)).1, q.leaks ++ vU (lL ws s.at_) c, q.steps + c, fl2, (lL ws s.at_ : Int) + c⟩) :
  ∃ s2 b, s.tick.step i = (s2, b) ∧ lZ fuel ws R s q s2 b := by
 refine ⟨_, _, aHo hop hv, c, ⟨q.code, q.mem, q.regs.set i.d.toNat (jL i.op i.k (s.rg i.a) (s.rg i.b) (s.rg i.c)).1, q.leaks ++ vU (lL ws s.at_) c, q.steps + c, fl2, (lL ws s.at_ : Int) + c⟩, [(1, (s.at_ : Int))], vU (lL ws s.at_) c, by omega, rfl, rfl, fun pc T => ?_, hsim.mem, (by show q.steps + c ≤ q.steps + 9; omega), fun _ => ⟨hg, ?_⟩, fun h => by cases h⟩
 ·show (if (1 : Int) = 1 then lkA ws s.at_ ++ mlk ws s.at_ T else _) = _
  rw [if_pos rfl]
  unfold lkA
  rw [Int.toNat_natCast, hi, if_neg (by omega), hc]
 ·refine ⟨by simpa using hsim.rl, ?_, hsim.mem, ?_⟩
  ·exact aGw hs.len hsim.rl hR hsim.rg _ _ (by omega)
  ·show (lL ws s.at_ : Int) + c = (lL ws (s.at_ + 1) : Int)
   rw [zF ws s.at_ hj, hi, hc]; omega
end
theorem aKF {r : List Nat} {d : Int} {x : Nat} (h : Rw d) : fT r d x = r.set d.toNat x := by
 unfold Rw at h
 unfold fT; rw [if_neg (by omega)]
theorem aEE (r : List Nat) : cK r 31 = 0 := rfl
theorem wT {op k : Int} {a : Nat} (h : 0 ≤ k ∧ k ≤ 63) : qG op k a = if op = 10 then (a * 2 ^ k.toNat % 18446744073709551616, true) else if op = 11 then (a / 2 ^ k.toNat, true) else (aCA a k.toNat, true) := by
 unfold qG; rw [if_neg (by omega)]
section
variable (d a b k : Int) (r : List Nat) (fl : FL)
theorem aHB : (cY ⟨6, d, a, 31, 0, 0⟩ r fl).1 = fT r d (cK r a ||| cK r 31) := by simp [cY, jB, jF]
theorem aHA : (cY ⟨3, d, a, b, 0, 0⟩ r fl).1 = fT r d ((cK r a + cK r b) % 18446744073709551616) := by simp [cY, jB, jF]
theorem aLW : (cY ⟨4, d, a, b, 0, 0⟩ r fl).1 = fT r d ((cK r a + 18446744073709551616 - cK r b) % 18446744073709551616) := by simp [cY, jB, jF]
theorem aMa : (cY ⟨8, d, a, b, 31, 0⟩ r fl).1 = fT r d ((cK r a * cK r b % 18446744073709551616 + cK r 31) % 18446744073709551616) := by simp [cY, jB, jF]
theorem aMb : (cY ⟨9, d, a, b, 0, 0⟩ r fl).1 = fT r d (cK r a * cK r b / 18446744073709551616) := by simp [cY, jB, jF]
theorem aLX : (cY ⟨5, d, a, b, 0, 0⟩ r fl).1 = fT r d (cK r a &&& cK r b) := by simp [cY, jB, jF]
theorem aLY : (cY ⟨6, d, a, b, 0, 0⟩ r fl).1 = fT r d (cK r a ||| cK r b) := by simp [cY, jB, jF]
theorem aLZ : (cY ⟨7, d, a, b, 0, 0⟩ r fl).1 = fT r d (cK r a ^^^ cK r b) := by simp [cY, jB, jF]
theorem aFI : (cY ⟨12, d, a, 0, 0, k⟩ r fl).1 = fT r d (cK r a * 2 ^ u64 k % 18446744073709551616) := by simp [cY, jB, jF]
theorem aCc : (cY ⟨13, d, a, 0, 0, k⟩ r fl).1 = fT r d (cK r a / 2 ^ u64 k) := by simp [cY, jB, jF]
theorem aJF : (cY ⟨14, d, a, 0, 0, k⟩ r fl).1 = fT r d (aCA (cK r a) (u64 k)) := by simp [cY, jB, jF]
theorem aJG : (cY ⟨16, d, a, b, 1, 0⟩ r fl).1 = fT r d (if (!fl.z) = true then cK r a else cK r b) := by simp [cY, jB, jF]
theorem aJH : (cY ⟨17, d, 0, 0, 3, 0⟩ r fl).1 = fT r d (if (!fl.c) = true then 1 else 0) := by simp [cY, jB, jF]
theorem aJE : (cY ⟨10, d, a, 0, 0, k⟩ r fl).1 = fT r d ((cK r a + u64 k) % 18446744073709551616) := by simp [cY, jB, jF]
theorem aMn (x y : Nat) : (sU x y).c = decide (y ≤ x) := by simp [sU, aFT]
theorem aMo (x y : Nat) : (sU x y).z = decide ((x + 18446744073709551616 - y) % 18446744073709551616 = 0) := by simp only [sU, aFT]
theorem aFJ : cY ⟨15, 0, a, b, 0, 0⟩ r fl = (r, sU (cK r a) (cK r b)) := by simp [cY]
end
theorem aNd (k : Int) (x y z : Nat) : jL 2 k x y z = (x, true) := by simp [jL]
theorem aNe (k : Int) (x y z : Nat) : jL 3 k x y z = ((x + y) % 18446744073709551616, true) := by simp [jL]
theorem aNf (k : Int) (x y z : Nat) : jL 4 k x y z = ((x + 18446744073709551616 - y) % 18446744073709551616, true) := by simp [jL]
theorem aNg (k : Int) (x y z : Nat) : jL 5 k x y z = (x * y % 18446744073709551616, true) := by simp [jL]
theorem aNh (k : Int) (x y z : Nat) : jL 6 k x y z = (x * y / 18446744073709551616, true) := by simp [jL]
theorem aNi (k : Int) (x y z : Nat) : jL 7 k x y z = (x &&& y, true) := by simp [jL]
theorem aNj (k : Int) (x y z : Nat) : jL 8 k x y z = (x ||| y, true) := by simp [jL]
theorem aNk (k : Int) (x y z : Nat) : jL 9 k x y z = (x ^^^ y, true) := by simp [jL]
theorem aKO (k : Int) (x y z : Nat) : jL 13 k x y z = (if x < y then 1 else 0, true) := by simp [jL]
theorem aKP (k : Int) (x y z : Nat) : jL 14 k x y z = (if x ≠ 0 then y else z, true) := by simp [jL]
section
variable {ws : List WI} {R : Nat} {fuel : Int} {s : MS} {q : QS} {i : WI}
theorem aHu (hR : R ≤ 28) (hw : ∀ w ∈ ws, w.Good R ws.length) (hl : ws.length ≤ 10000) {j : Nat} (hj : j < ws.length) {L : List MI} (hL : iH ws.length (ws.getD j default) = gS L) (t : Nat) {x : MI} (hx : L[t]? = some x) (hn : ¬ (x.op = 12 ∧ x.imm = 0)) : At (oU ws) ((lL ws j : Int) + t) x :=
 tW hR hw hl hj (by rw [hL, mN]; exact hx) hn
theorem lA (hsim : Sim ws R s q) (hs : s.Ok R) (hR : R ≤ 28) (hj : s.at_ < ws.length) (hi : ws.getD s.at_ default = i) (hst : (q.steps : Int) + 9 < fuel) (hop : 1 ≤ i.op ∧ i.op ≤ 14) (hv : (jL i.op i.k (s.rg i.a) (s.rg i.b) (s.rg i.c)).2 = true) (hd : 0 ≤ i.d ∧ i.d < R)
  (hc : (iH ws.length i).length = 1) {x : MI} (hA : At (oU ws) ((lL ws s.at_ : Int) + (0 : Nat)) x) (ho : x.op ≤ 17) (hx : (cY x q.regs q.flags).1 = q.regs.set i.d.toNat (jL i.op i.k (s.rg i.a) (s.rg i.b) (s.rg i.c)).1) :
  ∃ s2 b, s.tick.step i = (s2, b) ∧ lZ fuel ws R s q s2 b := by
 refine aAy hsim hs hR hj hi hop hv hd hc (by decide) (fl2 := (cY x q.regs q.flags).2) ?_
 have e0 : (lL ws s.at_ : Int) + (0 : Nat) = q.at_ := by rw [hsim.at_]; simp
 rw [e0] at hA
 have h1 := wY (cd := q.code) (mem := q.mem) (r := q.regs) (lk := q.leaks) (st := q.steps) (fl := q.flags) (fuel := fuel) hA ho (by omega)
 rw [hx] at h1
 have e1 : (lL ws s.at_ : Int) = q.at_ := hsim.at_.symm
 rw [e1]
 exact h1
theorem aEf (hsim : Sim ws R s q) (hs : s.Ok R) (hR : R ≤ 28) (hj : s.at_ < ws.length) (hi : ws.getD s.at_ default = i) (hst : (q.steps : Int) + 9 < fuel) (hop : 1 ≤ i.op ∧ i.op ≤ 14) (hv : (jL i.op i.k (s.rg i.a) (s.rg i.b) (s.rg i.c)).2 = true) (hd : 0 ≤ i.d ∧ i.d < R)
  (hc : (iH ws.length i).length = 2) {x y : MI} (hA : At (oU ws) ((lL ws s.at_ : Int) + (0 : Nat)) x) (hB : At (oU ws) ((lL ws s.at_ : Int) + (1 : Nat)) y) (ho : x.op ≤ 17) (ho2 : y.op ≤ 17) {fl : FL} (hx : cY x q.regs q.flags = (q.regs, fl)) (hy : (cY y q.regs fl).1 = q.regs.set i.d.toNat (jL i.op i.k (s.rg i.a) (s.rg i.b) (s.rg i.c)).1) :
  ∃ s2 b, s.tick.step i = (s2, b) ∧ lZ fuel ws R s q s2 b := by
 refine aAy hsim hs hR hj hi hop hv hd hc (by decide) (fl2 := (cY y q.regs fl).2) ?_
 have e0 : (lL ws s.at_ : Int) + (0 : Nat) = q.at_ := by rw [hsim.at_]; simp
 have e1 : (lL ws s.at_ : Int) + (1 : Nat) = q.at_ + 1 := by rw [hsim.at_]; simp
 rw [e0] at hA
 rw [e1] at hB
 have h1 := wY (cd := q.code) (mem := q.mem) (r := q.regs) (lk := q.leaks) (st := q.steps) (fl := q.flags) (fuel := fuel) hA ho (by omega)
 rw [hx] at h1
 have h2 := wY (cd := q.code) (mem := q.mem) (r := q.regs) (lk := q.leaks ++ [(1, q.at_)]) (st := q.steps + 1) (fl := fl) (fuel := fuel) hB ho2 (by push_cast; omega)
 rw [hy] at h2
 have e2 : (lL ws s.at_ : Int) = q.at_ := hsim.at_.symm
 rw [e2]
 have h3 := h1.trans h2
 rw [List.append_assoc, show q.at_ + 1 + 1 = q.at_ + ((2 : Nat) : Int) by omega] at h3
 exact h3
theorem aJh (hsim : Sim ws R s q) (hs : s.Ok R) (hR : R ≤ 28) (hw : ∀ w ∈ ws, w.Good R ws.length) (hl : ws.length ≤ 10000) (hj : s.at_ < ws.length) (hi : ws.getD s.at_ default = i) (hg : i.Good R ws.length) (hst : (q.steps : Int) + 9 < fuel) (hop : 1 ≤ i.op ∧ i.op ≤ 14) :
  ∃ s2 b, s.tick.step i = (s2, b) ∧ lZ fuel ws R s q s2 b := by
 obtain ⟨ha, hdbc⟩ := wI hg hR
 have hsh := hg.ok2.sh
 have hv := aGA (a := s.rg i.a) (b := s.rg i.b) (c := s.rg i.c) hop hsh
 have hd := hg.ok2.ok.d (by omega)
 have hb := hg.ok2.ok.b (by omega)
 have hc := hg.ok2.ok.c (by omega)
 have ha2 := hg.ok2.ok.a (by omega) (by omega)
 have ga := vO hsim ha2.1 ha2.2 hR
 have gb := vO hsim hb.1 hb.2 hR
 have gc := vO hsim hc.1 hc.2 hR
 have la := hs.rg i.a
 have lb := hs.rg i.b
 have lc := hs.rg i.c
 have hdR := (hdbc (by omega)).1
 have sF : ∀ x, fT q.regs i.d x = q.regs.set i.d.toNat x := fun x => aKF hdR
 obtain ⟨op, d, a, b, c, k⟩ := i
 simp only at hop
 have hop2 : op = 1 ∨ op = 2 ∨ op = 3 ∨ op = 4 ∨ op = 5 ∨ op = 6 ∨ op = 7 ∨ op = 8 ∨ op = 9 ∨ op = 10 ∨ op = 11 ∨ op = 12 ∨ op = 13 ∨ op = 14 := by omega
 have aP : ∀ (L : List MI), iH ws.length ⟨op, d, a, b, c, k⟩ = gS L → ∀ (t : Nat) (x : MI), L[t]? = some x → ¬ (x.op = 12 ∧ x.imm = 0) → At (oU ws) ((lL ws s.at_ : Int) + t) x := fun L hL t x hx hn => aHu hR hw hl hj (by rw [hi]; exact hL) t hx hn
 rcases hop2 with rfl | rfl | rfl | rfl | rfl | rfl | rfl | rfl | rfl | rfl | rfl | rfl | rfl | rfl
 ·
  have hcd := uC d (by unfold Rw at hdR; simp only at hdR; omega) (u64 k) (iW k) q.flags
  refine aAy hsim hs hR hj hi hop hv hd (c := (iN d (u64 k)).length) (mP _) (by have := (kF d (u64 k)).2; omega) (fl2 := q.flags) ?_
  have g := wG (cs := oU ws) (fuel := fuel) (cd := q.code) (mem := q.mem) (fl := q.flags) (d := d) (iN d (u64 k)) (lL ws s.at_) q.regs q.leaks q.steps hcd.1 (fun t x hx => aP _ rfl t x hx (by have := (hcd.1 x (List.mem_of_getElem? hx)).2; omega)) (by have := (kF d (u64 k)).2; omega)
  rw [hcd.2 q.regs hsim.rl, ← hsim.at_] at g
  have e1 : (lL ws s.at_ : Int) = q.at_ := hsim.at_.symm
  rw [e1]
  exact g
 ·refine lA hsim hs hR hj hi hst hop hv hd rfl (aP [_] rfl 0 _ rfl (by simp)) (by simp) ?_
  rw [aHB]
  rw [sF, ga, aEE, Nat.or_zero]
  simp only [aNd]
 ·refine lA hsim hs hR hj hi hst hop hv hd rfl (aP [_] rfl 0 _ rfl (by simp)) (by simp) ?_
  rw [aHA]
  rw [sF, ga, gb]
  simp only [aNe]
 ·refine lA hsim hs hR hj hi hst hop hv hd rfl (aP [_] rfl 0 _ rfl (by simp)) (by simp) ?_
  rw [aLW]
  rw [sF, ga, gb]
  simp only [aNf]
 ·refine lA hsim hs hR hj hi hst hop hv hd rfl (aP [_] rfl 0 _ rfl (by simp)) (by simp) ?_
  rw [aMa]
  rw [sF, ga, gb, aEE, Nat.add_zero, Nat.mod_mod]
  simp only [aNg]
 ·refine lA hsim hs hR hj hi hst hop hv hd rfl (aP [_] rfl 0 _ rfl (by simp)) (by simp) ?_
  rw [aMb]
  rw [sF, ga, gb]
  simp only [aNh]
 ·refine lA hsim hs hR hj hi hst hop hv hd rfl (aP [_] rfl 0 _ rfl (by simp)) (by simp) ?_
  rw [aLX]
  rw [sF, ga, gb]
  simp only [aNi]
 ·refine lA hsim hs hR hj hi hst hop hv hd rfl (aP [_] rfl 0 _ rfl (by simp)) (by simp) ?_
  rw [aLY]
  rw [sF, ga, gb]
  simp only [aNj]
 ·refine lA hsim hs hR hj hi hst hop hv hd rfl (aP [_] rfl 0 _ rfl (by simp)) (by simp) ?_
  rw [aLZ]
  rw [sF, ga, gb]
  simp only [aNk]
 ·have hk := hsh (by simp) (by simp)
  simp only at hk
  have ev : ∀ x y z, jL 10 k x y z = (x * 2 ^ k.toNat % 18446744073709551616, true) := fun x y z => wT hk
  have ek : u64 k = k.toNat := by unfold u64; omega
  by_cases h0 : k = 0
  ·subst h0
   refine lA hsim hs hR hj hi hst hop hv hd rfl (aHs hR hw hl hj hdR (ha (by simp) (by simp)) (t := 0) (by rw [hi]; rfl)) (by simp) ?_
   rw [aCc]
   rw [sF, ga, ek]
   simp only [ev]
   have e2 : (2 : Nat) ^ (0 : Int).toNat = 1 := rfl
   rw [e2, Nat.div_one, Nat.mul_one, Nat.mod_eq_of_lt la]
  ·refine lA hsim hs hR hj hi hst hop hv hd rfl (aP [_] rfl 0 _ rfl (by simp only; omega)) (by simp) ?_
   rw [aFI]
   rw [sF, ga, ek]
   simp only [ev]
 ·have hk := hsh (by simp) (by simp)
  simp only at hk
  have ev : ∀ x y z, jL 11 k x y z = (x / 2 ^ k.toNat, true) := fun x y z => wT hk
  have ek : u64 k = k.toNat := by unfold u64; omega
  refine lA hsim hs hR hj hi hst hop hv hd rfl (aP [_] rfl 0 _ rfl (by simp)) (by simp) ?_
  rw [aCc]
  rw [sF, ga, ek]
  simp only [ev]
 ·have hk := hsh (by simp) (by simp)
  simp only at hk
  have ev : ∀ x y z, jL 12 k x y z = (aCA x k.toNat, true) := fun x y z => wT hk
  have ek : u64 k = k.toNat := by unfold u64; omega
  refine lA hsim hs hR hj hi hst hop hv hd rfl (aP [_] rfl 0 _ rfl (by simp)) (by simp) ?_
  rw [aJF]
  rw [sF, ga, ek]
  simp only [ev]
 ·refine aEf hsim hs hR hj hi hst hop hv hd rfl (aP [_, _] rfl 0 _ rfl (by simp)) (aP [_, _] rfl 1 _ rfl (by simp)) (by simp) (by simp) (fl := sU (cK q.regs a) (cK q.regs b)) (aFJ ..) ?_
  rw [aJH, aMn]
  rw [sF, ga, gb]
  simp only [aKO]
  congr 1
  by_cases h : s.rg a < s.rg b
  ·rw [if_pos h, decide_eq_false (by omega)]; rfl
  ·rw [if_neg h, decide_eq_true (by omega)]; rfl
 ·refine aEf hsim hs hR hj hi hst hop hv hd rfl (aP [_, _] rfl 0 _ rfl (by simp)) (aP [_, _] rfl 1 _ rfl (by simp)) (by simp) (by simp) (fl := sU (cK q.regs a) (cK q.regs 31)) (aFJ ..) ?_
  have key : ∀ x y z : Nat, x < 18446744073709551616 → (if (!decide ((x + 18446744073709551616 - 0) % 18446744073709551616 = 0)) = true then y else z) = if x ≠ 0 then y else z := fun x y z hx => by
   have e : (x + 18446744073709551616 - 0) % 18446744073709551616 = x := by omega
   rw [e]
   by_cases h : x = 0 <;> simp [h]
  rw [aJG, aMo]
  rw [sF, ga, gb, gc, aEE, key _ _ _ la]
  simp only [aKP]
end
end Go.Proofs.YtdfglgnflldkpaaDoor.Mir
