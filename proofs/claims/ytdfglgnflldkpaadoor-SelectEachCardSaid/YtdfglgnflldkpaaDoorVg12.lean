/- Part 12 of the proof: what these functions do. -/
import Derived.Test.YtdfglgnflldkpaaDoorVg11
import Derived.KernelRfl
namespace Go.Proofs.YtdfglgnflldkpaaDoor.Mir
open Go
set_option linter.unusedSimpArgs false
set_option linter.unusedVariables false
set_option maxHeartbeats 8000000
set_option maxRecDepth 20000
def ro (e : Nat) : Nat := if e = 0 then 0 else if e = 1 then 5 else if e = 2 then 1 else if e = 3 then 3 else if e = 4 then 2 else 4
structure Frm where
 d : Bool
 a : Bool
 b : Bool
 c : Bool
 k : Bool
def iH (op : Int) : Option Frm :=
 if op = 1 then some ⟨true, false, false, false, true⟩
 else if op = 2 then some ⟨true, true, false, false, false⟩
 else if (3 ≤ op ∧ op ≤ 9) ∨ op = 13 then some ⟨true, true, true, false, false⟩
 else if (10 ≤ op ∧ op ≤ 12) ∨ op = 15 then some ⟨true, true, false, false, true⟩
 else if op = 14 then some ⟨true, true, true, true, false⟩
 else if op = 16 then some ⟨false, true, true, false, true⟩
 else if op = 17 ∨ op = 20 then some ⟨false, false, false, false, true⟩
 else if op = 18 ∨ op = 19 then some ⟨false, true, false, false, true⟩
 else none
def fY (op : Int) : ByteArray :=
 if op = 1 then ⟨#[99, 111, 110, 115, 116]⟩ else if op = 2 then ⟨#[109, 111, 118]⟩ else if op = 3 then ⟨#[97, 100, 100]⟩ else if op = 4 then ⟨#[115, 117, 98]⟩ else if op = 5 then ⟨#[109, 117, 108]⟩
 else if op = 6 then ⟨#[104, 105, 103, 104]⟩ else if op = 7 then ⟨#[97, 110, 100]⟩ else if op = 8 then ⟨#[111, 114]⟩ else if op = 9 then ⟨#[120, 111, 114]⟩ else if op = 10 then ⟨#[115, 104, 108]⟩
 else if op = 11 then ⟨#[115, 104, 114]⟩ else if op = 12 then ⟨#[115, 97, 114]⟩ else if op = 13 then ⟨#[108, 101, 115, 115]⟩ else if op = 14 then ⟨#[115, 101, 108]⟩ else if op = 15 then ⟨#[108, 100]⟩
 else if op = 16 then ⟨#[115, 116]⟩ else if op = 17 then ⟨#[98, 114]⟩ else if op = 18 then ⟨#[98, 122]⟩ else if op = 19 then ⟨#[98, 110, 122]⟩ else if op = 20 then ⟨#[104, 97, 108, 116]⟩ else ⟨#[110, 111, 110, 101]⟩
def kQ (w : ByteArray) (f : Frm) : AV := .agg [.str w, .bool f.d, .bool f.a, .bool f.b, .bool f.c, .bool f.k]
def kV (op : Int) : Frm := match iH op with | some f => f | none => ⟨false, false, false, false, false⟩
theorem aJy {op : Int} (h : 1 ≤ op ∧ op ≤ 20) : op = 1 ∨ op = 2 ∨ op = 3 ∨ op = 4 ∨ op = 5 ∨ op = 6 ∨ op = 7 ∨ op = 8 ∨ op = 9 ∨ op = 10 ∨ op = 11 ∨ op = 12 ∨ op = 13 ∨ op = 14 ∨ op = 15 ∨ op = 16 ∨ op = 17 ∨ op = 18 ∨ op = 19 ∨ op = 20 := by omega
theorem uL {op : Int} (h : ¬ (1 ≤ op ∧ op ≤ 20)) : iH op = none := by
 unfold iH
 repeat rw [if_neg (by omega)]
theorem aEU {op : Int} (h : ¬ (1 ≤ op ∧ op ≤ 20)) : fY op = ⟨#[110, 111, 110, 101]⟩ := by
 unfold fY
 repeat rw [if_neg (by omega)]
theorem aGH (G : aI) (k : Nat) (op : Int) : gA.f G (k + 4) [I6 op] [] = some (.tup [kQ (fY op) (kV op), .bool (iH op).isSome], []) := by
 by_cases h : 1 ≤ op ∧ op ≤ 20
 ·rcases aJy h with rfl | rfl | rfl | rfl | rfl | rfl | rfl | rfl | rfl | rfl | rfl | rfl | rfl | rfl | rfl | rfl | rfl | rfl | rfl | rfl <;> kernel_rfl
 ·rw [gA.step]
  unfold gA.c
  unfold kV
  rw [uL h, aEU h]
  refine dX ?_
  have fx := True.intro
  refine gC ?_
  refine iA ?_
  rfl
def bsV (f : Frm) : AV := .ro false [.bool f.d, .bool f.a, .bool f.b, .bool f.c, .bool f.k]
def isV (i : WI) : AV := .ro false [I6 i.d, I6 i.a, I6 i.b, I6 i.c, I6 i.k]
theorem aHf (G : aI) (k : Nat) (i : WI) (w : ByteArray) (f : Frm) : gD.f G (k + 1) [i.v, kQ w f] [] = some (.tup [bsV f, isV i], []) := by kernel_rfl
abbrev eV (g : Nat) : AV := .iface 180 (.gp (ro g))
def nZ (is : Bool) (r R : Int) : Bool := is && (decide (r < 0) || decide (R ≤ r))
section
variable (G : aI) (k : Nat) (self : dE) (c1 : AV) (R : Int) (hR0 : 0 ≤ R)
abbrev bxC (cv : AV) (R M : Int) : AV := .rp false (.agg [cv, I6 R, I6 M]) 0
abbrev xs6 (cv : AV) (R M : Int) (i : WI) (f : Frm) (j : Int) : List AV := [bxC cv R M, .rp false i.v 0, .nili, bsV f, isV i, I6 j]
theorem uX {bor : Bool} {xs : List AV} {k' : IntKind} {j : Nat} {y : AV} (h : xs[j]? = some y) (h1 : y.cells.length = 1) : cB 1 (.ro bor xs) (.int k' (j : Int)) = some (.rp bor y 0) := by
 unfold cB
 simp [h, h1]
theorem aKJ {b bor : Bool} {H : aF} : aC G false 1 (.rp bor (.bool b) 0) H = some (.bool b) := rfl
theorem aKK {n : Int} {bor : Bool} {H : aF} : aC G false 1 (.rp bor (I6 n) 0) H = some (I6 n) := rfl
theorem tL (cv : AV) (M : Int) (i : WI) (f : Frm) (j : Nat) (hj : j < 4) (t : Bool) (p : Int) (ht : [AV.bool f.d, .bool f.a, .bool f.b, .bool f.c, .bool f.k][j]? = some (.bool t)) (hp : [I6 i.d, I6 i.a, I6 i.b, I6 i.c, I6 i.k][j]? = some (I6 p))
  (hG : G 1 = some (eV 2)) (hcl : cK 0 cv = true) (n : Nat) :
  gH (dC.l6 G k 1 self) (n + 1) (xs6 cv R M i f j) [⟨163, 6, [kQ (fY i.op) f]⟩] =
   if nZ t p R = true then some (.ret, [bxC cv R M, .rp false i.v 0, eV 2, bsV f, isV i, I6 j], [⟨163, 6, [kQ (fY i.op) f]⟩])
   else gH (dC.l6 G k 1 self) n (xs6 cv R M i f (j + 1 : Nat)) [⟨163, 6, [kQ (fY i.op) f]⟩] := by
 rw [fJ, dC.l6]
 have hc : iL 1 (xs6 cv R M i f j) [⟨163, 6, [kQ (fY i.op) f]⟩] = some [⟨163, 6, [kQ (fY i.op) f]⟩] := by
  have := kC (Nat.zero_le 1) hcl
  simp [iL, cS, cK, dL, this, bsV, isV, WI.v, kQ]
 have d1 : cB 1 (bsV f) (I6 j) = some (.rp false (.bool t) 0) := uX ht rfl
 have d2 : cB 1 (isV i) (I6 j) = some (.rp false (I6 p) 0) := uX hp rfl
 have l1 := fun (b bor : Bool) (H : aF) => @aKJ G b bor H
 have l2 := fun (n : Int) (bor : Bool) (H : aF) => @aKK G n bor H
 have l3 : ∀ H, aC G false 1 (.gl 1) H = some (eV 2) := fun H => hG
 refine jU ?_
 refine eC hc ?_
 cases t
 ·rw [show nZ false p R = false from rfl, if_neg (by simp)]
  have fx := aOO d1 <| aOO d2 <| aOO l1 <| l2
  refine gC ?_
  rfl
 ·by_cases ho : p < 0 ∨ R ≤ p
  ·have e : nZ true p R = true := by unfold nZ; rcases ho with h | h <;> simp [h]
   rw [if_pos e]
   have fx := aOO d1 <| aOO d2 <| aOO l1 <| aOO l2 <| l3
   refine gC ?_
   rfl
  ·have e : nZ true p R = false := by unfold nZ; simp; omega
   rw [if_neg (by simp [e])]
   have fx := aOO d1 <| aOO d2 <| aOO l1 <| aOO l2 <| l3
   refine gC ?_
   rfl
theorem aLD (cv : AV) (M : Int) (i : WI) (f : Frm) (hcl : cK 0 cv = true) (n : Nat) :
  gH (dC.l6 G k 1 self) (n + 1) (xs6 cv R M i f (4 : Nat)) [⟨163, 6, [kQ (fY i.op) f]⟩] = some (.exit 0, xs6 cv R M i f (4 : Nat), [⟨163, 6, [kQ (fY i.op) f]⟩]) := by
 rw [fJ, dC.l6]
 have hc : iL 1 (xs6 cv R M i f (4 : Nat)) [⟨163, 6, [kQ (fY i.op) f]⟩] = some [⟨163, 6, [kQ (fY i.op) f]⟩] := by
  have := kC (Nat.zero_le 1) hcl
  simp [iL, cS, cK, dL, this, bsV, isV, WI.v, kQ]
 refine jU ?_
 refine eC hc ?_
 have fx := True.intro
 refine gC ?_
 rfl
def rT (f : Frm) (i : WI) (R : Int) : Bool := nZ f.d i.d R || nZ f.a i.a R || nZ f.b i.b R || nZ f.c i.c R
def rS (f : Frm) (i : WI) : Bool := (!f.d && decide (i.d ≠ 0)) || (!f.a && decide (i.a ≠ 0)) || (!f.b && decide (i.b ≠ 0)) || (!f.c && decide (i.c ≠ 0)) || (!f.k && decide (i.k ≠ 0))
theorem aLC (cv : AV) (M : Int) (i : WI) (f : Frm) (hG : G 1 = some (eV 2)) (hcl : cK 0 cv = true) (n : Nat) :
  (rT f i R = true → ∃ j, gH (dC.l6 G k 1 self) (n + 5) (xs6 cv R M i f (0 : Nat)) [⟨163, 6, [kQ (fY i.op) f]⟩] = some (.ret, [bxC cv R M, .rp false i.v 0, eV 2, bsV f, isV i, j], [⟨163, 6, [kQ (fY i.op) f]⟩])) ∧
  (rT f i R = false → gH (dC.l6 G k 1 self) (n + 5) (xs6 cv R M i f (0 : Nat)) [⟨163, 6, [kQ (fY i.op) f]⟩] = some (.exit 0, xs6 cv R M i f (4 : Nat), [⟨163, 6, [kQ (fY i.op) f]⟩])) := by
 rw [tL G k self R cv M i f 0 (by omega) f.d i.d rfl rfl hG hcl]
 rw [tL G k self R cv M i f 1 (by omega) f.a i.a rfl rfl hG hcl]
 rw [tL G k self R cv M i f 2 (by omega) f.b i.b rfl rfl hG hcl]
 rw [tL G k self R cv M i f 3 (by omega) f.c i.c rfl rfl hG hcl]
 rw [aLD G k self R cv M i f hcl]
 unfold rT
 generalize nZ f.d i.d R = o1
 generalize nZ f.a i.a R = o2
 generalize nZ f.b i.b R = o3
 generalize nZ f.c i.c R = o4
 cases o1 <;> cases o2 <;> cases o3 <;> cases o4 <;> simp
abbrev aCo (cv : AV) (R M : Int) (i : WI) (f : Frm) (j : Int) : List AV := [bxC cv R M, .rp false i.v 0, .nili, isV i, bsV f, .int .i64 5, I6 j]
theorem pC (cv : AV) (M : Int) (i : WI) (f : Frm) (j : Nat) (hj : j < 5) (t : Bool) (p : Int) (ht : [AV.bool f.d, .bool f.a, .bool f.b, .bool f.c, .bool f.k][j]? = some (.bool t)) (hp : [I6 i.d, I6 i.a, I6 i.b, I6 i.c, I6 i.k][j]? = some (I6 p))
  (hG : G 3 = some (eV 3)) (hcl : cK 0 cv = true) (n : Nat) :
  gH (dC.l12 G k 1 self) (n + 1) (aCo cv R M i f j) [⟨163, 6, [kQ (fY i.op) f]⟩] =
   if (!t && decide (p ≠ 0)) = true then some (.ret, [bxC cv R M, .rp false i.v 0, eV 3, isV i, bsV f, .int .i64 5, I6 j], [⟨163, 6, [kQ (fY i.op) f]⟩])
   else gH (dC.l12 G k 1 self) n (aCo cv R M i f (j + 1 : Nat)) [⟨163, 6, [kQ (fY i.op) f]⟩] := by
 rw [fJ, dC.l12]
 have hc : iL 1 (aCo cv R M i f j) [⟨163, 6, [kQ (fY i.op) f]⟩] = some [⟨163, 6, [kQ (fY i.op) f]⟩] := by
  have := kC (Nat.zero_le 1) hcl
  simp [iL, cS, cK, dL, this, bsV, isV, WI.v, kQ]
 have d1 : cB 1 (bsV f) (I6 j) = some (.rp false (.bool t) 0) := uX ht rfl
 have d2 : cB 1 (isV i) (I6 j) = some (.rp false (I6 p) 0) := uX hp rfl
 have l1 := fun (b bor : Bool) (H : aF) => @aKJ G b bor H
 have l2 := fun (n : Int) (bor : Bool) (H : aF) => @aKK G n bor H
 have l3 : ∀ H, aC G false 1 (.gl 3) H = some (eV 3) := fun H => hG
 refine jU ?_
 refine eC hc ?_
 cases t
 ·by_cases ho : p ≠ 0
  ·rw [if_pos (by simp [ho])]
   have fx := aOO d1 <| aOO d2 <| aOO l1 <| aOO l2 <| l3
   refine gC ?_
   rfl
  ·rw [if_neg (by simp [ho])]
   have fx := aOO d1 <| aOO d2 <| aOO l1 <| aOO l2 <| l3
   refine gC ?_
   rfl
 ·rw [if_neg (by simp)]
  have fx := aOO d1 <| aOO d2 <| aOO l1 <| l2
  refine gC ?_
  rfl
theorem aJl (cv : AV) (M : Int) (i : WI) (f : Frm) (hcl : cK 0 cv = true) (n : Nat) :
  gH (dC.l12 G k 1 self) (n + 1) (aCo cv R M i f (5 : Nat)) [⟨163, 6, [kQ (fY i.op) f]⟩] = some (.exit 2, aCo cv R M i f (5 : Nat), [⟨163, 6, [kQ (fY i.op) f]⟩]) := by
 rw [fJ, dC.l12]
 have hc : iL 1 (aCo cv R M i f (5 : Nat)) [⟨163, 6, [kQ (fY i.op) f]⟩] = some [⟨163, 6, [kQ (fY i.op) f]⟩] := by
  have := kC (Nat.zero_le 1) hcl
  simp [iL, cS, cK, dL, this, bsV, isV, WI.v, kQ]
 refine jU ?_
 refine eC hc ?_
 have fx := True.intro
 refine gC ?_
 rfl
theorem aJk (cv : AV) (M : Int) (i : WI) (f : Frm) (hG : G 3 = some (eV 3)) (hcl : cK 0 cv = true) (n : Nat) :
  (rS f i = true → ∃ j, gH (dC.l12 G k 1 self) (n + 6) (aCo cv R M i f (0 : Nat)) [⟨163, 6, [kQ (fY i.op) f]⟩] = some (.ret, [bxC cv R M, .rp false i.v 0, eV 3, isV i, bsV f, .int .i64 5, j], [⟨163, 6, [kQ (fY i.op) f]⟩])) ∧
  (rS f i = false → gH (dC.l12 G k 1 self) (n + 6) (aCo cv R M i f (0 : Nat)) [⟨163, 6, [kQ (fY i.op) f]⟩] = some (.exit 2, aCo cv R M i f (5 : Nat), [⟨163, 6, [kQ (fY i.op) f]⟩])) := by
 rw [pC G k self R cv M i f 0 (by omega) f.d i.d rfl rfl hG hcl]
 rw [pC G k self R cv M i f 1 (by omega) f.a i.a rfl rfl hG hcl]
 rw [pC G k self R cv M i f 2 (by omega) f.b i.b rfl rfl hG hcl]
 rw [pC G k self R cv M i f 3 (by omega) f.c i.c rfl rfl hG hcl]
 rw [pC G k self R cv M i f 4 (by omega) f.k i.k rfl rfl hG hcl]
 rw [aJl G k self R cv M i f hcl]
 unfold rS
 generalize (!f.d && decide (i.d ≠ 0)) = o1
 generalize (!f.a && decide (i.a ≠ 0)) = o2
 generalize (!f.b && decide (i.b ≠ 0)) = o3
 generalize (!f.c && decide (i.c ≠ 0)) = o4
 generalize (!f.k && decide (i.k ≠ 0)) = o5
 cases o1 <;> cases o2 <;> cases o3 <;> cases o4 <;> cases o5 <;> simp
end
def iN (i : WI) (R n : Int) : Option Nat :=
 if (iH i.op).isSome = false then some 4
 else if rT (kV i.op) i R = true then some 2
 else if rS (kV i.op) i = true then some 3
 else if i.op = 10 ∨ i.op = 11 ∨ i.op = 12 then (if i.k < 0 ∨ 63 < i.k then some 2 else none)
 else if i.op = 20 then (if i.k < 0 ∨ 2 < i.k then some 2 else none)
 else if i.op = 15 ∨ i.op = 16 then (if i.k < 0 ∨ 65535 < i.k then some 2 else none)
 else if i.op = 17 ∨ i.op = 18 ∨ i.op = 19 then (if i.k < 0 ∨ n < i.k then some 5 else none)
 else none
def aGg (o : Option Nat) : AV := match o with | some g => eV g | none => .nili
structure GOk (G : aI) : Prop where
 g0 : G 0 = some (eV 0)
 g2 : G 1 = some (eV 2)
 g3 : G 3 = some (eV 3)
 g4 : G 2 = some (eV 4)
 g5 : G 4 = some (eV 5)
theorem w1e {x : AV} {o : Option Nat} {H : aF} (e : aGg o = x) (hx : cK 0 x = true) : E fZ [] (bK [x] 0 H) (some (aGg o, [])) := by subst e; exact oF (nI hx H)
theorem aES {bor : Bool} (G : aI) (hg : GOk G) (k : Nat) (cs : List WI) (R M : Int) (i : WI) :
  dC.f G (k + 7) [cV bor cs R M, i.v] [] = some (aGg (iN i R cs.length), []) := by
 rw [dC.step]
 unfold dC.c cV
 have r1 : ∀ H, aE (gA.f G (k + 6)) [I6 i.op] H = _ := fun H => aD (H := H) (aGH G (k + 2) i.op) rfl rfl
 have r2 : ∀ H, aE (gD.f G (k + 6)) [i.v, kQ (fY i.op) (kV i.op)] H = _ := fun H => aD (H := H) (aHf G (k + 5) i _ _) rfl rfl
 have b1 : ∀ H, dH i.v H = some (.rp false i.v 0, H) := fun H => rfl
 have g0 : aA 0 (.rp false i.v 0) = some (.rp false i.v 0) := rfl
 have g5 : aA 5 (.rp false i.v 0) = some (.rp false i.v 5) := rfl
 have l0 : ∀ H, aC G false 1 (.rp false i.v 0) H = some (I6 i.op) := fun H => rfl
 have l5 : ∀ H, aC G false 1 (.rp false i.v 5) H = some (I6 i.k) := fun H => rfl
 have l6 : ∀ H, aC G true 6 (.rp false i.v 0) H = some i.v := fun H => rfl
 have e2 : ∀ H, aC G false 1 (.gl 1) H = some (eV 2) := fun H => hg.g2
 have e4 : ∀ H, aC G false 1 (.gl 2) H = some (eV 4) := fun H => hg.g4
 have e5 : ∀ H, aC G false 1 (.gl 4) H = some (eV 5) := fun H => hg.g5
 have st : eH (aO 6 (.ptr 0 1 0 0) (kQ (fY i.op) (kV i.op)) [⟨163, 6, [.agg [(.str ⟨#[]⟩), (.bool false), (.bool false), (.bool false), (.bool false), (.bool false)]]⟩]) = some (.tup [], [⟨163, 6, [kQ (fY i.op) (kV i.op)]⟩]) := rfl
 have ld : aC G true 6 (.ptr 0 1 0 0) [⟨163, 6, [kQ (fY i.op) (kV i.op)]⟩] = some (kQ (fY i.op) (kV i.op)) := rfl
 have lc : dV (.ro bor (gQ cs)) = some (I6 cs.length) := by simp [dV, lG]
 have lb : dV (bsV (kV i.op)) = some (.int .i64 5) := rfl
 have hcl : cK 0 (.ro bor (gQ cs)) = true := by simp [cK, kX]
 obtain ⟨p1, p2⟩ := aLC G (k + 6) (dC.f G (k + 6)) R (.ro bor (gQ cs)) M i (kV i.op) hg.g2 hcl (k + 1)
 obtain ⟨p3, p4⟩ := aJk G (k + 6) (dC.f G (k + 6)) R (.ro bor (gQ cs)) M i (kV i.op) hg.g3 hcl k
 refine dX ?_
 by_cases h0 : (iH i.op).isSome = false
 ·have e : iN i R cs.length = some 4 := by unfold iN; rw [if_pos h0]
  rw [e]
  rw [h0] at r1
  have fx := aOO r1 <| aOO b1 <| aOO g0 <| aOO l0 <| aOO st <| e4
  refine gC ?_
  exact w1e (by rfl) (by rfl)
 have h0' : (iH i.op).isSome = true := by
  cases hh : (iH i.op).isSome
  ·exact absurd hh h0
  ·rfl
 rw [h0'] at r1
 by_cases h1 : rT (kV i.op) i R = true
 ·have e : iN i R cs.length = some 2 := by unfold iN; rw [if_neg h0, if_pos h1]
  rw [e]
  obtain ⟨j, p1⟩ := p1 h1
  clear p2 p3 p4
  unfold bxC at p1
  have fx := aOO r1 <| aOO r2 <| aOO b1 <| aOO g0 <| aOO l0 <| aOO l6 <| aOO st <| aOO ld <| e2
  have lx1 := p1
  refine gC ?_
  exact w1e (by rfl) (by rfl)
 replace p2 := p2 (by simpa using h1)
 clear p1
 by_cases h2 : rS (kV i.op) i = true
 ·have e : iN i R cs.length = some 3 := by unfold iN; rw [if_neg h0, if_neg h1, if_pos h2]
  rw [e]
  obtain ⟨j, p3⟩ := p3 h2
  clear p4
  have fx := aOO r1 <| aOO r2 <| aOO b1 <| aOO g0 <| aOO l0 <| aOO l6 <| aOO st <| aOO ld <| aOO e2 <| lb
  have lx1 := p2
  have lx2 := p3
  refine gC ?_
  exact w1e (by rfl) (by rfl)
 replace p4 := p4 (by simpa using h2)
 clear p3
 have e : iN i R cs.length = (if i.op = 10 ∨ i.op = 11 ∨ i.op = 12 then (if i.k < 0 ∨ 63 < i.k then some 2 else none)
 else if i.op = 20 then (if i.k < 0 ∨ 2 < i.k then some 2 else none)
 else if i.op = 15 ∨ i.op = 16 then (if i.k < 0 ∨ 65535 < i.k then some 2 else none)
 else if i.op = 17 ∨ i.op = 18 ∨ i.op = 19 then (if i.k < 0 ∨ (cs.length : Int) < i.k then some 5 else none)
 else none) := by unfold iN; rw [if_neg h0, if_neg h1, if_neg h2]
 rw [e]
 clear e
 repeat' first
  | (with_reducible first | refine eT ?_ | refine eN ?_ | refine eS ?_ | refine eXn ?_ | refine eXr ?_ | refine eX ?_ | refine eI ?_ | refine eK ?_ | refine eV0 ?_ | refine wX ?_ | refine xA ?_ | refine wU ?_ | refine wZ ?_ | refine wV ?_ | refine wW ?_)
  | ((with_reducible apply eCn); (simp only [eG, eF]; first | done | (with_reducible exact rfl)))
  | ((with_reducible apply eJ); (rfl))
  | ((with_reducible apply wY); (first | rfl | (simp only [eG, eF]; rfl)))
  | ((with_reducible apply eL); (first | exact p2 | exact p4))
  | ((with_reducible apply eB); (first | (with_reducible exact rfl) | (simp (disch := omega) only [qf, r1, r2, b1, g0, g5, l0, l5, l6, st, ld, e2, e5, lb, lc]; first | done | (with_reducible exact rfl) | (with_reducible exact ⟨rfl, rfl⟩)) | (simp (disch := omega) only [qa, jM, AV.cells, fF, aZ, kZ, eP, fN, kS, Nat.reduceLeDiff, Nat.reduceLT, Nat.reduceAdd, ↓reduceIte, r1, r2, b1, g0, g5, l0, l5, l6, st, ld, e2, e5, lb, lc]; first | done | (with_reducible exact rfl) | (with_reducible exact ⟨rfl, rfl⟩))))
  | ((with_reducible apply eR); (simp only [eG, eF]; (with_reducible exact rfl)))
  | ((with_reducible first | refine zS ?_ ?_ | refine zX ?_ ?_ | refine zW ?_ ?_ | refine zV ?_ ?_ | refine zU ?_ ?_ | refine zT ?_ ?_ | refine zY ?_ ?_ | refine qZ ?_ ?_ | refine sGd ?_ ?_ | refine qK ?_ ?_) <;> intro hq <;> try subst hq)
 all_goals (refine w1e ?_ (by rfl); (first | (with_reducible rfl) | ((try simp (disch := omega) only [if_pos, if_neg, if_true, if_false, ↓reduceIte, aGg]) <;> first | done | rfl | omega)))
inductive VE where
 | ok
 | bare (e : Nat)
 | at_ (j e : Nat)
def veV : VE → AV
 | .ok => .nili
 | .bare e => eV e
 | .at_ j e => .iface 133 (.rp false (.agg [Nn j, eV e]) 0)
def qD (R n : Int) : List WI → Nat → VE
 | [], _ => .ok
 | i :: l, j => match iN i R n with
  | some e => .at_ j e
  | none => qD R n l (j + 1)
def oR (cs : List WI) (R M : Int) : VE :=
 if 262144 < cs.length then .bare 0
 else if R < 0 ∨ 65536 < R ∨ M < 0 ∨ 65536 < M then .bare 0
 else qD R cs.length cs 0
section
variable {bor : Bool} (G : aI) (hg : GOk G) (k : Nat) (self : dE) (cs : List WI) (R M : Int)
abbrev xsV (bor : Bool) (cs : List WI) (R M : Int) (x : AV) (j : Nat) : List AV := [bxC (.ro bor (gQ cs)) R M, x, .ro bor (gQ cs), I6 cs.length, Nn j]
include hg in
theorem xZ (hcl : cs.length ≤ 1000000) : ∀ (l pre : List WI) (f : Nat) (H : aF), cs = pre ++ l → l.length < f →
  ∃ o, gH (dF.l6 G (k + 7) 0 self) f (xsV bor cs R M .nili pre.length) H = some o ∧
   (match qD R cs.length l pre.length with
    | .ok => o = (.exit 1, xsV bor cs R M .nili cs.length, [])
    | v => ∃ j H', o = (.ret, xsV bor cs R M (veV v) j, H'))
 | l, pre, 0, H, hcs, hf => by omega
 | [], pre, f + 1, H, hcs, hf => by
  rw [fJ, dF.l6]
  have hl : cs.length = pre.length := by rw [hcs]; simp
  refine ⟨_, ?_, rfl⟩
  have hc : iL 0 (xsV bor cs R M .nili pre.length) H = some [] := by simp [iL, cS, cK, dL, kX]
  refine lC hc ?_
  refine jU ?_
  have hge : ¬ (pre.length : Int) < (cs.length : Int) := by omega
  have q : aQ Tryd.prog .lss 3 false (Nn pre.length) (Nn cs.length) = some (.bool false) := by rw [lP, decide_eq_false hge]
  have fx := q
  refine gC ?_
  rw [hl]
  rfl
 | i :: l, pre, f + 1, H, hcs, hf => by
  rw [fJ, dF.l6]
  have hl : cs.length = pre.length + (l.length + 1) := by rw [hcs]; simp
  have hc : iL 0 (xsV bor cs R M .nili pre.length) H = some [] := by simp [iL, cS, cK, dL, kX]
  have hi : cs.getD pre.length default = i := by rw [hcs]; simp [List.getD]
  have q : aQ Tryd.prog .lss 3 false (Nn pre.length) (Nn cs.length) = some (.bool true) := by rw [lP, decide_eq_true (by omega)]
  have d1 := aKH bor cs pre.length (by omega)
  rw [hi] at d1
  have d2 : ∀ H, aC G true 6 (.rp bor i.v 0) H = some i.v := fun H => rfl
  have d3 : eH (aO 6 (.ptr 0 1 0 0) i.v [⟨60, 6, [.agg [.int .i64 0, .int .i64 0, .int .i64 0, .int .i64 0, .int .i64 0, .int .i64 0]]⟩]) = some (.tup [], [⟨60, 6, [i.v]⟩]) := rfl
  have d4 : aC G true 6 (.ptr 0 1 0 0) [⟨60, 6, [i.v]⟩] = some i.v := rfl
  have d5 : ∀ H, aE (dC.f G (k + 7)) [.agg [.ro bor (gQ cs), I6 R, I6 M], i.v] H = _ := fun H => aD (H := H) (aES G hg k cs R M i) (by simp [dQ, bG, aHD, WI.v]) (by cases iN i R cs.length <;> rfl)
  cases ho : iN i R cs.length with
  | some e =>
   have hb : qD R cs.length (i :: l) pre.length = .at_ pre.length e := by simp only [qD, ho]
   rw [hb]
   rw [ho] at d5
   have q2 : aQ Tryd.prog .neq 30 true (eV e) .nili = some (.bool true) := by kernel_rfl
   refine ⟨_, ?_, pre.length, [⟨60, 6, [i.v]⟩], rfl⟩
   refine lC hc ?_
   refine jU ?_
   simp only [aGg] at d5
   have fx := aOO q <| aOO d1 <| aOO d2 <| aOO d3 <| aOO d4 <| aOO d5 <| q2
   refine gC ?_
   rfl
  | none =>
   rw [ho] at d5
   have q2 : aQ Tryd.prog .neq 30 true .nili .nili = some (.bool false) := by kernel_rfl
   obtain ⟨o, h1, h2⟩ := xZ hcl l (pre ++ [i]) f [⟨60, 6, [i.v]⟩] (by rw [hcs]; simp) (by simp at hf; omega)
   have hlen : (pre ++ [i]).length = pre.length + 1 := by simp
   rw [hlen] at h1 h2
   have hb : qD R cs.length (i :: l) pre.length = qD R cs.length l (pre.length + 1) := by simp only [qD, ho]
   rw [hb]
   refine ⟨o, ?_, h2⟩
   refine lC hc ?_
   refine jU ?_
   simp only [aGg] at d5
   have q3 : aQ Tryd.prog .add 3 true (Nn pre.length) (.int .i64 1) = some (Nn (pre.length + 1)) := by
    rw [kH, fD (by omega) (by omega)]; congr 2
   have fx := aOO q <| aOO d1 <| aOO d2 <| aOO d3 <| aOO d4 <| aOO d5 <| aOO q2 <| q3
   refine gC ?_
   exact h1
include hg in
theorem aDW (hk : cs.length < k + 7) (hcl : cs.length ≤ 1000000) : dF.f G (k + 8) [cV bor cs R M] [] = some (veV (oR cs R M), []) := by
 rw [dF.step]
 unfold dF.c cV
 obtain ⟨o, h1, h2⟩ := xZ (bor := bor) G hg k (dF.f G (k + 7)) cs R M hcl cs [] (k + 7) [] rfl hk
 have e0 : ∀ H, aC G false 1 (.gl 0) H = some (eV 0) := fun H => hg.g0
 have lc : dV (.ro bor (gQ cs)) = some (I6 cs.length) := by simp [dV, lG]
 refine dX ?_
 unfold oR
 by_cases hb : 262144 < cs.length
 ·rw [if_pos hb]
  have fx := aOO lc <| e0
  refine gC ?_
  exact w1 rfl rfl
 rw [if_neg hb]
 by_cases hr : R < 0 ∨ 65536 < R ∨ M < 0 ∨ 65536 < M
 ·rw [if_pos hr]
  have fx := aOO lc <| e0
  refine gC ?_
  exact w1 rfl rfl
 rw [if_neg hr]
 cases hv : qD R cs.length cs 0 with
 | ok =>
  simp only [List.length_nil, hv] at h2
  rw [h2] at h1
  have fx := aOO lc <| e0
  have lx1 := h1
  refine gC ?_
  exact w1 rfl rfl
 | bare e =>
  simp only [List.length_nil, hv] at h2
  obtain ⟨j, H', h2⟩ := h2
  rw [h2] at h1
  have fx := aOO lc <| e0
  have lx1 := h1
  refine gC ?_
  exact w1 rfl rfl
 | at_ j e =>
  simp only [List.length_nil, hv] at h2
  obtain ⟨j', H', h2⟩ := h2
  rw [h2] at h1
  have fx := aOO lc <| e0
  have lx1 := h1
  refine gC ?_
  exact w1 rfl rfl
end
theorem aFx {i : WI} {R n : Int} (h : iN i R n = none) (hR : 0 ≤ R) : i.Ok R.toNat n.toNat := by
 unfold iN at h
 have out : ∀ {t : Bool} {r : Int}, nZ t r R = false → t = true → 0 ≤ r ∧ r < R := fun {t r} ho ht => by
  subst ht; simp [nZ] at ho; omega
 by_cases h20 : 1 ≤ i.op ∧ i.op ≤ 20
 ·by_cases h1 : rT (kV i.op) i R = true
  ·rw [if_pos h1] at h; split at h <;> cases h
  rw [if_neg h1] at h
  by_cases h2 : rS (kV i.op) i = true
  ·rw [if_pos h2] at h; split at h <;> cases h
  rw [if_neg h2] at h
  obtain ⟨op, d, a, b, c, kk⟩ := i
  simp only at h h1 h2 h20
  simp only [rT, rS, Bool.or_eq_true, not_or, Bool.and_eq_true, Bool.not_eq_true', decide_eq_true_eq, not_and, Bool.not_eq_true] at h1 h2
  rcases aJy h20 with rfl | rfl | rfl | rfl | rfl | rfl | rfl | rfl | rfl | rfl | rfl | rfl | rfl | rfl | rfl | rfl | rfl | rfl | rfl | rfl
  all_goals (
   simp [kV, iH, nZ] at h1 h2
   simp [iH] at h
   constructor <;> simp <;> omega)
 ·rw [uL h20] at h; simp at h
theorem aFe {R n : Int} (hR : 0 ≤ R) : ∀ {l : List WI} {j : Nat}, qD R n l j = .ok → ∀ i ∈ l, i.Ok R.toNat n.toNat
 | [], _, _, i, hi => by cases hi
 | x :: l, j, h, i, hi => by
  unfold qD at h
  split at h
  ·cases h
  ·rename_i ho
   rcases List.mem_cons.1 hi with rfl | hi
   ·exact aFx ho hR
   ·exact aFe hR h i hi
theorem aBh {cs : List WI} {R M : Int} (h : oR cs R M = .ok) : (0 ≤ R ∧ R ≤ 65536 ∧ 0 ≤ M ∧ M ≤ 65536 ∧ cs.length ≤ 262144) ∧ ∀ j, j < cs.length → (cs.getD j default).Ok R.toNat cs.length := by
 unfold oR at h
 by_cases h1 : 262144 < cs.length
 ·rw [if_pos h1] at h; cases h
 rw [if_neg h1] at h
 by_cases h2 : R < 0 ∨ 65536 < R ∨ M < 0 ∨ 65536 < M
 ·rw [if_pos h2] at h; cases h
 rw [if_neg h2] at h
 refine ⟨by omega, fun j hj => ?_⟩
 have := aFe (by omega) h (cs.getD j default) (by simp [List.getD, List.getElem?_eq_getElem hj])
 rwa [Int.toNat_natCast] at this
def ftV (c : Int) (p : Bool) (j : Int) : AV := .agg [I6 c, .bool p, I6 j]
inductive Cls : Frm → Int → Prop
 | c1 : Cls ⟨true, false, false, false, true⟩ 1
 | c2 : Cls ⟨true, true, false, false, false⟩ 0
 | c3 : Cls ⟨true, true, true, false, false⟩ 0
 | c4 : Cls ⟨true, true, false, false, true⟩ 2
 | c5 : Cls ⟨true, true, true, true, false⟩ 0
 | c6 : Cls ⟨true, true, false, false, true⟩ 3
 | c7 : Cls ⟨false, true, true, false, true⟩ 3
 | c8 : Cls ⟨false, false, false, false, true⟩ 4
 | c9 : Cls ⟨false, true, false, false, true⟩ 4
 | c10 : Cls ⟨false, false, false, false, true⟩ 5
section
variable (G : aI) (k : Nat) (self : dE) (cs : List WI) (R M : Int)
abbrev f0 : AV := ftV 0 false 0
end
section
variable (G : aI) (k : Nat) (self : dE) (cs : List WI) (R M : Int)
end
def VE.low : VE → Prop
 | .ok => True
 | .bare e => e < 6
 | .at_ j e => e < 6
theorem aLK (n : Nat) (h : n ≤ 63) : bits .and .i64 (n : Int) 63 = (n : Int) := by
 show IntKind.i64.wrap ((BitVec.ofInt 64 (n : Int) &&& BitVec.ofInt 64 63).toNat : Int) = _
 rw [BitVec.toNat_and, lM n (by omega)]
 have e : (BitVec.ofInt 64 (63 : Int)).toNat = 63 := rfl
 have e2 : n &&& 63 = n := by have := Nat.and_two_pow_sub_one_eq_mod n 6; simp at this; omega
 rw [e, e2, fD (by omega) (by omega)]
theorem aDF (G : aI) (k : Nat) (op d a b c n : Int) (x y z : Nat) (hx : x < 18446744073709551616) (hy : y < 18446744073709551616) (hz : z < 18446744073709551616) :
  bS.f G (k + 2) [WI.v ⟨op, d, a, b, c, n⟩, Un x, Un y, Un z] [] = some (.tup [Un (iS op n x y z).1, .bool (iS op n x y z).2], []) := by
 rw [bS.step]
 unfold bS.c WI.v
 obtain ⟨w, hw⟩ : ∃ w, w = bits .and .i64 n 63 := ⟨_, rfl⟩
 have k0 : aQ Tryd.prog .and 2 true (I6 n) (.int .i64 63) = some (I6 w) := by rw [nC, hw]
 obtain ⟨w2, hw2⟩ : ∃ w2, w2 = IntKind.u64.wrap w := ⟨_, rfl⟩
 have k0' : aJ .u64 (I6 w) = some (.int .u64 w2) := by rw [dW, hw2]
 have hw3 : 0 ≤ n → n ≤ 63 → w2 = n := fun h0 h1 => by
  obtain ⟨m, rfl⟩ : ∃ m : Nat, n = (m : Int) := ⟨n.toNat, by omega⟩
  rw [hw2, hw, aLK m (by omega), eD (by omega) (by omega)]
 clear hw hw2
 have k1 := gL .i64 n
 have k3 := pV Tryd.prog 43 false x y
 have k4 := xW Tryd.prog 43 false x y hy
 have k5 := uJ Tryd.prog 43 false x y
 have k6 : ∀ H, aE (bQ.f G (k + 1)) [Un x, Un y] H = _ := fun H => aD (H := H) (yZ G k x y hx hy) rfl rfl
 have k7 : aQ Tryd.prog .and 43 false (Un x) (Un y) = some (Un (x &&& y)) := by rw [nC, uI x y hx hy]
 have k8 : aQ Tryd.prog .or 43 false (Un x) (Un y) = some (Un (x ||| y)) := by rw [aBy, aIH x y hx hy]
 have k9 : aQ Tryd.prog .xor 43 false (Un x) (Un y) = some (Un (x ^^^ y)) := by rw [xN, xX x y hx hy]
 have k10 : 0 ≤ n → n ≤ 63 → aQ Tryd.prog .shl 43 false (Un x) (.int .u64 w2) = some (Un (x * 2 ^ n.toNat % 18446744073709551616)) := fun h0 h1 => by
  have := uK Tryd.prog 43 false .u64 x n.toNat (by omega); rw [Int.toNat_of_nonneg h0] at this; rw [hw3 h0 h1]; exact this
 have k11 : 0 ≤ n → n ≤ 63 → aQ Tryd.prog .shr 43 false (Un x) (.int .u64 w2) = some (Un (x / 2 ^ n.toNat)) := fun h0 h1 => by
  have := rQ Tryd.prog 43 false .u64 x n.toNat (by omega); rw [Int.toNat_of_nonneg h0] at this; rw [hw3 h0 h1]; exact this
 have k12 := tA x hx
 have k13 : 0 ≤ n → n ≤ 63 → aQ Tryd.prog .shr 2 false (I6 (lV x)) (.int .u64 w2) = some (I6 ((lV x).fdiv (2 ^ n.toNat))) := fun h0 h1 => by
  rw [hw3 h0 h1, xL _ _ _ _ _ _ _ h0]
  have e : min n.toNat IntKind.i64.bits = n.toNat := Nat.min_eq_left (by have : IntKind.i64.bits = 64 := rfl; omega)
  rw [e]
 have k14 := gL .i64 ((lV x).fdiv (2 ^ n.toNat))
 have hq : u64 ((lV x).fdiv (2 ^ n.toNat)) = aCf x n.toNat := rfl
 rw [hq] at k14
 clear hw3 hq
 refine dX ?_
 repeat' first
  | (with_reducible first | refine eT ?_ | refine eN ?_ | refine eS ?_ | refine eXn ?_ | refine eXr ?_ | refine eX ?_ | refine eI ?_ | refine eK ?_ | refine eV0 ?_ | refine wX ?_ | refine xA ?_ | refine wU ?_ | refine wZ ?_ | refine wV ?_ | refine wW ?_)
  | ((with_reducible apply eCn); (simp only [eG, eF]; first | done | (with_reducible exact rfl)))
  | ((with_reducible apply eJ); (rfl))
  | ((with_reducible apply wY); (first | rfl | (simp only [eG, eF]; rfl)))
  | ((with_reducible apply eB); (first | (with_reducible exact rfl) | (simp (disch := omega) only [qf, k0, k0', k1, k3, k4, k5, k6, k7, k8, k9, k10, k11, k12, k13, k14]; first | done | (with_reducible exact rfl) | (with_reducible exact ⟨rfl, rfl⟩)) | (simp (disch := omega) only [qa, jM, AV.cells, fF, aZ, kZ, eP, fN, kS, Nat.reduceLeDiff, Nat.reduceLT, Nat.reduceAdd, ↓reduceIte, k0, k0', k1, k3, k4, k5, k6, k7, k8, k9, k10, k11, k12, k13, k14]; first | done | (with_reducible exact rfl) | (with_reducible exact ⟨rfl, rfl⟩))))
  | ((with_reducible apply eR); (simp only [eG, eF]; (with_reducible exact rfl)))
  | ((with_reducible first | refine zS ?_ ?_ | refine zX ?_ ?_ | refine zW ?_ ?_ | refine zV ?_ ?_ | refine zU ?_ ?_ | refine zT ?_ ?_ | refine zY ?_ ?_ | refine qZ ?_ ?_ | refine sGd ?_ ?_ | refine qK ?_ ?_) <;> intro hq <;> try subst hq)
 all_goals first | (refine mY ?_ ?_ <;> ((try simp (disch := omega) only [iS, pU, if_pos, if_neg, if_true, if_false, ↓reduceIte]) <;> first | done | rfl | omega)) | (by_cases h10 : op = 10 ∨ op = 11 ∨ op = 12 <;> refine mY ?_ ?_ <;> ((try simp (disch := omega) only [iS, pU, if_pos, if_neg, if_true, if_false, ↓reduceIte]) <;> first | done | rfl | omega))
def vJ (s : MS) (wr : Int) : AV := .agg [I6 s.code, .sl 2 s.mem.length 0 s.mem.length 1, .sl 6 s.leaks.length 0 s.leaks.length 2, Nn s.steps, I6 wr]
def nU (s : MS) (wr : Int) : aF :=
 [⟨40, 5, [.agg [.int .i64 0, .nils, .sl 5 0 0 0 2, .int .i64 0, .int .i64 0]]⟩, ⟨43, 1, []⟩, ⟨43, 1, bY s.mem⟩, ⟨40, 5, [vJ s wr]⟩, ⟨43, 1, bY (s.regs ++ [0])⟩, ⟨107, 2, []⟩, ⟨107, 2, gS s.leaks⟩]
def hD (s : MS) (wr : Int) (x : AV) : aF :=
 [⟨40, 5, [.agg [.int .i64 0, .nils, .sl 5 0 0 0 2, .int .i64 0, .int .i64 0]]⟩, ⟨43, 1, []⟩, ⟨43, 1, bY s.mem⟩, ⟨40, 5, [vJ s wr]⟩, ⟨43, 1, bY (s.regs ++ [0])⟩, ⟨107, 2, []⟩, ⟨107, 2, gS s.leaks⟩, ⟨60, 6, [x]⟩]
def aAw (s : MS) (wr : Int) (l : aF) : aF :=
 ⟨40, 5, [vJ s wr]⟩ :: ⟨43, 1, []⟩ :: ⟨43, 1, bY s.mem⟩ :: ⟨40, 5, [vJ s wr]⟩ :: ⟨43, 1, bY (s.regs ++ [0])⟩ :: ⟨107, 2, []⟩ :: ⟨107, 2, gS s.leaks⟩ :: l
def sD (sp : AV) (fuel : Int) (bc bor : Bool) (cs : List WI) (R : Nat) (M : Int) (pc : Nat) : List AV :=
 [sp, I6 fuel, .rp bc (.agg [.ro bor (gQ cs), I6 R, I6 M]) 0, .ptr 0 1 0 0, .ptr 3 1 0 0, .sl 4 (R + 1) 0 (R + 1) 1, Nn pc]
section
variable (G : aI) (s : MS) (wr : Int) (x : AV)
abbrev zI : AV := .agg [.int .i64 0, .int .i64 0, .int .i64 0, .int .i64 0, .int .i64 0, .int .i64 0]
theorem aLA : (nU s wr).length = 7 := rfl
theorem aHG : aC G false 1 (.ptr 3 1 0 3) (nU s wr) = some (Nn s.steps) := rfl
theorem aKN (n : Int) : eH (aO 1 (.ptr 3 1 0 0) (I6 n) (nU s wr)) = some (.tup [], nU { s with code := n } wr) := rfl
theorem aNt : aC G true 5 (.ptr 3 1 0 0) (nU s wr) = some (vJ s wr) := rfl
theorem aNu : eH (aO 5 (.ptr 0 1 0 0) (vJ s wr) (nU s wr)) = some (.tup [], aAw s wr []) := rfl
theorem aNX : eY 60 zI (nU s wr) = some (.ptr 7 1 0 0, hD s wr zI) := rfl
theorem aNZ (i : WI) : eH (aO 6 (.ptr 7 1 0 0) i.v (hD s wr zI)) = some (.tup [], hD s wr i.v) := rfl
theorem aMd : aC G false 1 (.ptr 3 1 0 3) (hD s wr x) = some (Nn s.steps) := rfl
theorem aIc (n : Nat) : eH (aO 1 (.ptr 3 1 0 3) (Nn n) (hD s wr x)) = some (.tup [], hD { s with steps := n } wr x) := rfl
theorem aKU (n : Int) : eH (aO 1 (.ptr 3 1 0 0) (I6 n) (hD s wr x)) = some (.tup [], hD { s with code := n } wr x) := rfl
theorem qV : aC G true 5 (.ptr 3 1 0 0) (hD s wr x) = some (vJ s wr) := rfl
theorem aNv : eH (aO 5 (.ptr 0 1 0 0) (vJ s wr) (hD s wr x)) = some (.tup [], aAw s wr [⟨60, 6, [x]⟩]) := rfl
theorem aEA : aC G false 1 (.ptr 3 1 0 2) (hD s wr x) = some (.sl 6 s.leaks.length 0 s.leaks.length 2) := rfl
theorem aOb : aC G false 1 (.ptr 3 1 0 1) (hD s wr x) = some (.sl 2 s.mem.length 0 s.mem.length 1) := rfl
theorem rI0 (i : WI) : aC G false 1 (.ptr 7 1 0 0) (hD s wr i.v) = some (I6 i.op) := rfl
theorem rI1 (i : WI) : aC G false 1 (.ptr 7 1 0 1) (hD s wr i.v) = some (I6 i.d) := rfl
theorem rI2 (i : WI) : aC G false 1 (.ptr 7 1 0 2) (hD s wr i.v) = some (I6 i.a) := rfl
theorem rI3 (i : WI) : aC G false 1 (.ptr 7 1 0 3) (hD s wr i.v) = some (I6 i.b) := rfl
theorem rI4 (i : WI) : aC G false 1 (.ptr 7 1 0 4) (hD s wr i.v) = some (I6 i.c) := rfl
theorem rI5 (i : WI) : aC G false 1 (.ptr 7 1 0 5) (hD s wr i.v) = some (I6 i.k) := rfl
theorem rI6 (i : WI) : aC G true 6 (.ptr 7 1 0 0) (hD s wr i.v) = some i.v := rfl
theorem aJB (p : Int × Int) (hl : s.leaks.length ≤ 1000000) : eQ 107 2 (.sl 6 s.leaks.length 0 s.leaks.length 2) (.ro false [jZ p]) (hD s wr x) =
  some (.sl 6 (s.leaks.length + 1) 0 (s.leaks.length + 1) 2, (hD s wr x).set 6 ⟨107, 2, gS (s.leaks ++ [p])⟩) := by
 have e : (hD s wr x)[6]? = some ⟨107, 2, gS s.leaks⟩ := rfl
 unfold eQ
 simp only [e, iK, jR, List.length_singleton]
 rw [if_pos (by refine ⟨?_, ?_, ?_, ?_, ?_⟩ <;> first | trivial | rfl | omega)]
 have e2 : (gS s.leaks).take s.leaks.length = gS s.leaks := List.take_of_length_le (by rw [jR]; exact Nat.le_refl _)
 have e3 : (gS s.leaks).drop (s.leaks.length + 1) = [] := List.drop_of_length_le (by rw [jR]; omega)
 rw [e2, e3, List.append_nil]
 have e4 : gS s.leaks ++ [jZ p] = gS (s.leaks ++ [p]) := by simp [gS]
 rw [e4, jR]; simp
theorem aJC (p : Int × Int) : eH (aO 1 (.ptr 3 1 0 2) (.sl 6 (s.leaks.length + 1) 0 (s.leaks.length + 1) 2) ((hD s wr x).set 6 ⟨107, 2, gS (s.leaks ++ [p])⟩)) =
  some (.tup [], hD (s.leak p.1 p.2) wr x) := by
 have e : (s.leak p.1 p.2).leaks.length = s.leaks.length + 1 := by simp [MS.leak]
 unfold hD vJ
 rw [e]
 rfl
theorem aMc (R : Nat) (j : Int) (h0 : 0 ≤ j) (hj : j ≤ R) (hR : s.regs.length = R) : aC G false 1 (.ptr 4 (R + 1) j.toNat 0) (hD s wr x) = some (Un (s.rg j)) := by
 have e : (hD s wr x)[4]? = some ⟨43, 1, bY (s.regs ++ [0])⟩ := rfl
 have hl : (s.regs ++ [0]).length = R + 1 := by simp [hR]
 have h1 : j.toNat < (s.regs ++ [0]).length := by rw [hl]; omega
 have e2 : (s.regs ++ [0]).getD j.toNat 0 = s.rg j := by
  unfold MS.rg
  simp only [List.getD_eq_getElem?_getD]
  by_cases hlt : j.toNat < s.regs.length
  ·rw [List.getElem?_append_left hlt]
  ·rw [List.getElem?_append_right (by omega), List.getElem?_eq_none (l := s.regs) (by omega)]
   have : j.toNat - s.regs.length = 0 := by omega
   rw [this]; rfl
 unfold aC
 simp only [e, bJ, hl, kN _ _ h1, if_true, e2]
 rfl
theorem aNw (R : Nat) (j : Int) (n : Nat) (h0 : 0 ≤ j) (hj : j < R) (hR : s.regs.length = R) : eH (aO 1 (.ptr 4 (R + 1) j.toNat 0) (Un n) (hD s wr x)) = some (.tup [], hD (s.set j n) wr x) := by
 have e : (hD s wr x)[4]? = some ⟨43, 1, bY (s.regs ++ [0])⟩ := rfl
 have hl : (s.regs ++ [0]).length = R + 1 := by simp [hR]
 have h1 : j.toNat < (s.regs ++ [0]).length := by rw [hl]; omega
 have e2 : (s.set j n).regs ++ [0] = (s.regs ++ [0]).set j.toNat n := by
  unfold MS.set
  rw [List.set_append_left _ _ (by omega)]
 unfold aO
 simp only [e, bJ, hl, kN _ _ h1]
 unfold hD
 rw [e2, rK]
 rfl
theorem aOa (j : Nat) (h : j < s.mem.length) : aC G false 1 (.ptr 2 s.mem.length j 0) (hD s wr x) = some (Un (s.mem.getD j 0)) := by
 have e : (hD s wr x)[2]? = some ⟨43, 1, bY s.mem⟩ := rfl
 unfold aC
 simp only [e, bJ, kN _ _ h, if_true]
 rfl
theorem aNY (n : Nat) (h : n < s.mem.length) : cB 1 (.sl 2 s.mem.length 0 s.mem.length 1) (Un n) = some (.ptr 2 s.mem.length n 0) := by
 have h0 : (0 : Int) ≤ (n : Int) := by omega
 have h' : (n : Int) < (s.mem.length : Int) := by omega
 simp [cB, h0, h']
theorem aOc (j n : Nat) (h : j < s.mem.length) : eH (aO 1 (.ptr 2 s.mem.length j 0) (Un n) (hD s wr x)) = some (.tup [], hD { s with mem := s.mem.set j n } wr x) := by
 have e : (hD s wr x)[2]? = some ⟨43, 1, bY s.mem⟩ := rfl
 unfold aO
 simp only [e, bJ, kN _ _ h]
 unfold hD vJ
 simp only [List.length_set, rK]
 rfl
theorem idR (R : Nat) (j : Int) (h0 : 0 ≤ j) (hj : j ≤ R) : cB 1 (.sl 4 (R + 1) 0 (R + 1) 1) (I6 j) = some (.ptr 4 (R + 1) j.toNat 0) := by
 have h' : j < ((R + 1 : Nat) : Int) := by omega
 simp only [cB]
 rw [if_pos ⟨h0, h'⟩, if_pos trivial, Nat.zero_add]
end
structure WI.Ok2 (i : WI) (R n : Nat) : Prop where
 ok : i.Ok R n
 sh : 10 ≤ i.op → i.op ≤ 12 → 0 ≤ i.k ∧ i.k ≤ 63
 ha : 0 ≤ i.a ∧ i.a ≤ R
 hb : 0 ≤ i.b ∧ i.b ≤ R
theorem aCk {op n : Int} {a b c : Nat} (h : 1 ≤ op ∧ op ≤ 14) (hs : 10 ≤ op → op ≤ 12 → 0 ≤ n ∧ n ≤ 63) : (iS op n a b c).2 = true := by
 by_cases e : op = 10 ∨ op = 11 ∨ op = 12
 ·have := hs (by omega) (by omega)
  have e2 : iS op n a b c = pU op n a := by
   unfold iS
   simp (disch := omega) only [if_neg, if_pos]
  rw [e2]
  unfold pU
  rw [if_neg (by omega)]
  split
  ·rfl
  ·split <;> rfl
 ·have : op = 1 ∨ op = 2 ∨ op = 3 ∨ op = 4 ∨ op = 5 ∨ op = 6 ∨ op = 7 ∨ op = 8 ∨ op = 9 ∨ op = 13 ∨ op = 14 := by omega
  rcases this with rfl | rfl | rfl | rfl | rfl | rfl | rfl | rfl | rfl | rfl | rfl <;> simp [iS]
theorem aHz {i : WI} {R n : Int} (h : iN i R n = none) (hR : 0 ≤ R) : i.Ok2 R.toNat n.toNat := by
 have h0 := aFx h hR
 unfold iN at h
 have h20 := h0.op
 by_cases h1 : rT (kV i.op) i R = true
 ·rw [if_pos h1] at h; split at h <;> cases h
 rw [if_neg h1] at h
 by_cases h2 : rS (kV i.op) i = true
 ·rw [if_pos h2] at h; split at h <;> cases h
 rw [if_neg h2] at h
 obtain ⟨op, d, a, b, c, kk⟩ := i
 simp only at h h1 h2 h20
 simp only [rT, rS, Bool.or_eq_true, not_or, Bool.and_eq_true, Bool.not_eq_true', decide_eq_true_eq, not_and, Bool.not_eq_true] at h1 h2
 rcases aJy h20 with rfl | rfl | rfl | rfl | rfl | rfl | rfl | rfl | rfl | rfl | rfl | rfl | rfl | rfl | rfl | rfl | rfl | rfl | rfl | rfl
 all_goals (
  simp [kV, iH, nZ] at h1 h2
  simp [iH] at h
  exact ⟨h0, by simp; try omega, by simp; omega, by simp; omega⟩)
theorem aDQ (G : aI) (k : Nat) (b : Bool) : bM.f G (k + 1) [.bool b] [] = some (.int .i64 (if b = true then 1 else 0), []) := by cases b <;> kernel_rfl
section
variable (G : aI) (k : Nat) (self : dE) (fuel : Int) (bc bor : Bool) (cs : List WI) (R : Nat) (s : MS) (wr : Int)
theorem aEH (sp : AV) (hsp : cK 0 sp = true) (M : Int) (pc : Nat) (H : aF) (hH : H.take 7 = nU s wr) : iL 7 (sD sp fuel bc bor cs R M pc) H = some (nU s wr) := by
 have h1 := kC (Nat.zero_le 7) hsp
 have h2 : dL 7 (nU s wr) = true := by simp [nU, vJ, dL, cS, cK, gT, nF]
 unfold iL
 rw [hH, h2]
 simp [sD, cS, cK, kX, h1]
theorem aIg (lp : iP) (i : WI) (H : aF) (hH : H.take 7 = nU s wr) (hs : s.Ok R) (hi : i.Ok2 R cs.length) (hcl : cs.length ≤ 100000) (hat : s.at_ < cs.length) (hci : cs.getD s.at_ default = i)
  (hst : (s.steps : Int) < fuel) (hst2 : s.steps ≤ 99998) (M : Int) (hM : M = s.mem.length) :
  bH.l4 G (k + 3) 7 self lp (sD .nils fuel bc bor cs R M s.at_) H =
   match s.tick.step i with
   | (s', true) => lp (sD .nils fuel bc bor cs R M s'.at_) (hD s' wr i.v)
   | (s', false) => some (.ret, sD .nils fuel bc bor cs R M s.at_, aAw s' wr [⟨60, 6, [i.v]⟩]) := by
 rw [bH.l4]
 have hc := aEH fuel bc bor cs R s wr .nils rfl M s.at_ H hH
 unfold sD at *
 have hll : s.leaks.length ≤ 999990 := by have := hs.leaks; omega
 refine jU ?_
 refine eC hc ?_
 have lc : dV (.ro bor (gQ cs)) = some (I6 cs.length) := by simp [dV, lG]
 have q1 : aQ Tryd.prog .geq 3 false (Nn s.at_) (I6 cs.length) = some (.bool false) := by rw [lE, decide_eq_false (by omega)]
 have q2 : aQ Tryd.prog .geq 2 false (Nn s.steps) (I6 fuel) = some (.bool false) := by rw [lE, decide_eq_false (by omega)]
 have q3 : aQ Tryd.prog .add 2 true (Nn s.steps) (.int .i64 1) = some (Nn (s.steps + 1)) := by
  rw [kH, fD (by omega) (by omega)]; congr 2
 have q4 : aQ Tryd.prog .add 3 true (Nn s.at_) (.int .i64 1) = some (Nn (s.at_ + 1)) := by
  rw [kH, fD (by omega) (by omega)]; congr 2
 have d1 := aKH bor cs s.at_ hat
 rw [hci] at d1
 have d2 : ∀ H, aC G true 6 (.rp bor i.v 0) H = some i.v := fun H => rfl
 have p1 := aHG G s wr
 have p2 := aNX s wr
 have p3 := aNZ s wr i
 have p4 := aMd G s wr i.v
 have p5 := aIc s wr i.v (s.steps + 1)
 obtain ⟨s1, hs1⟩ : ∃ s1 : MS, s1 = { s with steps := s.steps + 1 } := ⟨_, rfl⟩
 have hl1 : s1.leaks.length = s.leaks.length := by rw [hs1]
 rw [← hs1] at p5
 have p6 := aEA G s1 wr i.v
 have p7 : eQ 107 2 (.sl 6 s1.leaks.length 0 s1.leaks.length 2) (.ro false [.agg [.int .i64 1, Nn s.at_]]) (hD s1 wr i.v) = _ := aJB s1 wr i.v (1, s.at_) (by omega)
 have p8 := aJC s1 wr i.v (1, s.at_)
 have ht : s1.leak 1 s.at_ = s.tick := by rw [hs1]; rfl
 simp only [ht] at p8
 obtain ⟨t, htt⟩ : ∃ t, t = s.tick := ⟨_, rfl⟩
 have tok : t.Ok R := by
  rw [htt]; exact ⟨hs.len, hs.regs, hs.mem, by have := hs.leaks; simp [MS.tick, MS.leak]; omega, hs.big, by simp [MS.tick, MS.leak]; omega⟩
 have tat : t.at_ = s.at_ := by rw [htt]; rfl
 have tll : t.leaks.length ≤ 999991 := by rw [htt]; simp [MS.tick, MS.leak]; omega
 have tmem : t.mem = s.mem := by rw [htt]; rfl
 rw [← htt] at p8 ⊢
 clear htt ht hs1 hH hc
 have tR := tok.len
 obtain ⟨a0, a1⟩ := hi.ha
 obtain ⟨b0, b1⟩ := hi.hb
 have r2 := rI2 G t wr i
 have r3 := rI3 G t wr i
 have r0 := rI0 G t wr i
 have i2 := idR R i.a a0 a1
 have i3 := idR R i.b b0 b1
 have l2 := aMc G t wr i.v R i.a a0 a1 tR
 have l3 := aMc G t wr i.v R i.b b0 b1 tR
 have r5 := rI5 G t wr i
 have fx := aOO lc <| aOO q1 <| aOO q2 <| aOO q3 <| aOO q4 <| aOO d1 <| aOO d2 <| aOO p1 <| aOO p2 <| aOO p3 <| aOO p4 <| aOO p5 <| aOO p6 <| aOO p7 <| aOO p8 <| aOO r0 <| aOO r2 <| aOO r3 <| aOO i2 <| aOO i3 <| aOO l2 <| l3
 refine jL ?_
 clear lc q1 q2 q3 d1 d2 p1 p2 p3 p4 p5 p6 p7 p8 i2 i3 l2 l3 hci
 have e0 : t.step i = (let u : MS := { t with at_ := t.at_ + 1 };
  if i.op = 15 ∨ i.op = 16 then u.touch i
  else if i.op = 17 ∨ i.op = 18 ∨ i.op = 19 then (u.branch i, true)
  else if i.op = 20 then ({ u with code := i.k }, false)
  else if (iS i.op i.k (t.rg i.a) (t.rg i.b) (t.rg i.c)).2 = true then (u.set i.d (iS i.op i.k (t.rg i.a) (t.rg i.b) (t.rg i.c)).1, true)
  else (u, true)) := rfl
 have eat : t.at_ + 1 = s.at_ + 1 := by rw [tat]
 have hop := hi.ok.op
 subst hM
 by_cases h1 : i.op = 15 ∨ i.op = 16
 ·obtain ⟨ad, had⟩ : ∃ z, z = (t.rg i.a + u64 i.k) % 18446744073709551616 := ⟨_, rfl⟩
  have hadl : ad < 18446744073709551616 := by rw [had]; exact Nat.mod_lt _ (by decide)
  have c1 : aJ .u64 (I6 i.k) = some (Un (u64 i.k)) := gL ..
  have c2 := pV Tryd.prog 43 false (t.rg i.a) (u64 i.k)
  rw [← had] at c2
  have c3 := tA ad hadl
  have p6 := aEA G t wr i.v
  have p7 : eQ 107 2 (.sl 6 t.leaks.length 0 t.leaks.length 2) (.ro false [.agg [.int .i64 3, I6 (lV ad)]]) (hD t wr i.v) = _ := aJB t wr i.v (3, lV ad) (by omega)
  have p8 := aJC t wr i.v (3, lV ad)
  have e1 : t.step i = (if t.mem.length ≤ ad then ({ (({ t with at_ := t.at_ + 1 } : MS).leak 3 (lV ad)) with code := 3 }, false) else if i.op = 15 then (({ t with at_ := t.at_ + 1 } : MS).leak 3 (lV ad) |>.set i.d (t.mem.getD ad 0), true) else ({ (({ t with at_ := t.at_ + 1 } : MS).leak 3 (lV ad)) with mem := t.mem.set ad (t.rg i.b) }, true)) := by
   rw [e0]
   simp only
   rw [if_pos h1]
   unfold MS.touch
   simp only
   rw [had]; rfl
  rw [e1]
  clear e0 e1 had
  have hml : t.mem.length = s.mem.length := by rw [tmem]
  have hbig := hs.big
  obtain ⟨t1, ht1⟩ : ∃ t1, t1 = t.leak 3 (lV ad) := ⟨_, rfl⟩
  have t1m : t1.mem = t.mem := by rw [ht1]; rfl
  have t1r : t1.regs = t.regs := by rw [ht1]; rfl
  simp only [← ht1] at p8
  have r0' := rI0 G t1 wr i
  have r1' := rI1 G t1 wr i
  have cM : aJ .u64 (I6 (s.mem.length : Int)) = some (Un s.mem.length) := by rw [gL, aKf _ (by omega)]
  have bcM : ∀ H, aC G false 1 (.rp bc (.agg [.ro bor (gQ cs), I6 R, I6 (s.mem.length : Int)]) 2) H = some (I6 (s.mem.length : Int)) := fun H => rfl
  by_cases hin : t.mem.length ≤ ad
  ·rw [if_pos hin]
   have q5 : aQ Tryd.prog .geq 43 false (Un ad) (Un s.mem.length) = some (.bool true) := by rw [lE, decide_eq_true (by omega)]
   have z1 := aKU t1 wr i.v 3
   have z2 := qV G { t1 with code := 3 } wr i.v
   have z3 := aNv { t1 with code := 3 } wr i.v
   repeat' first
    | (with_reducible first | refine eT ?_ | refine eN ?_ | refine eS ?_ | refine eXn ?_ | refine eXr ?_ | refine eX ?_ | refine eI ?_ | refine eK ?_ | refine eV0 ?_ | refine wX ?_ | refine xA ?_ | refine wU ?_ | refine wZ ?_ | refine wV ?_ | refine wW ?_)
    | ((with_reducible apply eCn); (simp only [eG, eF]; first | done | (with_reducible exact rfl)))
    | ((with_reducible apply eJ); (rfl))
    | ((with_reducible apply wY); (first | rfl | (simp only [eG, eF]; rfl)))
    | ((with_reducible apply eB); (first | (with_reducible exact rfl) | (simp (disch := omega) only [qf, r5, c1, c2, c3, p6, p7, p8, cM, bcM, q5, z1, z2, z3]; first | done | (with_reducible exact rfl) | (with_reducible exact ⟨rfl, rfl⟩)) | (simp (disch := omega) only [qa, jM, AV.cells, fF, aZ, kZ, eP, fN, kS, Nat.reduceLeDiff, Nat.reduceLT, Nat.reduceAdd, ↓reduceIte, r5, c1, c2, c3, p6, p7, p8, cM, bcM, q5, z1, z2, z3]; first | done | (with_reducible exact rfl) | (with_reducible exact ⟨rfl, rfl⟩))))
    | ((with_reducible apply eR); (simp only [eG, eF]; (with_reducible exact rfl)))
    | ((with_reducible first | refine zS ?_ ?_ | refine zX ?_ ?_ | refine zW ?_ ?_ | refine zV ?_ ?_ | refine zU ?_ ?_ | refine zT ?_ ?_ | refine zY ?_ ?_ | refine qZ ?_ ?_ | refine sGd ?_ ?_ | refine qK ?_ ?_) <;> intro hq <;> try subst hq)
   all_goals (rw [ht1]; refine iA ?_; rfl)
  ·rw [if_neg hin]
   have q5 : aQ Tryd.prog .geq 43 false (Un ad) (Un s.mem.length) = some (.bool false) := by rw [lE, decide_eq_false (by omega)]
   have m1 := aOb G t1 wr i.v
   have m2 := aNY t1 ad (by rw [t1m]; omega)
   have m3 := aOa G t1 wr i.v ad (by rw [t1m]; omega)
   by_cases h15 : i.op = 15
   ·rw [if_pos h15]
    have q6 : aQ Tryd.prog .eql 3 true (I6 i.op) (.int .i64 15) = some (.bool true) := by rw [jW, decide_eq_true h15]
    obtain ⟨d0, dR⟩ := hi.ok.d (by omega)
    have m4 := idR R i.d d0 (by omega)
    have m5 := aNw t1 wr i.v R i.d (t1.mem.getD ad 0) d0 dR (by rw [t1r]; exact tR)
    have fx := aOO r5 <| aOO c1 <| aOO c2 <| aOO c3 <| aOO p6 <| aOO p7 <| aOO p8 <| aOO cM <| aOO bcM <| aOO q5 <| aOO q6 <| aOO r0' <| aOO r1' <| aOO m1 <| aOO m2 <| aOO m3 <| aOO m4 <| m5
    refine gC ?_
    rw [t1m, ht1, ← eat]; refine iA ?_; rfl
   ·rw [if_neg h15]
    have q6 : aQ Tryd.prog .eql 3 true (I6 i.op) (.int .i64 15) = some (.bool false) := by rw [jW, decide_eq_false h15]
    have m5 := aOc t1 wr i.v ad (t.rg i.b) (by rw [t1m]; omega)
    have fx := aOO r5 <| aOO c1 <| aOO c2 <| aOO c3 <| aOO p6 <| aOO p7 <| aOO p8 <| aOO cM <| aOO bcM <| aOO q5 <| aOO q6 <| aOO r0' <| aOO r1' <| aOO m1 <| aOO m2 <| aOO m3 <| m5
    refine gC ?_
    rw [t1m, ht1, ← eat]; refine iA ?_; rfl
 by_cases h2 : i.op = 17 ∨ i.op = 18 ∨ i.op = 19
 ·have hk := hi.ok.k (by omega) (by omega)
  have nk : I6 i.k = Nn i.k.toNat := by show AV.int .i64 i.k = .int .i64 _; congr 1; omega
  rw [nk] at r5
  have e1 : t.step i = (({ t with at_ := t.at_ + 1 } : MS).branch i, true) := by
   rw [e0]
   simp only
   rw [if_neg h1, if_pos h2]
  rw [e1]
  clear e0 e1
  by_cases h17 : i.op = 17
  ·unfold MS.branch
   rw [if_pos h17]
   have fx := aOO r0 <| r5
   refine gC ?_
   refine iA ?_; rfl
  ·unfold MS.branch
   rw [if_neg h17]
   have p6 := aEA G t wr i.v
   have z0 : aQ Tryd.prog .eql 43 true (Un (t.rg i.a)) (.int .u64 0) = some (.bool (decide (t.rg i.a = 0))) := by
    rw [jW]; congr 2; simp only [decide_eq_decide]; omega
   have z1 : aQ Tryd.prog .eql 3 true (I6 i.op) (.int .i64 18) = some (.bool (decide (i.op = 18))) := jW ..
   have z2 : aQ Tryd.prog .eql 4 false (.bool (decide (t.rg i.a = 0))) (.bool (decide (i.op = 18))) = some (.bool (decide (t.rg i.a = 0) == decide (i.op = 18))) := sU Tryd.underlying4 ..
   have z3 : ∀ b H, aE (bM.f G (k + 3)) [.bool b] H = _ := fun b H => aD (H := H) (aDQ G (k + 2) b) rfl rfl
   have rgu : (({ t with at_ := t.at_ + 1 } : MS).rg i.a) = t.rg i.a := rfl
   rw [rgu]
   by_cases hg : (decide (t.rg i.a = 0) == decide (i.op = 18)) = true
   ·rw [if_pos hg]
    rw [hg] at z2
    have z3' := z3 true
    rw [if_pos rfl] at z3'
    have p7 : eQ 107 2 (.sl 6 t.leaks.length 0 t.leaks.length 2) (.ro false [.agg [.int .i64 2, .int .i64 1]]) (hD t wr i.v) = _ := aJB t wr i.v (2, 1) (by omega)
    have p8 := aJC t wr i.v (2, 1)
    have r5' : ∀ y, aC G false 1 (.ptr 7 1 0 5) (hD (t.leak 2 y) wr i.v) = some (Nn i.k.toNat) := fun y => by rw [rI5, nk]
    clear z3
    have w18 : aQ Tryd.prog .eql 3 true (I6 i.op) (.int .i64 17) = some (.bool false) := by rw [jW, decide_eq_false h17]
    generalize decide (t.rg i.a = 0) = g1 at *
    generalize hg2 : decide (i.op = 18) = g2 at *
    have w19 : g2 = false → aQ Tryd.prog .eql 3 true (I6 i.op) (.int .i64 19) = some (.bool true) := fun h => by
     subst h; simp at hg2; rw [jW, decide_eq_true (by omega)]
    cases hgg : g2
    ·rw [hgg] at z1 z2
     have w19 := w19 hgg
     have fx := aOO r0 <| aOO r5' <| aOO p6 <| aOO p7 <| aOO p8 <| aOO z0 <| aOO z1 <| aOO z2 <| aOO z3' <| aOO w18 <| w19
     refine gC ?_
     refine iA ?_; rfl
    ·rw [hgg] at z1 z2
     have fx := aOO r0 <| aOO r5' <| aOO p6 <| aOO p7 <| aOO p8 <| aOO z0 <| aOO z1 <| aOO z2 <| aOO z3' <| w18
     refine gC ?_
     refine iA ?_; rfl
   ·rw [if_neg hg]
    rw [Bool.not_eq_true] at hg
    rw [hg] at z2
    have z3' := z3 false
    rw [if_neg (by decide)] at z3'
    have p7 : eQ 107 2 (.sl 6 t.leaks.length 0 t.leaks.length 2) (.ro false [.agg [.int .i64 2, .int .i64 0]]) (hD t wr i.v) = _ := aJB t wr i.v (2, 0) (by omega)
    have p8 := aJC t wr i.v (2, 0)
    clear z3
    have w18 : aQ Tryd.prog .eql 3 true (I6 i.op) (.int .i64 17) = some (.bool false) := by rw [jW, decide_eq_false h17]
    generalize decide (t.rg i.a = 0) = g1 at *
    generalize hg2 : decide (i.op = 18) = g2 at *
    have w19 : g2 = false → aQ Tryd.prog .eql 3 true (I6 i.op) (.int .i64 19) = some (.bool true) := fun h => by
     subst h; simp at hg2; rw [jW, decide_eq_true (by omega)]
    cases hgg : g2
    ·rw [hgg] at z1 z2
     have w19 := w19 hgg
     have fx := aOO r0 <| aOO p6 <| aOO p7 <| aOO p8 <| aOO z0 <| aOO z1 <| aOO z2 <| aOO z3' <| aOO w18 <| w19
     refine gC ?_
     rw [← eat]; refine iA ?_; rfl
    ·rw [hgg] at z1 z2
     have fx := aOO r0 <| aOO p6 <| aOO p7 <| aOO p8 <| aOO z0 <| aOO z1 <| aOO z2 <| aOO z3' <| w18
     refine gC ?_
     rw [← eat]; refine iA ?_; rfl
 by_cases h3 : i.op = 20
 ·have e1 : t.step i = ({ ({ t with at_ := t.at_ + 1 } : MS) with code := i.k }, false) := by
   rw [e0]
   simp only
   rw [if_neg h1, if_neg h2, if_pos h3]
  rw [e1]
  clear e0 e1
  have z1 := aKU t wr i.v i.k
  have z2 := qV G { t with code := i.k } wr i.v
  have z3 := aNv { t with code := i.k } wr i.v
  have fx := aOO r0 <| aOO r5 <| aOO z1 <| aOO z2 <| z3
  refine gC ?_
  refine iA ?_; rfl
 ·have hv := aCk (n := i.k) (a := t.rg i.a) (b := t.rg i.b) (c := t.rg i.c) (show 1 ≤ i.op ∧ i.op ≤ 14 by omega) hi.sh
  have e1 : t.step i = (({ t with at_ := t.at_ + 1 } : MS).set i.d (iS i.op i.k (t.rg i.a) (t.rg i.b) (t.rg i.c)).1, true) := by
   rw [e0]
   simp only
   rw [if_neg h1, if_neg h2, if_neg h3, if_pos hv]
  rw [e1]
  clear e0 e1
  obtain ⟨d0, dR⟩ := hi.ok.d (by omega)
  obtain ⟨c0, cR⟩ := hi.ok.c (by omega)
  have z1 := rI6 G t wr i
  have z2 := rI4 G t wr i
  have z3 := idR R i.c c0 (by omega)
  have z4 := aMc G t wr i.v R i.c c0 (by omega) tR
  have z5 : ∀ H, aE (bS.f G (k + 3)) [i.v, Un (t.rg i.a), Un (t.rg i.b), Un (t.rg i.c)] H = _ := fun H => aD (H := H) (aDF G (k + 1) i.op i.d i.a i.b i.c i.k _ _ _ (tok.rg _) (tok.rg _) (tok.rg _)) rfl rfl
  have z6 := rI1 G t wr i
  have z7 := idR R i.d d0 (by omega)
  have z8 := aNw t wr i.v R i.d (iS i.op i.k (t.rg i.a) (t.rg i.b) (t.rg i.c)).1 d0 dR tR
  rw [hv] at z5
  generalize (iS i.op i.k (t.rg i.a) (t.rg i.b) (t.rg i.c)).1 = v at *
  have fx := aOO r0 <| aOO z1 <| aOO z2 <| aOO z3 <| aOO z4 <| aOO z5 <| aOO z6 <| aOO z7 <| z8
  refine gC ?_
  rw [← eat]; refine iA ?_; rfl
end
section
variable (G : aI) (k : Nat) (self : dE) (fuel : Int) (bc bor : Bool) (cs : List WI) (R : Nat) (wr : Int)
theorem aFM (hcl : cs.length ≤ 100000) (hcs : ∀ j, j < cs.length → (cs.getD j default).Ok2 R cs.length) (hf : fuel ≤ 99998) (M : Int) : ∀ (f : Nat) (s s' : MS) (H : aF), oA cs fuel f s = some s' → s.Ok R → (s.steps : Int) ≤ fuel → M = s.mem.length → s.at_ ≤ cs.length → H.take 7 = nU s wr →
  ∃ pc l, gH (bH.l4 G (k + 3) 7 self) f (sD .nils fuel bc bor cs R M s.at_) H = some (.ret, sD .nils fuel bc bor cs R M pc, aAw s' wr l)
 | 0, s, s', H, h, hs, hst, hM, hat, hH => by simp [oA] at h
 | f + 1, s, s', H, h, hs, hst, hM, hat, hH => by
  have few := hs.few
  rw [fJ]
  simp only [oA] at h
  by_cases h1 : cs.length ≤ s.at_
  ·rw [if_pos h1] at h
   simp only [Option.some.injEq] at h
   refine ⟨s.at_, [], ?_⟩
   rw [bH.l4]
   have hc := aEH fuel bc bor cs R s wr .nils rfl M s.at_ H hH
   unfold sD at *
   have lc : dV (.ro bor (gQ cs)) = some (I6 cs.length) := by simp [dV, lG]
   have q1 : aQ Tryd.prog .geq 3 false (Nn s.at_) (I6 cs.length) = some (.bool true) := by rw [lE, decide_eq_true (by omega)]
   have z1 := aKN s wr 3
   have z2 := aNt G { s with code := 3 } wr
   have z3 := aNu { s with code := 3 } wr
   rw [h] at z1 z2 z3
   refine jU ?_
   refine eC hc ?_
   have fx := aOO lc <| aOO q1 <| aOO z1 <| aOO z2 <| z3
   refine gC ?_
   refine iA ?_; rfl
  rw [if_neg h1] at h
  by_cases h2 : (s.steps : Int) = fuel
  ·rw [if_pos h2] at h
   simp only [Option.some.injEq] at h
   refine ⟨s.at_, [], ?_⟩
   rw [bH.l4]
   have hc := aEH fuel bc bor cs R s wr .nils rfl M s.at_ H hH
   unfold sD at *
   have lc : dV (.ro bor (gQ cs)) = some (I6 cs.length) := by simp [dV, lG]
   have q1 : aQ Tryd.prog .geq 3 false (Nn s.at_) (I6 cs.length) = some (.bool false) := by rw [lE, decide_eq_false (by omega)]
   have q2 : aQ Tryd.prog .geq 2 false (Nn s.steps) (I6 fuel) = some (.bool true) := by rw [lE, decide_eq_true (by omega)]
   have p1 := aHG G s wr
   have z1 := aKN s wr 4
   have z2 := aNt G { s with code := 4 } wr
   have z3 := aNu { s with code := 4 } wr
   rw [h] at z1 z2 z3
   refine jU ?_
   refine eC hc ?_
   have fx := aOO lc <| aOO q1 <| aOO q2 <| aOO p1 <| aOO z1 <| aOO z2 <| z3
   refine gC ?_
   refine iA ?_; rfl
  rw [if_neg h2] at h
  have hi := hcs s.at_ (by omega)
  rw [aIg G k self fuel bc bor cs R s wr _ (cs.getD s.at_ default) H hH hs hi hcl (by omega) rfl (by omega) (by omega) M hM]
  have okt : s.tick.Ok R := ⟨hs.len, hs.regs, hs.mem, by have := hs.leaks; simp [MS.tick, MS.leak]; omega, hs.big, by simp [MS.tick, MS.leak]; omega⟩
  obtain ⟨o1, o2, o3, o4⟩ := MS.step_ok okt hi.ok (by have := hs.leaks; simp [MS.tick, MS.leak]; omega) (show s.tick.at_ < cs.length from by show s.at_ < _; omega)
  have tm : s.tick.mem = s.mem := rfl
  have tst : s.tick.steps = s.steps + 1 := rfl
  obtain ⟨s2, b, hsb⟩ : ∃ s2 b, s.tick.step (cs.getD s.at_ default) = (s2, b) := ⟨_, _, rfl⟩
  rw [hsb] at h o1 o2 o3 o4 ⊢
  simp only at h o1 o2 o3 o4
  cases b
  ·simp only [Option.some.injEq] at h
   subst h
   exact ⟨s.at_, _, rfl⟩
  ·exact aFM hcl hcs hf M f s2 s' _ h o1 (by rw [o3, tst]; omega) (by rw [o4, tm]; exact hM) o2 rfl
abbrev aER : ABlk := ⟨40, 5, [.agg [.int .i64 0, .nils, .nils, .int .i64 0, .int .i64 0]]⟩
def mZ (l : List Nat) : aF := [aER, ⟨43, 1, []⟩, ⟨43, 1, bY l⟩]
theorem uM (b : Bool) (mem : List Nat) (hml : mem.length ≤ 1000000) : ∀ (suf pre : List Nat) (f : Nat), mem = pre ++ suf → suf.length < f →
  gH (aX.l3 G k 3 self) f [.ro b (bY mem), .sl 2 pre.length 0 pre.length 1, Nn pre.length] (mZ pre) = some (.exit 0, [.ro b (bY mem), .sl 2 mem.length 0 mem.length 1, Nn mem.length], mZ mem)
 | suf, pre, 0, hm, hf => by omega
 | [], pre, f + 1, hm, hf => by
  rw [fJ, aX.l3]
  have hl : mem = pre := by rw [hm]; simp
  have hc : iL 3 [.ro b (bY mem), .sl 2 pre.length 0 pre.length 1, Nn pre.length] (mZ pre) = some (mZ pre) := by
   simp [iL, mZ, cS, cK, dL, gT]
  have lc : dV (.ro b (bY mem)) = some (I6 mem.length) := by simp [dV, bJ]
  have q : aQ Tryd.prog .lss 3 false (Nn pre.length) (Nn mem.length) = some (.bool false) := by rw [lP, decide_eq_false (by rw [hl]; omega)]
  refine jU ?_
  refine eC hc ?_
  have fx := aOO lc <| q
  refine gC ?_
  rw [hl]
  refine iA ?_; rfl
 | a :: suf, pre, f + 1, hm, hf => by
  rw [fJ, aX.l3]
  have hl : mem.length = pre.length + (suf.length + 1) := by rw [hm]; simp
  have hc : iL 3 [.ro b (bY mem), .sl 2 pre.length 0 pre.length 1, Nn pre.length] (mZ pre) = some (mZ pre) := by
   simp [iL, mZ, cS, cK, dL, gT]
  have lc : dV (.ro b (bY mem)) = some (I6 mem.length) := by simp [dV, bJ]
  have q : aQ Tryd.prog .lss 3 false (Nn pre.length) (Nn mem.length) = some (.bool true) := by rw [lP, decide_eq_true (by omega)]
  have ha : mem.getD pre.length 0 = a := by rw [hm]; simp [List.getD]
  have d1 : cB 1 (.ro b (bY mem)) (Nn pre.length) = some (.rp b (Un a) 0) := by
   have := kN mem pre.length (by omega)
   rw [ha] at this
   exact uX this rfl
  have d2 : ∀ H, aC G false 1 (.rp b (Un a) 0) H = some (Un a) := fun H => rfl
  have d3 : eQ 43 1 (.sl 2 pre.length 0 pre.length 1) (.ro false [Un a]) (mZ pre) = some (.sl 2 (pre ++ [a]).length 0 (pre ++ [a]).length 1, mZ (pre ++ [a])) := by
   have e : (mZ pre)[2]? = some ⟨43, 1, bY pre⟩ := rfl
   unfold eQ
   simp only [e, iK, bJ, List.length_singleton]
   rw [if_pos (by refine ⟨?_, ?_, ?_, ?_, ?_⟩ <;> first | trivial | rfl | omega)]
   have e2 : (bY pre).take pre.length = bY pre := List.take_of_length_le (by rw [bJ]; exact Nat.le_refl _)
   have e3 : (bY pre).drop (pre.length + 1) = [] := List.drop_of_length_le (by rw [bJ]; omega)
   rw [e2, e3, List.append_nil]
   have e4 : bY pre ++ [Un a] = bY (pre ++ [a]) := by simp [bY]
   rw [e4, bJ]; simp [mZ]
  have d4 : aQ Tryd.prog .add 3 true (Nn pre.length) (.int .i64 1) = some (Nn (pre ++ [a]).length) := by
   rw [kH, fD (by omega) (by omega)]; congr 2; simp
  have ih := uM b mem hml suf (pre ++ [a]) f (by rw [hm]; simp) (by simp at hf; omega)
  refine jU ?_
  refine eC hc ?_
  have fx := aOO lc <| aOO q <| aOO d1 <| aOO d2 <| aOO d3 <| d4
  refine gC ?_
  exact ih
theorem aCm (b : Bool) (mem : List Nat) (hml : mem.length ≤ 1000000) (hk : mem.length < k) : aX.f G (k + 1) [.ro b (bY mem)] [aER] = some (.sl 2 mem.length 0 mem.length 1, mZ mem) := by
 rw [aX.step]
 unfold aX.c
 have lc : dV (.ro b (bY mem)) = some (I6 mem.length) := by simp [dV, bJ]
 have ms : jA 43 1 (.int .u64 0) (.int .i64 0) (I6 mem.length) [aER, ⟨43, 1, []⟩] = some (.sl 2 0 0 0 1, mZ []) := by
  unfold jA
  simp only
  rw [if_pos (by omega)]
  rfl
 have lp : gH (aX.l3 G k 3 (aX.f G k)) k [.ro b (bY mem), .sl 2 0 0 0 1, .int .i64 0] (mZ []) = _ := uM G k (aX.f G k) b mem hml mem [] k rfl hk
 refine dX ?_
 have fx := aOO lc <| ms
 have lx1 := lp
 refine gC ?_
 refine iA ?_; rfl
def vM (s : MS) (wr : Int) : AV := .agg [I6 s.code, .ro false (bY s.mem), .ro false (gS s.leaks), Nn s.steps, I6 wr]
theorem aCl (s : MS) (wr : Int) : fM (vM s wr) = true := by simp [vM, fM, iW, jO, aFh]
theorem aIb (s : MS) (wr : Int) (l : aF) : fX [aC G true 5 (.ptr 0 1 0 0) (aAw s wr l)] ([] : aF).length (aAw s wr l) = some (.ret, [vM s wr], []) := by
 have f1 := yQ (H := aAw s wr l) (b := 2) (n0 := 0) (d := 4) (ty := 43) rfl (by omega) (bJ s.mem) (aFa _) (gT 0 _)
 have f2 := yQ (H := aAw s wr l) (b := 6) (n0 := 0) (d := 4) (ty := 107) rfl (by omega) (jR s.leaks) (aEZ _) (nF 0 _)
 have f3 : uV (aAw s wr l) 0 6 (vJ s wr) = some (vM s wr) :=
  aFq (by simp [cS, cK]) (kA (lR rfl 5) (kA f1 (kA f2 (kA (lR rfl 5) (kA (lR rfl 5) yX)))))
 have hl : aC G true 5 (.ptr 0 1 0 0) (aAw s wr l) = some (vJ s wr) := rfl
 unfold fX
 rw [hl]
 simp only [xH]
 exact aJe f3 rfl
theorem aGw (M : Int) (mem : List Nat) (bm : Bool) (hR : R ≤ 100000) (hm : ∀ x ∈ mem, x < 18446744073709551616) (hml : mem.length ≤ 1000000) (hM : M = mem.length) (h0 : 0 ≤ fuel) (hf : fuel ≤ 99998) (hcl : cs.length ≤ 100000)
  (hcs : ∀ j, j < cs.length → (cs.getD j default).Ok2 R cs.length) (hk : mem.length < k + 2) (s' : MS) (hrun : oA cs fuel (k + 3) (s0 R mem) = some s') :
  bH.f G (k + 4) [cV bor cs R M, .nils, .ro bm (bY mem), I6 fuel] [] = some (vM s' (-1), []) := by
 rw [bH.step]
 unfold bH.c cV
 obtain ⟨pc, l, lp⟩ := aFM G k (bH.f G (k + 3)) fuel false bor cs R (-1) hcl hcs hf M (k + 3) (s0 R mem) s' (nU (s0 R mem) (-1)) hrun (aIB R mem hm hml) (by simp only [s0]; omega) (by simpa [s0] using hM) (by simp [s0]) rfl
 have w1_ : bF (aX.f G (k + 3)) [.ro bm (bY mem)] [aER] = some (.sl 2 mem.length 0 mem.length 1, [aER, ⟨43, 1, []⟩, ⟨43, 1, bY mem⟩]) := qO (aCm G (k + 2) bm mem hml hk) (by simp [mZ])
 have q1 : aQ Tryd.prog .add 3 true (I6 R) (.int .i64 1) = some (I6 (R + 1 : Nat)) := by
  rw [kH, fD (by omega) (by omega)]; congr 2
 have c5 : jA 43 1 (.int .u64 0) (I6 (R + 1 : Nat)) (I6 (R + 1 : Nat)) [aER, ⟨43, 1, []⟩, ⟨43, 1, bY mem⟩, ⟨40, 5, [.agg [.int .i64 0, .sl 2 mem.length 0 mem.length 1, .nils, .int .i64 0, .int .i64 (-1)]]⟩] =
   some (.sl 4 (R + 1) 0 (R + 1) 1, [aER, ⟨43, 1, []⟩, ⟨43, 1, bY mem⟩, ⟨40, 5, [.agg [.int .i64 0, .sl 2 mem.length 0 mem.length 1, .nils, .int .i64 0, .int .i64 (-1)]]⟩, ⟨43, 1, bY (List.replicate R 0 ++ [0])⟩]) := by
  unfold jA
  have : (0 : Int) ≤ (R + 1 : Nat) ∧ ((R + 1 : Nat) : Int) ≤ (R + 1 : Nat) ∧ ((R + 1 : Nat) : Int) ≤ 1099511627776 := by omega
  have e : List.replicate R 0 ++ [0] = List.replicate (R + 1) 0 := by rw [List.replicate_succ']
  rw [e]
  simp only [this, and_self, if_true, Int.toNat_natCast, bY, List.map_replicate]
  rfl
 refine dX ?_
 have fx := aOO w1_ <| aOO q1 <| c5
 refine jL ?_
 refine eV1 (H1 := [⟨40, 5, [.agg [.int .i64 0, .nils, .sl 5 0 0 0 2, .int .i64 0, .int .i64 0]]⟩, ⟨43, 1, []⟩, ⟨43, 1, bY mem⟩, ⟨40, 5, [.agg [.int .i64 0, .sl 2 mem.length 0 mem.length 1, .nils, .int .i64 0, .int .i64 (-1)]]⟩, ⟨43, 1, bY (List.replicate R 0 ++ [0])⟩, ⟨107, 2, []⟩]) rfl ?_
 refine eV1 (H1 := nU (s0 R mem) (-1)) rfl ?_
 refine eV0 ?_
 rw [aLA]
 refine eK ?_
 refine eL lp ?_
 have fx := True.intro
 refine jL ?_
 exact oF (aIb G s' (-1) l)
end
theorem aLN {x : AV} (h : IsT Tryd.prog 60 x) : ∃ i : WI, x = i.v ∧ (-9223372036854775808 ≤ i.k ∧ i.k < 9223372036854775808) := by
 obtain ⟨cs, rfl, hf⟩ := h.of_struct Tryd.underlying60
 cases hf with
 | cons h1 hf =>
 cases hf with
 | cons h2 hf =>
 cases hf with
 | cons h3 hf =>
 cases hf with
 | cons h4 hf =>
 cases hf with
 | cons h5 hf =>
 cases hf with
 | cons h6 hf =>
 cases hf with
 | nil =>
 obtain ⟨a, rfl, _⟩ := h1.of_int (k := .i64) Tryd.underlying3
 obtain ⟨b, rfl, _⟩ := h2.of_int (k := .i64) Tryd.underlying3
 obtain ⟨c, rfl, _⟩ := h3.of_int (k := .i64) Tryd.underlying3
 obtain ⟨d, rfl, _⟩ := h4.of_int (k := .i64) Tryd.underlying3
 obtain ⟨e, rfl, _⟩ := h5.of_int (k := .i64) Tryd.underlying3
 obtain ⟨f, rfl, hw⟩ := h6.of_int (k := .i64) Tryd.underlying2
 exact ⟨⟨a, b, c, d, e, f⟩, rfl, aAk hw⟩
theorem aFN (cs : List WI) (fuel : Int) (R : Nat) (hf : fuel ≤ 99999) (hcs : ∀ j, j < cs.length → (cs.getD j default).Ok R cs.length) : ∀ (f : Nat) (s s' : MS), oA cs fuel f s = some s' → s.Ok R → s.at_ ≤ cs.length → (s.steps : Int) ≤ fuel →
  s'.Ok R ∧ (s'.steps : Int) ≤ fuel ∧ s'.mem.length = s.mem.length
 | 0, s, s', h, _, _, _ => by simp [oA] at h
 | f + 1, s, s', h, hs, hat, hst => by
  simp only [oA] at h
  by_cases h1 : cs.length ≤ s.at_
  ·rw [if_pos h1] at h; simp only [Option.some.injEq] at h; subst h
   exact ⟨⟨hs.len, hs.regs, hs.mem, hs.leaks, hs.big, hs.few⟩, hst, rfl⟩
  rw [if_neg h1] at h
  by_cases h2 : (s.steps : Int) = fuel
  ·rw [if_pos h2] at h; simp only [Option.some.injEq] at h; subst h
   exact ⟨⟨hs.len, hs.regs, hs.mem, hs.leaks, hs.big, hs.few⟩, hst, rfl⟩
  rw [if_neg h2] at h
  have okt : s.tick.Ok R := ⟨hs.len, hs.regs, hs.mem, by have := hs.leaks; simp [MS.tick, MS.leak]; omega, hs.big, by simp [MS.tick, MS.leak]; omega⟩
  obtain ⟨o1, o2, o3, o4⟩ := MS.step_ok okt (hcs s.at_ (by omega)) (by have := hs.leaks; simp [MS.tick, MS.leak]; omega) (show s.tick.at_ < cs.length from by show s.at_ < _; omega)
  have tst : s.tick.steps = s.steps + 1 := rfl
  have tm : s.tick.mem = s.mem := rfl
  obtain ⟨s2, b, hsb⟩ : ∃ s2 b, s.tick.step (cs.getD s.at_ default) = (s2, b) := ⟨_, _, rfl⟩
  rw [hsb] at h o1 o2 o3 o4
  simp only at h o1 o2 o3 o4
  cases b
  ·simp only [Option.some.injEq] at h
   subst h
   exact ⟨o1, by rw [o3, tst]; omega, by rw [o4, tm]⟩
  ·obtain ⟨r1, r2, r3⟩ := aFN cs fuel R hf hcs f s2 s' h o1 o2 (by rw [o3, tst]; omega)
   exact ⟨r1, r2, by rw [r3, o4, tm]⟩
abbrev JL := List (MI × Option Int)
def gI (l : List MI) : JL := l.map fun i => (i, none)
def mO : Nat → JL → List (Nat × Int)
 | _, [] => []
 | b, (_, none) :: L => mO (b + 1) L
 | b, (_, some t) :: L => (b, t) :: mO (b + 1) L
def KS.lay (s : KS) (L : JL) : KS := ⟨s.out ++ L.map Prod.fst, s.place, s.jumps ++ mO s.out.length L⟩
theorem tK : ∀ (L M : JL) (b : Nat), mO b (L ++ M) = mO b L ++ mO (b + L.length) M
 | [], M, b => by simp [mO]
 | (_, none) :: L, M, b => by
  simp only [List.cons_append, mO, tK L M (b + 1), List.length_cons]
  rw [show b + 1 + L.length = b + (L.length + 1) by omega]
 | (_, some t) :: L, M, b => by
  simp only [List.cons_append, mO, tK L M (b + 1), List.length_cons]
  rw [show b + 1 + L.length = b + (L.length + 1) by omega]
theorem yT : ∀ (l : List MI) (b : Nat), mO b (gI l) = []
 | [], b => rfl
 | i :: l, b => yT l (b + 1)
theorem aEx (l m : List MI) : gI (l ++ m) = gI l ++ gI m := by simp [gI]
theorem aEy (l : List MI) : (gI l).map Prod.fst = l := by simp [gI, Function.comp_def]
theorem mD (l : List MI) : (gI l).length = l.length := by simp [gI]
theorem oE (s : KS) (L M : JL) : s.lay (L ++ M) = (s.lay L).lay M := by
 unfold KS.lay
 simp only [tK, List.map_append, List.append_assoc, List.length_append, List.length_map]
theorem oL (s : KS) (l : List MI) : s.put l = s.lay (gI l) := by
 unfold KS.lay KS.put
 rw [yT, aEy, List.append_nil]
theorem yU (s : KS) (i : MI) (t : Int) : s.jump i t = s.lay [(i, some t)] := rfl
def lO (i : WI) : List MI := if i.k ≤ 4095 then [⟨10, 28, i.a, 0, 0, i.k⟩] else iB 28 (u64 i.k) ++ [⟨3, 28, i.a, 28, 0, 0⟩]
def mX (op r : Int) (i : WI) (e : Int) : JL := gI (lO i) ++ (gI [⟨13, 29, 28, 0, 0, 16⟩] ++ ([(⟨23, 29, 0, 0, 0, 0⟩, some e)] ++ gI [⟨12, 28, 28, 0, 0, 3⟩, ⟨op, r, 28, 0, 0, 0⟩]))
theorem aGF (s : KS) (op r : Int) (i : WI) (e : Int) : s.touch op r i e = s.lay (mX op r i e) := by
 unfold KS.touch mX lO
 by_cases h : i.k ≤ 4095
 ·simp only [if_pos h]
  rw [oL, oL, yU, oL, oE, oE, oE]
 ·simp only [if_neg h]
  rw [oL, oL, oL, yU, oL, aEx, oE, oE, oE, oE]
def gY (e : Int) (i : WI) : JL :=
 if i.op = 1 then gI (iB i.d (u64 i.k))
 else if i.op = 2 then gI [⟨6, i.d, i.a, 31, 0, 0⟩]
 else if i.op = 3 then gI [⟨3, i.d, i.a, i.b, 0, 0⟩]
 else if i.op = 4 then gI [⟨4, i.d, i.a, i.b, 0, 0⟩]
 else if i.op = 5 then gI [⟨8, i.d, i.a, i.b, 31, 0⟩]
 else if i.op = 6 then gI [⟨9, i.d, i.a, i.b, 0, 0⟩]
 else if i.op = 7 then gI [⟨5, i.d, i.a, i.b, 0, 0⟩]
 else if i.op = 8 then gI [⟨6, i.d, i.a, i.b, 0, 0⟩]
 else if i.op = 9 then gI [⟨7, i.d, i.a, i.b, 0, 0⟩]
 else if i.op = 10 then gI [⟨12, i.d, i.a, 0, 0, i.k⟩]
 else if i.op = 11 then gI [⟨13, i.d, i.a, 0, 0, i.k⟩]
 else if i.op = 12 then gI [⟨14, i.d, i.a, 0, 0, i.k⟩]
 else if i.op = 13 then gI [⟨15, 0, i.a, i.b, 0, 0⟩, ⟨17, i.d, 0, 0, 3, 0⟩]
 else if i.op = 14 then gI [⟨15, 0, i.a, 31, 0, 0⟩, ⟨16, i.d, i.b, i.c, 1, 0⟩]
 else if i.op = 15 then mX 18 i.d i e
 else if i.op = 16 then mX 19 i.b i e
 else if i.op = 17 then [(⟨20, 0, 0, 0, 0, 0⟩, some i.k)]
 else if i.op = 18 then [(⟨22, i.a, 0, 0, 0, 0⟩, some i.k)]
 else if i.op = 19 then [(⟨23, i.a, 0, 0, 0, 0⟩, some i.k)]
 else if i.op = 20 then gI [⟨24, 0, 0, 0, 0, i.k⟩]
 else []
theorem aFt (s : KS) : s.lay [] = s := by unfold KS.lay; simp [mO]
theorem aJm (s : KS) (c : Prop) [Decidable c] (L M : JL) : s.lay (if c then L else M) = if c then s.lay L else s.lay M := by split <;> rfl
theorem aFy (s : KS) (i : WI) (e : Int) : s.one i e = s.lay (gY e i) := by
 unfold KS.one gY
 simp only [aJm, ← oL, ← yU, ← aGF, aFt]
def gR (e : Int) : List WI → JL
 | [] => []
 | w :: ws => gY e w ++ gR e ws
theorem uU (e : Int) : ∀ (l m : List WI), gR e (l ++ m) = gR e l ++ gR e m
 | [], m => rfl
 | w :: l, m => by simp only [List.cons_append, gR, uU e l m, List.append_assoc]
def vG (e : Int) : Nat → List WI → List Nat
 | _, [] => []
 | b, w :: ws => b :: vG e (b + (gY e w).length) ws
theorem aDs (e : Int) : ∀ (ws : List WI) (b : Nat), (vG e b ws).length = ws.length
 | [], b => rfl
 | w :: ws, b => by simp only [vG, List.length_cons, aDs e ws]
theorem aFP (e : Int) : ∀ (ws : List WI) (s : KS), KS.run e ws s = ⟨(s.lay (gR e ws)).out, s.place ++ vG e s.out.length ws, (s.lay (gR e ws)).jumps⟩
 | [], s => by simp [KS.run, gR, vG, aFt]
 | w :: ws, s => by
  have h := aFP e ws (s.mark.one w e)
  rw [aFy] at h
  simp only [KS.run, aFy, h, gR, vG, oE]
  simp [KS.lay, KS.mark]
def mA (P : List Nat) : Nat → JL → List MI
 | _, [] => []
 | b, (i, none) :: L => i :: mA P (b + 1) L
 | b, (i, some t) :: L => { i with imm := (P.getD t.toNat 0 : Int) - b } :: mA P (b + 1) L
theorem mM (P : List Nat) : ∀ (L M : JL) (b : Nat), mA P b (L ++ M) = mA P b L ++ mA P (b + L.length) M
 | [], M, b => by simp [mA]
 | (_, none) :: L, M, b => by
  simp only [List.cons_append, mA, mM P L M (b + 1), List.length_cons]
  rw [show b + 1 + L.length = b + (L.length + 1) by omega]
 | (_, some t) :: L, M, b => by
  simp only [List.cons_append, mA, mM P L M (b + 1), List.length_cons]
  rw [show b + 1 + L.length = b + (L.length + 1) by omega]
theorem tE (P : List Nat) : ∀ (L : JL) (b : Nat), (mA P b L).length = L.length
 | [], b => rfl
 | (_, none) :: L, b => by simp only [mA, List.length_cons, tE P L]
 | (_, some t) :: L, b => by simp only [mA, List.length_cons, tE P L]
theorem mB (P : List Nat) : ∀ (l : List MI) (b : Nat), mA P b (gI l) = l
 | [], b => rfl
 | i :: l, b => by
  have := mB P l (b + 1)
  show i :: mA P (b + 1) (gI l) = _
  rw [this]
theorem uT (P : List Nat) (J : List (Nat × Int)) : ∀ (L : JL) (A : List MI), KS.fixes (mO A.length L) ⟨A ++ L.map Prod.fst, P, J⟩ = ⟨A ++ mA P A.length L, P, J⟩
 | [], A => by simp [mO, mA, KS.fixes]
 | (i, none) :: L, A => by
  have h := uT P J L (A ++ [i])
  simp only [List.length_append, List.length_singleton, List.append_assoc, List.singleton_append] at h
  exact h
 | (i, some t) :: L, A => by
  have h := uT P J L (A ++ [{ i with imm := (P.getD t.toNat 0 : Int) - A.length }])
  simp only [List.length_append, List.length_singleton, List.append_assoc, List.singleton_append] at h
  have e : KS.fix ⟨A ++ i :: L.map Prod.fst, P, J⟩ (A.length, t) = ⟨A ++ { i with imm := (P.getD t.toNat 0 : Int) - A.length } :: L.map Prod.fst, P, J⟩ := by
   unfold KS.fix aLx
   simp [List.getD_eq_getElem?_getD]
  show KS.fixes (mO (A.length + 1) L) (KS.fix ⟨A ++ i :: L.map Prod.fst, P, J⟩ (A.length, t)) = _
  rw [e]; exact h
theorem aDr (e : Int) : ∀ (ws : List WI) (b j : Nat), j ≤ ws.length → (vG e b ws ++ [b + (gR e ws).length]).getD j 0 = b + (gR e (ws.take j)).length
 | [], b, 0, h => by simp [vG, gR]
 | [], b, j + 1, h => by simp at h
 | w :: ws, b, 0, h => by simp [vG, gR]
 | w :: ws, b, j + 1, h => by
  have h2 := aDr e ws (b + (gY e w).length) j (by simpa using h)
  simp only [vG, gR, List.length_append, List.cons_append, List.getD_cons_succ, List.take_succ_cons]
  rw [show b + ((gY e w).length + (gR e ws).length) = b + (gY e w).length + (gR e ws).length by omega, h2]
  omega
def kJ (ws : List WI) : List Nat := vG ws.length 0 ws ++ [(gR ws.length ws).length]
def aBV (ws : List WI) : List MI := mA (kJ ws) 0 (gR ws.length ws)
def kT (ws : List WI) (j : Nat) : Nat := (gR ws.length (ws.take j)).length
theorem sK (ws : List WI) (j : Nat) (h : j ≤ ws.length) : (kJ ws).getD j 0 = kT ws j := by
 have := aDr ws.length ws 0 j h
 simp only [Nat.zero_add] at this
 exact this
theorem aEw (ws : List WI) : (kJ ws).length = ws.length + 1 := by simp [kJ, aDs]
theorem aIl (ws : List WI) : (KS.run ws.length ws k00).mark = ⟨(gR ws.length ws).map Prod.fst, kJ ws, mO 0 (gR ws.length ws)⟩ := by
 rw [aFP]
 simp [KS.mark, KS.lay, k00, kJ]
theorem aHc (ws : List WI) (s0 : KS) (h : s0 = (KS.run ws.length ws k00).mark) : (KS.fixes s0.jumps s0).out = aBV ws := by
 rw [h, aIl]
 have := uT (kJ ws) (mO 0 (gR ws.length ws)) (gR ws.length ws) []
 simp only [List.length_nil, List.nil_append] at this
 rw [this]; rfl
theorem aDn (ws : List WI) : (aBV ws).length = (gR ws.length ws).length := tE _ _ _
theorem aEP (ws : List WI) (j : Nat) (h : j < ws.length) : ws = ws.take j ++ ws.getD j default :: ws.drop (j + 1) := by
 have : ws.getD j default = ws[j] := by rw [List.getD_eq_getElem?_getD, List.getElem?_eq_getElem h]; rfl
 rw [this, ← List.drop_eq_getElem_cons h, List.take_append_drop]
theorem aJz (ws : List WI) (j : Nat) (h : j < ws.length) : ∃ pre post, aBV ws = pre ++ (mA (kJ ws) (kT ws j) (gY ws.length (ws.getD j default)) ++ post) ∧ pre.length = kT ws j := by
 have e := aEP ws j h
 have e2 : gR ws.length ws = gR ws.length (ws.take j) ++ (gY ws.length (ws.getD j default) ++ gR ws.length (ws.drop (j + 1))) := by
  have : ∀ n : Int, gR n ws = gR n (ws.take j) ++ (gY n (ws.getD j default) ++ gR n (ws.drop (j + 1))) := fun n => by
   conv => lhs; rw [e]
   rw [uU]; rfl
  exact this _
 refine ⟨mA (kJ ws) 0 (gR ws.length (ws.take j)), mA (kJ ws) (kT ws j + (gY ws.length (ws.getD j default)).length) (gR ws.length (ws.drop (j + 1))), ?_, tE _ _ _⟩
 unfold aBV
 conv => lhs; rw [e2]
 rw [mM, mM, Nat.zero_add]; rfl
theorem yF (ws : List WI) (j : Nat) (h : j < ws.length) : kT ws (j + 1) = kT ws j + (gY ws.length (ws.getD j default)).length := by
 unfold kT
 have : ws.take (j + 1) = ws.take j ++ [ws.getD j default] := by
  rw [List.take_add_one, List.getD_eq_getElem?_getD, List.getElem?_eq_getElem h]; rfl
 rw [this, uU]
 simp [gR]
theorem aFd (ws : List WI) : kT ws ws.length = (aBV ws).length := by rw [aDn]; unfold kT; rw [List.take_length]
theorem aLB {c : Prop} [Decidable c] {a b : JL} {n : Nat} (ha : a.length ≤ n) (hb : b.length ≤ n) : (if c then a else b).length ≤ n := by split <;> assumption
theorem sG (e : Int) (i : WI) : (gY e i).length ≤ 9 := by
 have h := fun d u => (jP d u).2
 have ht : ∀ op r : Int, (mX op r i e).length ≤ 9 := fun op r => by
  unfold mX lO
  have := h 28 (u64 i.k)
  split <;> simp [gI] <;> omega
 have h1 := h i.d (u64 i.k)
 have h2 := ht 18 i.d
 have h3 := ht 19 i.b
 unfold gY
 repeat' apply aLB
 all_goals first | assumption | (rw [mD]; omega) | (simp [gI]; done) | simp
theorem rH (e : Int) : ∀ ws : List WI, (gR e ws).length ≤ 9 * ws.length
 | [] => by simp [gR]
 | w :: ws => by
  have := rH e ws
  have := sG e w
  simp only [gR, List.length_append, List.length_cons]; omega
structure WI.Good (i : WI) (R n : Nat) : Prop where
 ok2 : i.Ok2 R n
 mem : i.op = 15 ∨ i.op = 16 → 0 ≤ i.k ∧ i.k ≤ 65535
 halt : i.op = 20 → 0 ≤ i.k ∧ i.k ≤ 2
theorem aGu {i : WI} {R n : Int} (h : iN i R n = none) (hR : 0 ≤ R) : i.Good R.toNat n.toNat := by
 refine ⟨aHz h hR, fun ho => ?_, fun ho => ?_⟩
 ·unfold iN at h
  by_cases h0 : (iH i.op).isSome = false
  ·rw [if_pos h0] at h; cases h
  rw [if_neg h0] at h
  by_cases h1 : rT (kV i.op) i R = true
  ·rw [if_pos h1] at h; cases h
  rw [if_neg h1] at h
  by_cases h2 : rS (kV i.op) i = true
  ·rw [if_pos h2] at h; cases h
  rw [if_neg h2, if_neg (by omega), if_neg (by omega), if_pos ho] at h
  by_cases h3 : i.k < 0 ∨ 65535 < i.k
  ·rw [if_pos h3] at h; cases h
  ·omega
 ·unfold iN at h
  by_cases h0 : (iH i.op).isSome = false
  ·rw [if_pos h0] at h; cases h
  rw [if_neg h0] at h
  by_cases h1 : rT (kV i.op) i R = true
  ·rw [if_pos h1] at h; cases h
  rw [if_neg h1] at h
  by_cases h2 : rS (kV i.op) i = true
  ·rw [if_pos h2] at h; cases h
  rw [if_neg h2, if_neg (by omega), if_pos ho] at h
  by_cases h3 : i.k < 0 ∨ 2 < i.k
  ·rw [if_pos h3] at h; cases h
  ·omega
theorem aAC {R n : Int} (hR : 0 ≤ R) : ∀ {l : List WI} {j : Nat}, qD R n l j = .ok → ∀ i ∈ l, i.Good R.toNat n.toNat
 | [], _, _, i, hi => by cases hi
 | x :: l, j, h, i, hi => by
  unfold qD at h
  split at h
  ·cases h
  ·rename_i ho
   rcases List.mem_cons.1 hi with rfl | hi
   ·exact aGu ho hR
   ·exact aAC hR h i hi
theorem wQ {cs : List WI} {R M : Int} (h : oR cs R M = .ok) : ∀ i ∈ cs, i.Good R.toNat cs.length := by
 have hb := (aBh h).1
 unfold oR at h
 rw [if_neg (by omega), if_neg (by omega)] at h
 have := aAC hb.1 h
 simpa using this
abbrev Rw (r : Int) : Prop := 0 ≤ r ∧ r < 28
theorem Rw.le {r m : Int} (h : Rw r) (hm : 28 ≤ m) : 0 ≤ r ∧ r ≤ m := by
 unfold Rw at h; omega
theorem rt3 {op d n m : Int} (ho : op = 3 ∨ op = 4 ∨ op = 5 ∨ op = 6 ∨ op = 7 ∨ op = 9) (hd : 0 ≤ d ∧ d ≤ 28) (hn : 0 ≤ n ∧ n ≤ 28) (hm : 0 ≤ m ∧ m ≤ 31) : aT ⟨op, d, n, m, 0, 0⟩ = true := by
 rcases ho with rfl | rfl | rfl | rfl | rfl | rfl <;> simp [aT, jQ, aN, dS, fP, dA, fW, dU, dB] <;> omega
theorem aNE {d n m : Int} (hd : Rw d) (hn : Rw n) (hm : Rw m) : aT ⟨8, d, n, m, 31, 0⟩ = true := by
 simp [aT, jQ, aN, dS, fP, dA, fW, dU, dB]; omega
theorem aGC {op d n k : Int} (ho : op = 12 ∨ op = 13 ∨ op = 14) (hd : 0 ≤ d ∧ d ≤ 29) (hn : 0 ≤ n ∧ n ≤ 29) (hk : 0 ≤ k ∧ k ≤ 63) : aT ⟨op, d, n, 0, 0, k⟩ = true := by
 rcases ho with rfl | rfl | rfl <;> simp [aT, jQ, aN, dS, fP, dA, fW, dU, dB] <;> omega
theorem aLc {n m : Int} (hn : Rw n) (hm : 0 ≤ m ∧ m ≤ 31) : aT ⟨15, 0, n, m, 0, 0⟩ = true := by
 simp [aT, jQ, aN, dS, fP, dA, fW, dU, dB]; omega
theorem aMu {d : Int} (hd : Rw d) : aT ⟨17, d, 0, 0, 3, 0⟩ = true := by
 simp [aT, jQ, aN, dS, fP, dA, fW, dU, dB]; omega
theorem aMt {d n m : Int} (hd : Rw d) (hn : Rw n) (hm : Rw m) : aT ⟨16, d, n, m, 1, 0⟩ = true := by
 simp [aT, jQ, aN, dS, fP, dA, fW, dU, dB]; omega
theorem aNB {n k : Int} (hn : Rw n) (hk : 0 ≤ k ∧ k ≤ 4095) : aT ⟨10, 28, n, 0, 0, k⟩ = true := by
 simp [aT, jQ, aN, dS, fP, dA, fW, dU, dB]; omega
theorem aND {op r : Int} (ho : op = 18 ∨ op = 19) (hr : Rw r) : aT ⟨op, r, 28, 0, 0, 0⟩ = true := by
 rcases ho with rfl | rfl <;> simp [aT, jQ, aN, dS, fP, dA, fW, dU, dB] <;> omega
theorem rtB {k : Int} (hk : -100000 ≤ k ∧ k ≤ 100000) : aT ⟨20, 0, 0, 0, 0, k⟩ = true := by
 simp [aT, jQ, aN, dS, fP, dA, fW, dU, dB]; omega
theorem aMs {op r k : Int} (ho : op = 22 ∨ op = 23) (hr : 0 ≤ r ∧ r ≤ 29) (hk : -100000 ≤ k ∧ k ≤ 100000) : aT ⟨op, r, 0, 0, 0, k⟩ = true := by
 rcases ho with rfl | rfl <;> simp [aT, jQ, aN, dS, fP, dA, fW, dU, dB] <;> omega
theorem aNC {k : Int} (hk : 0 ≤ k ∧ k ≤ 2) : aT ⟨24, 0, 0, 0, 0, k⟩ = true := by
 simp [aT, jQ, aN, dS, fP, dA, fW, dU, dB]; omega
theorem aIK (d n : Int) : cI ⟨12, d, n, 0, 0, 0⟩ = cI ⟨13, d, n, 0, 0, 0⟩ := by
 simp [cI, aN, eE]
theorem wI {i : WI} {R n : Nat} (h : i.Good R n) (hR : R ≤ 28) : (i.op ≠ 17 → i.op ≠ 20 → Rw i.a) ∧ (i.op ≤ 16 → Rw i.d ∧ Rw i.b ∧ Rw i.c) := by
 refine ⟨fun h1 h2 => ?_, fun h1 => ?_⟩
 ·have := h.ok2.ok.a h1 h2; omega
 ·have := h.ok2.ok.d h1; have := h.ok2.ok.b h1; have := h.ok2.ok.c h1; omega
def aAs (P : List Nat) (b : Nat) (L : JL) : Prop := ∀ i ∈ mA P b L, aT i = true
theorem gK {P : List Nat} {b : Nat} {l : List MI} (h : ∀ i ∈ l, aT i = true) : aAs P b (gI l) := by
 unfold aAs; rw [mB]; exact h
theorem sP {P : List Nat} {b : Nat} {L M : JL} (h : aAs P b L) (h2 : aAs P (b + L.length) M) : aAs P b (L ++ M) := by
 unfold aAs; rw [mM]
 intro i hi
 rcases List.mem_append.1 hi with hi | hi
 ·exact h i hi
 ·exact h2 i hi
theorem sQ {P : List Nat} {b : Nat} {i : MI} {t : Int} (h : aT { i with imm := (P.getD t.toNat 0 : Int) - b } = true) : aAs P b [(i, some t)] := by
 intro j hj
 simp only [mA, List.mem_singleton] at hj
 rw [hj]; exact h
theorem vT (d : Int) (hd : 0 ≤ d ∧ d ≤ 30) (k : Int) : ∀ i ∈ iB d (u64 k), aT i = true := fun i hi => ((sZ d hd (u64 k) (iJ k) iV).1 i hi).1
theorem rR {x : MI} (h : aT x = true) : ∀ i ∈ [x], aT i = true := fun i hi => by rw [List.mem_singleton.1 hi]; exact h
theorem aLL {x y : MI} (h : aT x = true) (h2 : aT y = true) : ∀ i ∈ [x, y], aT i = true := fun i hi => by
 rcases List.mem_cons.1 hi with rfl | hi
 ·exact h
 ·exact rR h2 i hi
theorem wP {P : List Nat} {b : Nat} {op r e : Int} {i : WI} (ho : op = 18 ∨ op = 19) (hr : Rw r) (ha : Rw i.a) (hk : 0 ≤ i.k ∧ i.k ≤ 65535) (hP : ∀ x ∈ P, x ≤ 90000) (hb : b ≤ 90000) : aAs P b (mX op r i e) := by
 have hPe : ((P.getD e.toNat 0 : Nat) : Int) ≤ 90000 := by
  rw [List.getD_eq_getElem?_getD]
  cases hq : P[e.toNat]? with
  | none => simp
  | some x => have := hP x (List.mem_of_getElem? hq); simp; omega
 have hc := (jP 28 (u64 i.k)).2
 have hal : (lO i).length ≤ 5 := by
  unfold lO; split
  ·simp
  ·simp; omega
 unfold mX
 refine sP (gK ?_) (sP (gK (rR (aGC (.inr (.inl rfl)) ⟨by decide, by decide⟩ ⟨by decide, by decide⟩ ⟨by decide, by decide⟩))) (sP (sQ ?_) (gK (aLL (aGC (.inl rfl) ⟨by decide, by decide⟩ ⟨by decide, by decide⟩ ⟨by decide, by decide⟩) (aND ho hr)))))
 ·unfold lO
  by_cases h : i.k ≤ 4095
  ·rw [if_pos h]; exact rR (aNB ha ⟨hk.1, h⟩)
  ·rw [if_neg h]
   intro j hj
   rcases List.mem_append.1 hj with hj | hj
   ·exact vT 28 ⟨by decide, by decide⟩ _ j hj
   ·exact rR (rt3 (.inl rfl) ⟨by decide, by decide⟩ (by omega) ⟨by decide, by decide⟩) j hj
 ·refine aMs (.inr rfl) ⟨by decide, by decide⟩ ?_
  rw [mD, mD]
  simp only [List.length_singleton]
  omega
theorem aCF {P : List Nat} {b : Nat} {e : Int} {i : WI} {R n : Nat} (h : i.Good R n) (hR : R ≤ 28) (hP : ∀ x ∈ P, x ≤ 90000) (hb : b ≤ 90000) : aAs P b (gY e i) := by
 have hPt : ∀ t : Int, ((P.getD t.toNat 0 : Nat) : Int) ≤ 90000 := fun t => by
  rw [List.getD_eq_getElem?_getD]
  cases hq : P[t.toNat]? with
  | none => simp
  | some x => have := hP x (List.mem_of_getElem? hq); simp; omega
 obtain ⟨ha, hdbc⟩ := wI h hR
 have hsh := h.ok2.sh
 have hmem := h.mem
 have hhalt := h.halt
 have h20 := h.ok2.ok.op
 obtain ⟨op, d, a, b2, c, k⟩ := i
 simp only at ha hdbc hsh hmem hhalt h20
 rcases aJy h20 with rfl | rfl | rfl | rfl | rfl | rfl | rfl | rfl | rfl | rfl | rfl | rfl | rfl | rfl | rfl | rfl | rfl | rfl | rfl | rfl
 ·exact gK (vT d (Rw.le (hdbc (by decide)).1 (by decide)) k)
 ·exact gK (rR (rt3 (by omega) (Rw.le (hdbc (by decide)).1 (by decide)) (Rw.le (ha (by decide) (by decide)) (by decide)) ⟨by decide, by decide⟩))
 ·exact gK (rR (rt3 (by omega) (Rw.le (hdbc (by decide)).1 (by decide)) (Rw.le (ha (by decide) (by decide)) (by decide)) (Rw.le (hdbc (by decide)).2.1 (by decide))))
 ·exact gK (rR (rt3 (by omega) (Rw.le (hdbc (by decide)).1 (by decide)) (Rw.le (ha (by decide) (by decide)) (by decide)) (Rw.le (hdbc (by decide)).2.1 (by decide))))
 ·exact gK (rR (aNE (hdbc (by decide)).1 (ha (by decide) (by decide)) (hdbc (by decide)).2.1))
 ·exact gK (rR (rt3 (by omega) (Rw.le (hdbc (by decide)).1 (by decide)) (Rw.le (ha (by decide) (by decide)) (by decide)) (Rw.le (hdbc (by decide)).2.1 (by decide))))
 ·exact gK (rR (rt3 (by omega) (Rw.le (hdbc (by decide)).1 (by decide)) (Rw.le (ha (by decide) (by decide)) (by decide)) (Rw.le (hdbc (by decide)).2.1 (by decide))))
 ·exact gK (rR (rt3 (by omega) (Rw.le (hdbc (by decide)).1 (by decide)) (Rw.le (ha (by decide) (by decide)) (by decide)) (Rw.le (hdbc (by decide)).2.1 (by decide))))
 ·exact gK (rR (rt3 (by omega) (Rw.le (hdbc (by decide)).1 (by decide)) (Rw.le (ha (by decide) (by decide)) (by decide)) (Rw.le (hdbc (by decide)).2.1 (by decide))))
 ·exact gK (rR (aGC (.inl rfl) (Rw.le (hdbc (by decide)).1 (by decide)) (Rw.le (ha (by decide) (by decide)) (by decide)) (hsh (by decide) (by decide))))
 ·exact gK (rR (aGC (.inr (.inl rfl)) (Rw.le (hdbc (by decide)).1 (by decide)) (Rw.le (ha (by decide) (by decide)) (by decide)) (hsh (by decide) (by decide))))
 ·exact gK (rR (aGC (.inr (.inr rfl)) (Rw.le (hdbc (by decide)).1 (by decide)) (Rw.le (ha (by decide) (by decide)) (by decide)) (hsh (by decide) (by decide))))
 ·exact gK (aLL (aLc (ha (by decide) (by decide)) (Rw.le (hdbc (by decide)).2.1 (by decide))) (aMu (hdbc (by decide)).1))
 ·exact gK (aLL (aLc (ha (by decide) (by decide)) ⟨by decide, by decide⟩) (aMt (hdbc (by decide)).1 (hdbc (by decide)).2.1 (hdbc (by decide)).2.2))
 ·exact wP (.inl rfl) (hdbc (by decide)).1 (ha (by decide) (by decide)) (hmem (by omega)) hP hb
 ·exact wP (.inr rfl) (hdbc (by decide)).2.1 (ha (by decide) (by decide)) (hmem (by omega)) hP hb
 ·exact sQ (rtB (by have := hPt k; dsimp only; omega))
 ·exact sQ (aMs (.inl rfl) (Rw.le (ha (by decide) (by decide)) (by decide)) (by have := hPt k; dsimp only; omega))
 ·exact sQ (aMs (.inr rfl) (Rw.le (ha (by decide) (by decide)) (by decide)) (by have := hPt k; dsimp only; omega))
 ·exact gK (rR (aNC (hhalt rfl)))
theorem yP {P : List Nat} {e : Int} {R n : Nat} (hR : R ≤ 28) (hP : ∀ x ∈ P, x ≤ 90000) : ∀ (ws : List WI) (b : Nat), (∀ w ∈ ws, w.Good R n) → b + 9 * ws.length ≤ 90000 → aAs P b (gR e ws)
 | [], b, _, _ => fun i hi => by simp [gR, mA] at hi
 | w :: ws, b, hw, hb => by
  simp only [List.length_cons] at hb
  have hc := sG e w
  exact sP (aCF (hw w (List.mem_cons_self ..)) hR hP (by omega)) (yP hR hP ws _ (fun x hx => hw x (List.mem_cons_of_mem _ hx)) (by omega))
theorem aFC (e : Int) : ∀ (ws : List WI) (b : Nat), ∀ x ∈ vG e b ws, x ≤ b + 9 * ws.length
 | [], b, x, hx => by cases hx
 | w :: ws, b, x, hx => by
  have hc := sG e w
  simp only [vG, List.mem_cons, List.length_cons] at hx ⊢
  rcases hx with rfl | hx
  ·omega
  ·have := aFC e ws _ x hx; omega
theorem aAY (ws : List WI) : ∀ x ∈ kJ ws, x ≤ 9 * ws.length := by
 intro x hx
 unfold kJ at hx
 rcases List.mem_append.1 hx with hx | hx
 ·have := aFC _ _ _ x hx; omega
 ·rw [List.mem_singleton.1 hx]; exact rH _ _
theorem sJ {ws : List WI} {R : Nat} (hR : R ≤ 28) (hw : ∀ w ∈ ws, w.Good R ws.length) (hl : ws.length ≤ 10000) : ∀ i ∈ aBV ws, aT i = true :=
 yP hR (fun x hx => by have := aAY ws x hx; omega) ws 0 hw (by omega)
theorem aFr {e : Int} {m : Nat} (he : 0 ≤ e ∧ e ≤ m) {R n : Nat} (hn : n ≤ m) : ∀ (ws : List WI) (b : Nat), (∀ w ∈ ws, w.Good R n) → ∀ p ∈ mO b (gR e ws), p.1 < b + (gR e ws).length ∧ 0 ≤ p.2 ∧ p.2 ≤ m
 | [], b, _, p, hp => by simp [gR, mO] at hp
 | w :: ws, b, hw, p, hp => by
  simp only [gR, tK, List.mem_append, List.length_append] at hp ⊢
  rcases hp with hp | hp
  ·have key : ∀ (L : JL) (b : Nat), (∀ q ∈ L, ∀ t, q.2 = some t → 0 ≤ t ∧ t ≤ m) → ∀ p ∈ mO b L, p.1 < b + L.length ∧ 0 ≤ p.2 ∧ p.2 ≤ m := by
    intro L
    induction L with
    | nil => intro b _ p hp; simp [mO] at hp
    | cons q L ih =>
     intro b hq p hp
     obtain ⟨i, o⟩ := q
     cases o with
     | none =>
      have := ih (b + 1) (fun q h => hq q (List.mem_cons_of_mem _ h)) p hp
      simp only [List.length_cons]; omega
     | some t =>
      simp only [mO, List.mem_cons] at hp
      rcases hp with rfl | hp
      ·have := hq _ (List.mem_cons_self ..) t rfl
       simp only [List.length_cons]; omega
      ·have := ih (b + 1) (fun q h => hq q (List.mem_cons_of_mem _ h)) p hp
       simp only [List.length_cons]; omega
   have pl : ∀ l : List MI, ∀ q ∈ gI l, ∀ t, q.2 = some t → 0 ≤ t ∧ t ≤ m := fun l q hq t ht => by
    unfold gI at hq
    obtain ⟨i, _, rfl⟩ := List.mem_map.1 hq
    cases ht
   have hk := (hw w (List.mem_cons_self ..)).ok2.ok.k
   have on : ∀ (x : MI) (z : Int), 0 ≤ z ∧ z ≤ m → ∀ q ∈ [(x, some z)], ∀ t, q.2 = some t → 0 ≤ t ∧ t ≤ m := fun x z hz q hq t ht => by
    rw [List.mem_singleton.1 hq] at ht; cases ht; exact hz
   have ap : ∀ L M : JL, (∀ q ∈ L, ∀ t, q.2 = some t → 0 ≤ t ∧ t ≤ m) → (∀ q ∈ M, ∀ t, q.2 = some t → 0 ≤ t ∧ t ≤ m) → (∀ q ∈ L ++ M, ∀ t, q.2 = some t → 0 ≤ t ∧ t ≤ m) := fun L M h1 h2 q hq => by
    rcases List.mem_append.1 hq with hq | hq
    ·exact h1 q hq
    ·exact h2 q hq
   have tc : ∀ op r : Int, ∀ q ∈ mX op r w e, ∀ t, q.2 = some t → 0 ≤ t ∧ t ≤ m := fun op r => ap _ _ (pl _) (ap _ _ (pl _) (ap _ _ (on _ _ he) (pl _)))
   have all : ∀ q ∈ gY e w, ∀ t, q.2 = some t → 0 ≤ t ∧ t ≤ m := by
    have ite : ∀ (c : Prop) [Decidable c] (L M : JL), (c → ∀ q ∈ L, ∀ t, q.2 = some t → 0 ≤ t ∧ t ≤ m) → (∀ q ∈ M, ∀ t, q.2 = some t → 0 ≤ t ∧ t ≤ m) → ∀ q ∈ (if c then L else M), ∀ t, q.2 = some t → 0 ≤ t ∧ t ≤ m := fun c _ L M h1 h2 => by
     split
     ·rename_i hc; exact h1 hc
     ·exact h2
    unfold gY
    iterate 14 refine ite _ _ _ (fun _ => pl _) ?_
    refine ite _ _ _ (fun _ => tc _ _) ?_
    refine ite _ _ _ (fun _ => tc _ _) ?_
    refine ite _ _ _ (fun h => on _ _ (by have := hk (by omega) (by omega); omega)) ?_
    refine ite _ _ _ (fun h => on _ _ (by have := hk (by omega) (by omega); omega)) ?_
    refine ite _ _ _ (fun h => on _ _ (by have := hk (by omega) (by omega); omega)) ?_
    refine ite _ _ _ (fun _ => pl _) ?_
    intro q hq; cases hq
   have := key _ b all p hp
   omega
  ·have := aFr he hn ws (b + (gY e w).length) (fun x hx => hw x (List.mem_cons_of_mem _ hx)) p hp
   omega
section
variable {cs : List Int} {fuel : Int} {f : Nat} {s s2 s' : QS} {i : MI}
theorem uF (h1 : 0 ≤ s.at_ ∧ s.at_ < cs.length) (h2 : (s.steps : Int) ≠ fuel) (ho : ofF (cs.getD s.at_.toNat 0) = some i) (ha : s.tick.next.act i = (s2, true)) : pT cs fuel (f + 1) s = pT cs fuel f s2 := by
 simp only [pT]
 rw [if_neg (by omega), if_neg h2]
 have e : s.tick.step (cs.getD s.at_.toNat 0) = (s2, true) := by unfold QS.step; rw [ho]; exact ha
 rw [e]
theorem aDE (h1 : 0 ≤ s.at_ ∧ s.at_ < cs.length) (h2 : (s.steps : Int) ≠ fuel) (ho : ofF (cs.getD s.at_.toNat 0) = some i) (ha : s.tick.next.act i = (s2, false)) : pT cs fuel (f + 1) s = some s2 := by
 simp only [pT]
 rw [if_neg (by omega), if_neg h2]
 have e : s.tick.step (cs.getD s.at_.toNat 0) = (s2, false) := by unfold QS.step; rw [ho]; exact ha
 rw [e]
theorem aIj (h1 : s.at_ < 0 ∨ (cs.length : Int) ≤ s.at_) : pT cs fuel (f + 1) s = some { s with code := 3 } := by
 simp only [pT]
 rw [if_pos h1]
end
section
variable {cs : List Int} {fuel : Int} {f : Nat} {cd : Int} {mem : List Nat} {x0 x1 y z : Nat} {lk : List (Int × Int)} {st : Nat} {fl : FL} {a : Int}
end
def At (cs : List Int) (p : Int) (i : MI) : Prop := 0 ≤ p ∧ p < cs.length ∧ ofF (cs.getD p.toNat 0) = some i
def oS (cs : List Int) (fuel : Int) (q : QS) (m : Nat) (q2 : QS) : Prop := ∀ f, pT cs fuel (f + m) q = pT cs fuel f q2
def aCv (cs : List Int) (fuel : Int) (q : QS) (m : Nat) (q2 : QS) : Prop := ∀ f, pT cs fuel (f + m) q = some q2
section
variable {cs : List Int} {fuel : Int} {cd : Int} {mem : List Nat} {r : List Nat} {lk : List (Int × Int)} {st : Nat} {fl : FL} {p : Int} {i : MI} {q q2 q3 : QS} {m n : Nat}
theorem oS.refl : oS cs fuel q 0 q := fun f => rfl
theorem oS.trans (h : oS cs fuel q m q2) (h2 : oS cs fuel q2 n q3) : oS cs fuel q (m + n) q3 := fun f => by
 rw [show f + (m + n) = f + n + m by omega, h, h2]
theorem oS.ends (h : oS cs fuel q m q2) (h2 : aCv cs fuel q2 n q3) : aCv cs fuel q (m + n) q3 := fun f => by
 rw [show f + (m + n) = f + n + m by omega, h, h2]
theorem vP (h : At cs p i) (ho : i.op ≤ 17) (hs : (st : Int) < fuel) : oS cs fuel ⟨cd, mem, r, lk, st, fl, p⟩ 1 ⟨cd, mem, (cP i r fl).1, lk ++ [(1, p)], st + 1, (cP i r fl).2, p + 1⟩ := fun f => by
 refine uF ⟨h.1, h.2.1⟩ (show ((st : Nat) : Int) ≠ fuel by omega) h.2.2 ?_
 unfold QS.act
 rw [if_neg (by omega), if_neg (by omega), if_neg (by omega)]
 rfl
theorem aNQ {k : Int} (h : At cs p ⟨20, 0, 0, 0, 0, k⟩) (hs : (st : Int) < fuel) : oS cs fuel ⟨cd, mem, r, lk, st, fl, p⟩ 1 ⟨cd, mem, r, lk ++ [(1, p)], st + 1, fl, p + k⟩ := fun f => by
 refine uF ⟨h.1, h.2.1⟩ (show ((st : Nat) : Int) ≠ fuel by omega) h.2.2 ?_
 unfold QS.act
 rw [if_neg (show ¬ ((20 : Int) = 18 ∨ (20 : Int) = 19) by decide), if_pos (show (20 : Int) = 20 ∨ (20 : Int) = 21 ∨ (20 : Int) = 22 ∨ (20 : Int) = 23 by decide)]
 unfold QS.branch
 rw [if_pos rfl]
 have : p + k = p + 1 + (k - 1) := by omega
 rw [this]; rfl
theorem aKC {op d k : Int} (ho : op = 22 ∨ op = 23) (g : Bool) (hg : g = (if op = 22 then decide (cC r d = 0) else decide (cC r d ≠ 0))) (h : At cs p ⟨op, d, 0, 0, 0, k⟩) (hs : (st : Int) < fuel) :
  oS cs fuel ⟨cd, mem, r, lk, st, fl, p⟩ 1 ⟨cd, mem, r, lk ++ [(1, p)] ++ [(2, if g = true then 1 else 0)], st + 1, fl, if g = true then p + k else p + 1⟩ := fun f => by
 refine uF ⟨h.1, h.2.1⟩ (show ((st : Nat) : Int) ≠ fuel by omega) h.2.2 ?_
 have e : (QS.next (QS.tick ⟨cd, mem, r, lk, st, fl, p⟩)).goes ⟨op, d, 0, 0, 0, k⟩ = g := by
  rw [hg]
  unfold QS.goes
  rw [if_neg (show ¬ op = 21 by omega)]; rfl
 unfold QS.act
 rw [if_neg (show ¬ (op = 18 ∨ op = 19) by omega), if_pos (show op = 20 ∨ op = 21 ∨ op = 22 ∨ op = 23 by omega)]
 unfold QS.branch
 rw [if_neg (show ¬ op = 20 by omega), e]
 cases g
 ·rfl
 ·have : p + k = p + 1 + (k - 1) := by omega
  simp only [if_true]
  rw [this]; rfl
theorem aLk {k : Int} (hk : k ≤ 2) (h : At cs p ⟨24, 0, 0, 0, 0, k⟩) (hs : (st : Int) < fuel) : aCv cs fuel ⟨cd, mem, r, lk, st, fl, p⟩ 1 ⟨k, mem, r, lk ++ [(1, p)], st + 1, fl, p + 1⟩ := fun f => by
 refine aDE ⟨h.1, h.2.1⟩ (show ((st : Nat) : Int) ≠ fuel by omega) h.2.2 ?_
 unfold QS.act
 rw [if_neg (show ¬ ((24 : Int) = 18 ∨ (24 : Int) = 19) by decide), if_neg (show ¬ ((24 : Int) = 20 ∨ (24 : Int) = 21 ∨ (24 : Int) = 22 ∨ (24 : Int) = 23) by decide), if_pos rfl]
 show (({ code := if k ≤ 2 then k else 3, mem := mem, regs := r, leaks := lk ++ [(1, p)], steps := st + 1, flags := fl, at_ := p + 1 } : QS), false) = _
 rw [if_pos hk]
theorem aGP (h : (cs.length : Int) ≤ p) : aCv cs fuel ⟨cd, mem, r, lk, st, fl, p⟩ 1 ⟨3, mem, r, lk, st, fl, p⟩ := fun f => aIj (Or.inr h)
theorem aBs {op d : Int} {y : Nat} (hy : y < 65536) (hr : cC r 28 = 8 * y) : (QS.next (QS.tick ⟨cd, mem, r, lk, st, fl, p⟩)).addr ⟨op, d, 28, 0, 0, 0⟩ = 8 * y := by
 show (cC r 28 + 8 * u64 0 % 18446744073709551616) % 18446744073709551616 = _
 rw [hr]
 have : u64 0 = 0 := rfl
 rw [this]; omega
theorem aMX {d : Int} {y : Nat} (h : At cs p ⟨18, d, 28, 0, 0, 0⟩) (hs : (st : Int) < fuel) (hy : y < 65536) (hr : cC r 28 = 8 * y) (hm : y < mem.length) :
  oS cs fuel ⟨cd, mem, r, lk, st, fl, p⟩ 1 ⟨cd, mem, fE r d (mem.getD y 0), lk ++ [(1, p)] ++ [(3, lV (8 * y))], st + 1, fl, p + 1⟩ := fun f => by
 refine uF ⟨h.1, h.2.1⟩ (show ((st : Nat) : Int) ≠ fuel by omega) h.2.2 ?_
 have ea := @aBs cd mem r lk st fl p 18 d y hy hr
 have hmm : (QS.next (QS.tick ⟨cd, mem, r, lk, st, fl, p⟩)).mem = mem := rfl
 unfold QS.act
 rw [if_pos (show (18 : Int) = 18 ∨ (18 : Int) = 19 by decide)]
 unfold QS.touch
 rw [ea, hmm]
 have e8 : 8 * y / 8 = y := by omega
 simp only
 rw [if_neg (show ¬ (8 * y % 8 ≠ 0 ∨ mem.length ≤ 8 * y / 8) by omega), if_pos trivial, e8]
 rfl
theorem aMY {d : Int} {y : Nat} (h : At cs p ⟨19, d, 28, 0, 0, 0⟩) (hs : (st : Int) < fuel) (hy : y < 65536) (hr : cC r 28 = 8 * y) (hm : y < mem.length) :
  oS cs fuel ⟨cd, mem, r, lk, st, fl, p⟩ 1 ⟨cd, mem.set y (cC r d), r, lk ++ [(1, p)] ++ [(3, lV (8 * y))], st + 1, fl, p + 1⟩ := fun f => by
 refine uF ⟨h.1, h.2.1⟩ (show ((st : Nat) : Int) ≠ fuel by omega) h.2.2 ?_
 have ea := @aBs cd mem r lk st fl p 19 d y hy hr
 have hmm : (QS.next (QS.tick ⟨cd, mem, r, lk, st, fl, p⟩)).mem = mem := rfl
 unfold QS.act
 rw [if_pos (show (19 : Int) = 18 ∨ (19 : Int) = 19 by decide)]
 unfold QS.touch
 rw [ea, hmm]
 have e8 : 8 * y / 8 = y := by omega
 simp only
 rw [if_neg (show ¬ (8 * y % 8 ≠ 0 ∨ mem.length ≤ 8 * y / 8) by omega), if_neg (show ¬ (19 : Int) = 18 by decide), e8]
 rfl
theorem aLl {op d : Int} {y : Nat} (ho : op = 18 ∨ op = 19) (h : At cs p ⟨op, d, 28, 0, 0, 0⟩) (hs : (st : Int) < fuel) (hy : y < 65536) (hr : cC r 28 = 8 * y) (hm : mem.length ≤ y) :
  aCv cs fuel ⟨cd, mem, r, lk, st, fl, p⟩ 1 ⟨3, mem, r, lk ++ [(1, p)] ++ [(3, lV (8 * y))], st + 1, fl, p + 1⟩ := fun f => by
 refine aDE ⟨h.1, h.2.1⟩ (show ((st : Nat) : Int) ≠ fuel by omega) h.2.2 ?_
 have ea := @aBs cd mem r lk st fl p op d y hy hr
 have hmm : (QS.next (QS.tick ⟨cd, mem, r, lk, st, fl, p⟩)).mem = mem := rfl
 unfold QS.act
 rw [if_pos (show op = 18 ∨ op = 19 from ho)]
 unfold QS.touch
 rw [ea, hmm]
 have e8 : 8 * y / 8 = y := by omega
 simp only
 rw [if_pos (show (8 * y % 8 ≠ 0 ∨ mem.length ≤ 8 * y / 8) by omega)]
 rfl
end
def uN (p : Int) : Nat → List (Int × Int)
 | 0 => []
 | c + 1 => (1, p) :: uN (p + 1) c
theorem aBN (p : Int) : ∀ a b : Nat, uN p (a + b) = uN p a ++ uN (p + a) b
 | 0, b => by simp [uN]
 | a + 1, b => by
  rw [show a + 1 + b = a + b + 1 by omega]
  simp only [uN, aBN (p + 1) a b, List.cons_append]
  rw [show p + 1 + (a : Int) = p + ((a + 1 : Nat) : Int) by omega]
theorem aJq (p : Int) : uN p 1 = [(1, p)] := rfl
def lkA (ws : List WI) (x : Int) : List (Int × Int) :=
 if (ws.getD x.toNat default).op = 15 ∨ (ws.getD x.toNat default).op = 16 ∨ (ws.getD x.toNat default).op = 18 ∨ (ws.getD x.toNat default).op = 19 then []
 else uN (kT ws x.toNat) (gY ws.length (ws.getD x.toNat default)).length
def lkT (P : Int) (c : Nat) (y : Nat) : List (Int × Int) :=
 uN P (c + 2) ++ (if y / 65536 ≠ 0 then [(2, 1)] else [(2, 0), (1, P + c + 2), (1, P + c + 3), (3, lV (8 * y))])
def lkB (ws : List WI) (pc x : Int) : List (Int × Int) :=
 if (ws.getD pc.toNat default).op = 18 ∨ (ws.getD pc.toNat default).op = 19 then [(1, (kT ws pc.toNat : Int)), (2, x)]
 else lkT (kT ws pc.toNat) (lO (ws.getD pc.toNat default)).length (u64 x)
def mlk (ws : List WI) : Int → List (Int × Int) → List (Int × Int)
 | _, [] => []
 | pc, (k, x) :: T => if k = 1 then lkA ws x ++ mlk ws x T else lkB ws pc x ++ mlk ws pc T
theorem uW {cs : List Int} {fuel cd : Int} {mem : List Nat} {fl : FL} {d : Int} : ∀ (L : List MI) (p : Int) (r : List Nat) (lk : List (Int × Int)) (st : Nat), (∀ i ∈ L, isC d i) → (∀ (t : Nat) (i : MI), L[t]? = some i → At cs (p + t) i) → (st : Int) + L.length ≤ fuel →
  oS cs fuel ⟨cd, mem, r, lk, st, fl, p⟩ L.length ⟨cd, mem, aCc fl L r, lk ++ uN p L.length, st + L.length, fl, p + L.length⟩
 | [], p, r, lk, st, _, _, _ => by
  have e : p + (([] : List MI).length : Int) = p := by simp
  rw [e]
  show oS cs fuel _ 0 ⟨cd, mem, r, lk ++ [], st, fl, p⟩
  rw [List.append_nil]
  exact oS.refl
 | i :: L, p, r, lk, st, hL, hA, hst => by
  obtain ⟨hr, hop⟩ := hL i (List.mem_cons_self ..)
  simp only [List.length_cons] at hst ⊢
  have e2 : (cP i r fl).2 = fl := by
   unfold cP
   rw [if_neg (by omega), if_neg (by omega), if_neg (by omega)]
  have a0 : At cs p i := by
   have := hA 0 i rfl
   simpa using this
  have g1 := vP (cd := cd) (mem := mem) (r := r) (lk := lk) (st := st) (fl := fl) a0 (by omega) (show ((st : Nat) : Int) < fuel by omega)
  rw [e2] at g1
  have g2 := uW (cs := cs) (fuel := fuel) (cd := cd) (mem := mem) (fl := fl) (d := d) L (p + 1) (cP i r fl).1 (lk ++ [(1, p)]) (st + 1) (fun j hj => hL j (List.mem_cons_of_mem _ hj)) (fun t j hj => by
   have := hA (t + 1) j (by simpa using hj)
   rw [show p + 1 + (t : Int) = p + ((t + 1 : Nat) : Int) by omega]; exact this) (by omega)
  have g3 := g1.trans g2
  rw [show 1 + L.length = L.length + 1 by omega, show st + 1 + L.length = st + (L.length + 1) by omega, show p + 1 + (L.length : Int) = p + ((L.length + 1 : Nat) : Int) by omega, List.append_assoc] at g3
  exact g3
structure Sim (ws : List WI) (R : Nat) (s : MS) (q : QS) : Prop where
 rl : q.regs.length = 31
 rg : ∀ j, j < R → q.regs.getD j 0 = s.regs.getD j 0
 mem : q.mem = s.mem
 at_ : q.at_ = (kT ws s.at_ : Int)
def pH (ws : List WI) : List Int := (aBV ws).map cI
def lH (fuel : Int) (ws : List WI) (R : Nat) (s : MS) (q : QS) (s2 : MS) (b : Bool) : Prop :=
 ∃ (m : Nat) (q2 : QS) (Y X : List (Int × Int)), m ≤ 10 ∧ s2.leaks = s.leaks ++ Y ∧ q2.leaks = q.leaks ++ X ∧ (∀ pc T, mlk ws pc (Y ++ T) = X ++ mlk ws s.at_ T) ∧ q2.mem = s2.mem ∧ q2.steps ≤ q.steps + 9 ∧
  (b = true → oS (pH ws) fuel q m q2 ∧ Sim ws R s2 q2) ∧ (b = false → aCv (pH ws) fuel q m q2 ∧ q2.code = s2.code)
theorem lS (l : List Nat) (i j x : Nat) (hi : i < l.length) : (l.set i x).getD j 0 = if i = j then x else l.getD j 0 := by
 rw [List.getD_eq_getElem?_getD, List.getD_eq_getElem?_getD, List.getElem?_set]
 by_cases h : i = j
 ·rw [if_pos h, if_pos h, if_pos hi]; rfl
 ·rw [if_neg h, if_neg h]
section
variable {ws : List WI} {R : Nat} {fuel : Int} {s : MS} {q : QS} {i : WI}
theorem uG (h : Sim ws R s q) {a : Int} (h0 : 0 ≤ a) (h1 : a < R) (hR : R ≤ 28) : cC q.regs a = s.rg a := by
 unfold cC MS.rg
 rw [if_neg (by omega)]
 exact h.rg _ (by omega)
theorem aFT {r r2 : List Nat} (hl : r.length = R) (hl2 : r2.length = 31) (hR : R ≤ 28) (h : ∀ j, j < R → r2.getD j 0 = r.getD j 0) (d x : Nat) (hd : d < R) : ∀ j, j < R → (r2.set d x).getD j 0 = (r.set d x).getD j 0 := fun j hj => by
 rw [lS _ _ _ _ (by omega), lS _ _ _ _ (by omega), h j hj]
theorem aFi (hR : R ≤ 28) (hw : ∀ w ∈ ws, w.Good R ws.length) (hl : ws.length ≤ 10000) {j : Nat} (hj : j < ws.length) {t : Nat} {i : MI} (hC : (mA (kJ ws) (kT ws j) (gY ws.length (ws.getD j default)))[t]? = some i) :
  (pH ws).getD ((kT ws j : Int) + t).toNat 0 = cI i ∧ aT i = true ∧ (0 : Int) ≤ (kT ws j : Int) + t ∧ (kT ws j : Int) + t < ((pH ws).length : Int) := by
 obtain ⟨pre, post, h1, h2⟩ := aJz ws j hj
 have ht := (List.getElem?_eq_some_iff.1 hC).1
 have e : (aBV ws)[kT ws j + t]? = some i := by
  rw [h1, List.getElem?_append_right (by omega), h2, Nat.add_sub_cancel_left, List.getElem?_append_left ht, hC]
 have hlt := (List.getElem?_eq_some_iff.1 e).1
 refine ⟨?_, sJ hR hw hl i (List.mem_of_getElem? e), by omega, by unfold pH; rw [List.length_map]; omega⟩
 rw [show ((kT ws j : Int) + t).toNat = kT ws j + t by omega]
 unfold pH
 rw [List.getD_eq_getElem?_getD, List.getElem?_map, e]; rfl
theorem sS (hR : R ≤ 28) (hw : ∀ w ∈ ws, w.Good R ws.length) (hl : ws.length ≤ 10000) {j : Nat} (hj : j < ws.length) {t : Nat} {i : MI} (hC : (mA (kJ ws) (kT ws j) (gY ws.length (ws.getD j default)))[t]? = some i) (hn : ¬ (i.op = 12 ∧ i.imm = 0)) :
  At (pH ws) ((kT ws j : Int) + t) i := by
 obtain ⟨h1, h2, h3, h4⟩ := aFi hR hw hl hj hC
 exact ⟨h3, h4, by rw [h1]; exact aBS h2 hn⟩
theorem aGO (hR : R ≤ 28) (hw : ∀ w ∈ ws, w.Good R ws.length) (hl : ws.length ≤ 10000) {j : Nat} (hj : j < ws.length) {t : Nat} {d n : Int} (hd : Rw d) (hn : Rw n) (hC : (mA (kJ ws) (kT ws j) (gY ws.length (ws.getD j default)))[t]? = some ⟨12, d, n, 0, 0, 0⟩) :
  At (pH ws) ((kT ws j : Int) + t) ⟨13, d, n, 0, 0, 0⟩ := by
 obtain ⟨h1, h2, h3, h4⟩ := aFi hR hw hl hj hC
 refine ⟨h3, h4, ?_⟩
 rw [h1, aIK]
 exact aBS (aGC (.inr (.inl rfl)) (Rw.le hd (by decide)) (Rw.le hn (by decide)) ⟨by decide, by decide⟩) (show ¬ ((13 : Int) = 12 ∧ (0 : Int) = 0) by decide)
theorem aBm (h : 1 ≤ i.op ∧ i.op ≤ 14) (hv : (iS i.op i.k (s.rg i.a) (s.rg i.b) (s.rg i.c)).2 = true) :
  s.tick.step i = (⟨s.regs.set i.d.toNat (iS i.op i.k (s.rg i.a) (s.rg i.b) (s.rg i.c)).1, s.at_ + 1, s.code, s.mem, s.leaks ++ [(1, (s.at_ : Int))], s.steps + 1⟩, true) := by
 have e : ∀ j, MS.rg ({ s.tick with at_ := s.tick.at_ + 1 } : MS) j = s.rg j := fun j => rfl
 unfold MS.step
 simp only [e]
 rw [if_neg (by omega), if_neg (by omega), if_neg (by omega), if_pos hv]
 rfl
theorem aAf (hsim : Sim ws R s q) (hs : s.Ok R) (hR : R ≤ 28) (hj : s.at_ < ws.length) (hi : ws.getD s.at_ default = i) (hop : 1 ≤ i.op ∧ i.op ≤ 14) (hv : (iS i.op i.k (s.rg i.a) (s.rg i.b) (s.rg i.c)).2 = true) (hd : 0 ≤ i.d ∧ i.d < R)
  {c : Nat} (hc : (gY ws.length i).length = c) (hc9 : c ≤ 9) {fl2 : FL} (hg : oS (pH ws) fuel q c ⟨q.code, q.mem, q.regs.set i.d.toNat (iS i.op i.k (s.rg i.a) (s.rg i.b) (s.rg i.c)).1, q.leaks ++ uN (kT ws s.at_) c, q.steps + c, fl2, (kT ws s.at_ : Int) + c⟩) :
  ∃ s2 b, s.tick.step i = (s2, b) ∧ lH fuel ws R s q s2 b := by
 refine ⟨_, _, aBm hop hv, c, ⟨q.code, q.mem, q.regs.set i.d.toNat (iS i.op i.k (s.rg i.a) (s.rg i.b) (s.rg i.c)).1, q.leaks ++ uN (kT ws s.at_) c, q.steps + c, fl2, (kT ws s.at_ : Int) + c⟩, [(1, (s.at_ : Int))], uN (kT ws s.at_) c, by omega, rfl, rfl, fun pc T => ?_, hsim.mem, (by show q.steps + c ≤ q.steps + 9; omega), fun _ => ⟨hg, ?_⟩, fun h => by cases h⟩
 ·show (if (1 : Int) = 1 then lkA ws s.at_ ++ mlk ws s.at_ T else _) = _
  rw [if_pos rfl]
  unfold lkA
  rw [Int.toNat_natCast, hi, if_neg (by omega), hc]
 ·refine ⟨by simpa using hsim.rl, ?_, hsim.mem, ?_⟩
  ·exact aFT hs.len hsim.rl hR hsim.rg _ _ (by omega)
  ·show (kT ws s.at_ : Int) + c = (kT ws (s.at_ + 1) : Int)
   rw [yF ws s.at_ hj, hi, hc]; omega
end
theorem aJZ {r : List Nat} {d : Int} {x : Nat} (h : Rw d) : fE r d x = r.set d.toNat x := by
 unfold Rw at h
 unfold fE; rw [if_neg (by omega)]
theorem aEl (r : List Nat) : cC r 31 = 0 := rfl
theorem vL {op k : Int} {a : Nat} (h : 0 ≤ k ∧ k ≤ 63) : pU op k a = if op = 10 then (a * 2 ^ k.toNat % 18446744073709551616, true) else if op = 11 then (a / 2 ^ k.toNat, true) else (aCf a k.toNat, true) := by
 unfold pU; rw [if_neg (by omega)]
section
variable (d a b k : Int) (r : List Nat) (fl : FL)
theorem aGX : (cP ⟨6, d, a, 31, 0, 0⟩ r fl).1 = fE r d (cC r a ||| cC r 31) := by simp [cP, iR, iY]
theorem aGW : (cP ⟨3, d, a, b, 0, 0⟩ r fl).1 = fE r d ((cC r a + cC r b) % 18446744073709551616) := by simp [cP, iR, iY]
theorem aLp : (cP ⟨4, d, a, b, 0, 0⟩ r fl).1 = fE r d ((cC r a + 18446744073709551616 - cC r b) % 18446744073709551616) := by simp [cP, iR, iY]
theorem aLt : (cP ⟨8, d, a, b, 31, 0⟩ r fl).1 = fE r d ((cC r a * cC r b % 18446744073709551616 + cC r 31) % 18446744073709551616) := by simp [cP, iR, iY]
theorem aLu : (cP ⟨9, d, a, b, 0, 0⟩ r fl).1 = fE r d (cC r a * cC r b / 18446744073709551616) := by simp [cP, iR, iY]
theorem aLq : (cP ⟨5, d, a, b, 0, 0⟩ r fl).1 = fE r d (cC r a &&& cC r b) := by simp [cP, iR, iY]
theorem aLr : (cP ⟨6, d, a, b, 0, 0⟩ r fl).1 = fE r d (cC r a ||| cC r b) := by simp [cP, iR, iY]
theorem aLs : (cP ⟨7, d, a, b, 0, 0⟩ r fl).1 = fE r d (cC r a ^^^ cC r b) := by simp [cP, iR, iY]
theorem aFl : (cP ⟨12, d, a, 0, 0, k⟩ r fl).1 = fE r d (cC r a * 2 ^ u64 k % 18446744073709551616) := by simp [cP, iR, iY]
theorem aBF : (cP ⟨13, d, a, 0, 0, k⟩ r fl).1 = fE r d (cC r a / 2 ^ u64 k) := by simp [cP, iR, iY]
theorem aIY : (cP ⟨14, d, a, 0, 0, k⟩ r fl).1 = fE r d (aCf (cC r a) (u64 k)) := by simp [cP, iR, iY]
theorem aIZ : (cP ⟨16, d, a, b, 1, 0⟩ r fl).1 = fE r d (if (!fl.z) = true then cC r a else cC r b) := by simp [cP, iR, iY]
theorem aJa : (cP ⟨17, d, 0, 0, 3, 0⟩ r fl).1 = fE r d (if (!fl.c) = true then 1 else 0) := by simp [cP, iR, iY]
theorem aIX : (cP ⟨10, d, a, 0, 0, k⟩ r fl).1 = fE r d ((cC r a + u64 k) % 18446744073709551616) := by simp [cP, iR, iY]
theorem aLG (x y : Nat) : (rW x y).c = decide (y ≤ x) := by simp [rW, aFu]
theorem aLH (x y : Nat) : (rW x y).z = decide ((x + 18446744073709551616 - y) % 18446744073709551616 = 0) := by simp only [rW, aFu]
theorem aFm : cP ⟨15, 0, a, b, 0, 0⟩ r fl = (r, rW (cC r a) (cC r b)) := by simp [cP]
end
theorem aMy (k : Int) (x y z : Nat) : iS 2 k x y z = (x, true) := by simp [iS]
theorem aMz (k : Int) (x y z : Nat) : iS 3 k x y z = ((x + y) % 18446744073709551616, true) := by simp [iS]
theorem aMA (k : Int) (x y z : Nat) : iS 4 k x y z = ((x + 18446744073709551616 - y) % 18446744073709551616, true) := by simp [iS]
theorem aMB (k : Int) (x y z : Nat) : iS 5 k x y z = (x * y % 18446744073709551616, true) := by simp [iS]
theorem aMC (k : Int) (x y z : Nat) : iS 6 k x y z = (x * y / 18446744073709551616, true) := by simp [iS]
theorem aMD (k : Int) (x y z : Nat) : iS 7 k x y z = (x &&& y, true) := by simp [iS]
theorem aME (k : Int) (x y z : Nat) : iS 8 k x y z = (x ||| y, true) := by simp [iS]
theorem aMF (k : Int) (x y z : Nat) : iS 9 k x y z = (x ^^^ y, true) := by simp [iS]
theorem aKi (k : Int) (x y z : Nat) : iS 13 k x y z = (if x < y then 1 else 0, true) := by simp [iS]
theorem aKj (k : Int) (x y z : Nat) : iS 14 k x y z = (if x ≠ 0 then y else z, true) := by simp [iS]
section
variable {ws : List WI} {R : Nat} {fuel : Int} {s : MS} {q : QS} {i : WI}
theorem aGQ (hR : R ≤ 28) (hw : ∀ w ∈ ws, w.Good R ws.length) (hl : ws.length ≤ 10000) {j : Nat} (hj : j < ws.length) {L : List MI} (hL : gY ws.length (ws.getD j default) = gI L) (t : Nat) {x : MI} (hx : L[t]? = some x) (hn : ¬ (x.op = 12 ∧ x.imm = 0)) : At (pH ws) ((kT ws j : Int) + t) x :=
 sS hR hw hl hj (by rw [hL, mB]; exact hx) hn
theorem kM (hsim : Sim ws R s q) (hs : s.Ok R) (hR : R ≤ 28) (hj : s.at_ < ws.length) (hi : ws.getD s.at_ default = i) (hst : (q.steps : Int) + 9 < fuel) (hop : 1 ≤ i.op ∧ i.op ≤ 14) (hv : (iS i.op i.k (s.rg i.a) (s.rg i.b) (s.rg i.c)).2 = true) (hd : 0 ≤ i.d ∧ i.d < R)
  (hc : (gY ws.length i).length = 1) {x : MI} (hA : At (pH ws) ((kT ws s.at_ : Int) + (0 : Nat)) x) (ho : x.op ≤ 17) (hx : (cP x q.regs q.flags).1 = q.regs.set i.d.toNat (iS i.op i.k (s.rg i.a) (s.rg i.b) (s.rg i.c)).1) :
  ∃ s2 b, s.tick.step i = (s2, b) ∧ lH fuel ws R s q s2 b := by
 refine aAf hsim hs hR hj hi hop hv hd hc (by decide) (fl2 := (cP x q.regs q.flags).2) ?_
 have e0 : (kT ws s.at_ : Int) + (0 : Nat) = q.at_ := by rw [hsim.at_]; simp
 rw [e0] at hA
 have h1 := vP (cd := q.code) (mem := q.mem) (r := q.regs) (lk := q.leaks) (st := q.steps) (fl := q.flags) (fuel := fuel) hA ho (by omega)
 rw [hx] at h1
 have e1 : (kT ws s.at_ : Int) = q.at_ := hsim.at_.symm
 rw [e1]
 exact h1
theorem aDL (hsim : Sim ws R s q) (hs : s.Ok R) (hR : R ≤ 28) (hj : s.at_ < ws.length) (hi : ws.getD s.at_ default = i) (hst : (q.steps : Int) + 9 < fuel) (hop : 1 ≤ i.op ∧ i.op ≤ 14) (hv : (iS i.op i.k (s.rg i.a) (s.rg i.b) (s.rg i.c)).2 = true) (hd : 0 ≤ i.d ∧ i.d < R)
  (hc : (gY ws.length i).length = 2) {x y : MI} (hA : At (pH ws) ((kT ws s.at_ : Int) + (0 : Nat)) x) (hB : At (pH ws) ((kT ws s.at_ : Int) + (1 : Nat)) y) (ho : x.op ≤ 17) (ho2 : y.op ≤ 17) {fl : FL} (hx : cP x q.regs q.flags = (q.regs, fl)) (hy : (cP y q.regs fl).1 = q.regs.set i.d.toNat (iS i.op i.k (s.rg i.a) (s.rg i.b) (s.rg i.c)).1) :
  ∃ s2 b, s.tick.step i = (s2, b) ∧ lH fuel ws R s q s2 b := by
 refine aAf hsim hs hR hj hi hop hv hd hc (by decide) (fl2 := (cP y q.regs fl).2) ?_
 have e0 : (kT ws s.at_ : Int) + (0 : Nat) = q.at_ := by rw [hsim.at_]; simp
 have e1 : (kT ws s.at_ : Int) + (1 : Nat) = q.at_ + 1 := by rw [hsim.at_]; simp
 rw [e0] at hA
 rw [e1] at hB
 have h1 := vP (cd := q.code) (mem := q.mem) (r := q.regs) (lk := q.leaks) (st := q.steps) (fl := q.flags) (fuel := fuel) hA ho (by omega)
 rw [hx] at h1
 have h2 := vP (cd := q.code) (mem := q.mem) (r := q.regs) (lk := q.leaks ++ [(1, q.at_)]) (st := q.steps + 1) (fl := fl) (fuel := fuel) hB ho2 (by push_cast; omega)
 rw [hy] at h2
 have e2 : (kT ws s.at_ : Int) = q.at_ := hsim.at_.symm
 rw [e2]
 have h3 := h1.trans h2
 rw [List.append_assoc, show q.at_ + 1 + 1 = q.at_ + ((2 : Nat) : Int) by omega] at h3
 exact h3
theorem aIF (hsim : Sim ws R s q) (hs : s.Ok R) (hR : R ≤ 28) (hw : ∀ w ∈ ws, w.Good R ws.length) (hl : ws.length ≤ 10000) (hj : s.at_ < ws.length) (hi : ws.getD s.at_ default = i) (hg : i.Good R ws.length) (hst : (q.steps : Int) + 9 < fuel) (hop : 1 ≤ i.op ∧ i.op ≤ 14) :
  ∃ s2 b, s.tick.step i = (s2, b) ∧ lH fuel ws R s q s2 b := by
 obtain ⟨ha, hdbc⟩ := wI hg hR
 have hsh := hg.ok2.sh
 have hv := aCk (a := s.rg i.a) (b := s.rg i.b) (c := s.rg i.c) hop hsh
 have hd := hg.ok2.ok.d (by omega)
 have hb := hg.ok2.ok.b (by omega)
 have hc := hg.ok2.ok.c (by omega)
 have ha2 := hg.ok2.ok.a (by omega) (by omega)
 have ga := uG hsim ha2.1 ha2.2 hR
 have gb := uG hsim hb.1 hb.2 hR
 have gc := uG hsim hc.1 hc.2 hR
 have la := hs.rg i.a
 have lb := hs.rg i.b
 have lc := hs.rg i.c
 have hdR := (hdbc (by omega)).1
 have sF : ∀ x, fE q.regs i.d x = q.regs.set i.d.toNat x := fun x => aJZ hdR
 obtain ⟨op, d, a, b, c, k⟩ := i
 simp only at hop
 have hop2 : op = 1 ∨ op = 2 ∨ op = 3 ∨ op = 4 ∨ op = 5 ∨ op = 6 ∨ op = 7 ∨ op = 8 ∨ op = 9 ∨ op = 10 ∨ op = 11 ∨ op = 12 ∨ op = 13 ∨ op = 14 := by omega
 have aP : ∀ (L : List MI), gY ws.length ⟨op, d, a, b, c, k⟩ = gI L → ∀ (t : Nat) (x : MI), L[t]? = some x → ¬ (x.op = 12 ∧ x.imm = 0) → At (pH ws) ((kT ws s.at_ : Int) + t) x := fun L hL t x hx hn => aGQ hR hw hl hj (by rw [hi]; exact hL) t hx hn
 rcases hop2 with rfl | rfl | rfl | rfl | rfl | rfl | rfl | rfl | rfl | rfl | rfl | rfl | rfl | rfl
 ·
  have hcd := sZ d (by unfold Rw at hdR; simp only at hdR; omega) (u64 k) (iJ k) q.flags
  refine aAf hsim hs hR hj hi hop hv hd (c := (iB d (u64 k)).length) (mD _) (by have := (jP d (u64 k)).2; omega) (fl2 := q.flags) ?_
  have g := uW (cs := pH ws) (fuel := fuel) (cd := q.code) (mem := q.mem) (fl := q.flags) (d := d) (iB d (u64 k)) (kT ws s.at_) q.regs q.leaks q.steps hcd.1 (fun t x hx => aP _ rfl t x hx (by have := (hcd.1 x (List.mem_of_getElem? hx)).2; omega)) (by have := (jP d (u64 k)).2; omega)
  rw [hcd.2 q.regs hsim.rl, ← hsim.at_] at g
  have e1 : (kT ws s.at_ : Int) = q.at_ := hsim.at_.symm
  rw [e1]
  exact g
 ·refine kM hsim hs hR hj hi hst hop hv hd rfl (aP [_] rfl 0 _ rfl (by simp)) (by simp) ?_
  rw [aGX]
  rw [sF, ga, aEl, Nat.or_zero]
  simp only [aMy]
 ·refine kM hsim hs hR hj hi hst hop hv hd rfl (aP [_] rfl 0 _ rfl (by simp)) (by simp) ?_
  rw [aGW]
  rw [sF, ga, gb]
  simp only [aMz]
 ·refine kM hsim hs hR hj hi hst hop hv hd rfl (aP [_] rfl 0 _ rfl (by simp)) (by simp) ?_
  rw [aLp]
  rw [sF, ga, gb]
  simp only [aMA]
 ·refine kM hsim hs hR hj hi hst hop hv hd rfl (aP [_] rfl 0 _ rfl (by simp)) (by simp) ?_
  rw [aLt]
  rw [sF, ga, gb, aEl, Nat.add_zero, Nat.mod_mod]
  simp only [aMB]
 ·refine kM hsim hs hR hj hi hst hop hv hd rfl (aP [_] rfl 0 _ rfl (by simp)) (by simp) ?_
  rw [aLu]
  rw [sF, ga, gb]
  simp only [aMC]
 ·refine kM hsim hs hR hj hi hst hop hv hd rfl (aP [_] rfl 0 _ rfl (by simp)) (by simp) ?_
  rw [aLq]
  rw [sF, ga, gb]
  simp only [aMD]
 ·refine kM hsim hs hR hj hi hst hop hv hd rfl (aP [_] rfl 0 _ rfl (by simp)) (by simp) ?_
  rw [aLr]
  rw [sF, ga, gb]
  simp only [aME]
 ·refine kM hsim hs hR hj hi hst hop hv hd rfl (aP [_] rfl 0 _ rfl (by simp)) (by simp) ?_
  rw [aLs]
  rw [sF, ga, gb]
  simp only [aMF]
 ·have hk := hsh (by simp) (by simp)
  simp only at hk
  have ev : ∀ x y z, iS 10 k x y z = (x * 2 ^ k.toNat % 18446744073709551616, true) := fun x y z => vL hk
  have ek : u64 k = k.toNat := by unfold u64; omega
  by_cases h0 : k = 0
  ·subst h0
   refine kM hsim hs hR hj hi hst hop hv hd rfl (aGO hR hw hl hj hdR (ha (by simp) (by simp)) (t := 0) (by rw [hi]; rfl)) (by simp) ?_
   rw [aBF]
   rw [sF, ga, ek]
   simp only [ev]
   have e2 : (2 : Nat) ^ (0 : Int).toNat = 1 := rfl
   rw [e2, Nat.div_one, Nat.mul_one, Nat.mod_eq_of_lt la]
  ·refine kM hsim hs hR hj hi hst hop hv hd rfl (aP [_] rfl 0 _ rfl (by simp only; omega)) (by simp) ?_
   rw [aFl]
   rw [sF, ga, ek]
   simp only [ev]
 ·have hk := hsh (by simp) (by simp)
  simp only at hk
  have ev : ∀ x y z, iS 11 k x y z = (x / 2 ^ k.toNat, true) := fun x y z => vL hk
  have ek : u64 k = k.toNat := by unfold u64; omega
  refine kM hsim hs hR hj hi hst hop hv hd rfl (aP [_] rfl 0 _ rfl (by simp)) (by simp) ?_
  rw [aBF]
  rw [sF, ga, ek]
  simp only [ev]
 ·have hk := hsh (by simp) (by simp)
  simp only at hk
  have ev : ∀ x y z, iS 12 k x y z = (aCf x k.toNat, true) := fun x y z => vL hk
  have ek : u64 k = k.toNat := by unfold u64; omega
  refine kM hsim hs hR hj hi hst hop hv hd rfl (aP [_] rfl 0 _ rfl (by simp)) (by simp) ?_
  rw [aIY]
  rw [sF, ga, ek]
  simp only [ev]
 ·refine aDL hsim hs hR hj hi hst hop hv hd rfl (aP [_, _] rfl 0 _ rfl (by simp)) (aP [_, _] rfl 1 _ rfl (by simp)) (by simp) (by simp) (fl := rW (cC q.regs a) (cC q.regs b)) (aFm ..) ?_
  rw [aJa, aLG]
  rw [sF, ga, gb]
  simp only [aKi]
  congr 1
  by_cases h : s.rg a < s.rg b
  ·rw [if_pos h, decide_eq_false (by omega)]; rfl
  ·rw [if_neg h, decide_eq_true (by omega)]; rfl
 ·refine aDL hsim hs hR hj hi hst hop hv hd rfl (aP [_, _] rfl 0 _ rfl (by simp)) (aP [_, _] rfl 1 _ rfl (by simp)) (by simp) (by simp) (fl := rW (cC q.regs a) (cC q.regs 31)) (aFm ..) ?_
  have key : ∀ x y z : Nat, x < 18446744073709551616 → (if (!decide ((x + 18446744073709551616 - 0) % 18446744073709551616 = 0)) = true then y else z) = if x ≠ 0 then y else z := fun x y z hx => by
   have e : (x + 18446744073709551616 - 0) % 18446744073709551616 = x := by omega
   rw [e]
   by_cases h : x = 0 <;> simp [h]
  rw [aIZ, aLH]
  rw [sF, ga, gb, gc, aEl, key _ _ _ la]
  simp only [aKj]
end
section
variable {ws : List WI} {R : Nat} {fuel : Int} {s : MS} {q : QS} {d a b c k : Int}
theorem lH.go {s2 : MS} {m : Nat} {q2 : QS} (Y X : List (Int × Int)) (hg : oS (pH ws) fuel q m q2) (hm : m ≤ 10) (hY : s2.leaks = s.leaks ++ Y) (hX : q2.leaks = q.leaks ++ X) (hk : ∀ pc T, mlk ws pc (Y ++ T) = X ++ mlk ws s.at_ T) (hmem : q2.mem = s2.mem) (hst : q2.steps ≤ q.steps + 9) (hs : Sim ws R s2 q2) : lH fuel ws R s q s2 true :=
 ⟨m, q2, Y, X, hm, hY, hX, hk, hmem, hst, fun _ => ⟨hg, hs⟩, fun h => by cases h⟩
theorem lH.fin {s2 : MS} {m : Nat} {q2 : QS} (Y X : List (Int × Int)) (hg : aCv (pH ws) fuel q m q2) (hm : m ≤ 10) (hY : s2.leaks = s.leaks ++ Y) (hX : q2.leaks = q.leaks ++ X) (hk : ∀ pc T, mlk ws pc (Y ++ T) = X ++ mlk ws s.at_ T) (hmem : q2.mem = s2.mem) (hst : q2.steps ≤ q.steps + 9) (hc : q2.code = s2.code) : lH fuel ws R s q s2 false :=
 ⟨m, q2, Y, X, hm, hY, hX, hk, hmem, hst, fun h => (by cases h), fun _ => ⟨hg, hc⟩⟩
theorem aKb (hsim : Sim ws R s q) (hR : R ≤ 28) (hw : ∀ w ∈ ws, w.Good R ws.length) (hl : ws.length ≤ 10000) (hj : s.at_ < ws.length) (hi : ws.getD s.at_ default = ⟨17, d, a, b, c, k⟩) (hk : 0 ≤ k ∧ k ≤ ws.length) (hst : (q.steps : Int) + 9 < fuel) :
  ∃ s2 b2, s.tick.step ⟨17, d, a, b, c, k⟩ = (s2, b2) ∧ lH fuel ws R s q s2 b2 := by
 have hp := sK ws k.toNat (by omega)
 have hA := sS (i := ⟨20, 0, 0, 0, 0, ((kJ ws).getD k.toNat 0 : Int) - kT ws s.at_⟩) hR hw hl hj (t := 0) (by rw [hi]; rfl) (by simp)
 rw [hp] at hA
 have e0 : (kT ws s.at_ : Int) + (0 : Nat) = q.at_ := by rw [hsim.at_]; simp
 have e1 : (kT ws s.at_ : Int) = q.at_ := hsim.at_.symm
 rw [e0, e1] at hA
 have g := aNQ (cd := q.code) (mem := q.mem) (r := q.regs) (lk := q.leaks) (st := q.steps) (fl := q.flags) (fuel := fuel) hA (by omega)
 refine ⟨⟨s.regs, k.toNat, s.code, s.mem, s.leaks ++ [(1, (s.at_ : Int))], s.steps + 1⟩, true, rfl, lH.go [(1, (s.at_ : Int))] [(1, q.at_)] g (by omega) rfl rfl (fun pc T => ?_) hsim.mem (by show q.steps + 1 ≤ q.steps + 9; omega) ⟨hsim.rl, hsim.rg, hsim.mem, ?_⟩⟩
 ·show (if (1 : Int) = 1 then lkA ws s.at_ ++ mlk ws s.at_ T else _) = _
  rw [if_pos rfl]
  unfold lkA
  rw [Int.toNat_natCast, hi, if_neg (by simp), e1]; rfl
 ·show q.at_ + ((kT ws k.toNat : Int) - q.at_) = (kT ws k.toNat : Int)
  omega
theorem aIL {op : Int} (ho : op = 18 ∨ op = 19) (g : Bool) (hg : g = (decide (s.rg a = 0) == decide (op = 18))) :
  s.tick.step ⟨op, d, a, b, c, k⟩ = (⟨s.regs, if g = true then k.toNat else s.at_ + 1, s.code, s.mem, s.leaks ++ [(1, (s.at_ : Int)), (2, if g = true then 1 else 0)], s.steps + 1⟩, true) := by
 have e : ∀ j, MS.rg ({ s.tick with at_ := s.tick.at_ + 1 } : MS) j = s.rg j := fun j => rfl
 have el : s.leaks ++ [(1, (s.at_ : Int))] ++ [(2, if g = true then 1 else 0)] = s.leaks ++ [(1, (s.at_ : Int)), (2, if g = true then 1 else 0)] := by simp
 unfold MS.step
 simp only
 rw [if_neg (by omega), if_pos (by omega)]
 unfold MS.branch
 simp only [e]
 rw [if_neg (by omega), ← hg, ← el]
 cases g <;> rfl
theorem aFV {op : Int} (ho : op = 18 ∨ op = 19) (hsim : Sim ws R s q) (hR : R ≤ 28) (hw : ∀ w ∈ ws, w.Good R ws.length) (hl : ws.length ≤ 10000) (hj : s.at_ < ws.length) (hi : ws.getD s.at_ default = ⟨op, d, a, b, c, k⟩) (hk : 0 ≤ k ∧ k ≤ ws.length) (ha : 0 ≤ a ∧ a < R) (hst : (q.steps : Int) + 9 < fuel) :
  ∃ s2 b2, s.tick.step ⟨op, d, a, b, c, k⟩ = (s2, b2) ∧ lH fuel ws R s q s2 b2 := by
 obtain ⟨g, hg⟩ : ∃ g : Bool, g = (decide (s.rg a = 0) == decide (op = 18)) := ⟨_, rfl⟩
 obtain ⟨o2, ho2⟩ : ∃ o2 : Int, o2 = if op = 18 then 22 else 23 := ⟨_, rfl⟩
 have hp := sK ws k.toNat (by omega)
 have hch : gY ws.length ⟨op, d, a, b, c, k⟩ = [(⟨o2, a, 0, 0, 0, 0⟩, some k)] := by
  rcases ho with rfl | rfl <;> (rw [ho2]; rfl)
 have hlen : (gY ws.length ⟨op, d, a, b, c, k⟩).length = 1 := by rw [hch]; rfl
 have hA := sS (i := ⟨o2, a, 0, 0, 0, ((kJ ws).getD k.toNat 0 : Int) - kT ws s.at_⟩) hR hw hl hj (t := 0) (by rw [hi, hch]; rfl) (by rcases ho with rfl | rfl <;> (rw [ho2]; simp))
 rw [hp] at hA
 have e0 : (kT ws s.at_ : Int) + (0 : Nat) = q.at_ := by rw [hsim.at_]; simp
 have e1 : (kT ws s.at_ : Int) = q.at_ := hsim.at_.symm
 rw [e0, e1] at hA
 have ga := uG hsim ha.1 ha.2 hR
 have hg2 : g = (if o2 = 22 then decide (cC q.regs a = 0) else decide (cC q.regs a ≠ 0)) := by
  rw [hg, ga, ho2]
  rcases ho with rfl | rfl
  ·by_cases h : s.rg a = 0 <;> simp [h]
  ·by_cases h : s.rg a = 0 <;> simp [h]
 have gg := aKC (cd := q.code) (mem := q.mem) (r := q.regs) (lk := q.leaks) (st := q.steps) (fl := q.flags) (fuel := fuel) (op := o2) (by rcases ho with rfl | rfl <;> simp [ho2]) g hg2 hA (by omega)
 refine ⟨_, true, aIL ho g hg, lH.go [(1, (s.at_ : Int)), (2, if g = true then 1 else 0)] [(1, q.at_), (2, if g = true then 1 else 0)] gg (by omega) rfl ?_ (fun pc T => ?_) hsim.mem ?_ ⟨hsim.rl, hsim.rg, hsim.mem, ?_⟩⟩
 ·simp
 ·show (if (1 : Int) = 1 then lkA ws s.at_ ++ (if (2 : Int) = 1 then _ else lkB ws s.at_ (if g = true then 1 else 0) ++ mlk ws s.at_ T) else _) = _
  rw [if_pos rfl, if_neg (by decide)]
  unfold lkA lkB
  rw [Int.toNat_natCast, hi, if_pos (by rcases ho with rfl | rfl <;> simp), if_pos (by rcases ho with rfl | rfl <;> simp), e1]; rfl
 ·show q.steps + 1 ≤ q.steps + 9; omega
 ·cases g
  ·show q.at_ + 1 = (kT ws (s.at_ + 1) : Int)
   rw [yF ws s.at_ hj, hi, hlen]; omega
  ·show q.at_ + ((kT ws k.toNat : Int) - q.at_) = (kT ws k.toNat : Int)
   omega
theorem aKc (hsim : Sim ws R s q) (hR : R ≤ 28) (hw : ∀ w ∈ ws, w.Good R ws.length) (hl : ws.length ≤ 10000) (hj : s.at_ < ws.length) (hi : ws.getD s.at_ default = ⟨20, d, a, b, c, k⟩) (hk : 0 ≤ k ∧ k ≤ 2) (hst : (q.steps : Int) + 9 < fuel) :
  ∃ s2 b2, s.tick.step ⟨20, d, a, b, c, k⟩ = (s2, b2) ∧ lH fuel ws R s q s2 b2 := by
 have hA := sS (i := ⟨24, 0, 0, 0, 0, k⟩) hR hw hl hj (t := 0) (by rw [hi]; rfl) (by simp)
 have e0 : (kT ws s.at_ : Int) + (0 : Nat) = q.at_ := by rw [hsim.at_]; simp
 have e1 : (kT ws s.at_ : Int) = q.at_ := hsim.at_.symm
 rw [e0] at hA
 have g := aLk (cd := q.code) (mem := q.mem) (r := q.regs) (lk := q.leaks) (st := q.steps) (fl := q.flags) (fuel := fuel) hk.2 hA (by omega)
 refine ⟨⟨s.regs, s.at_ + 1, k, s.mem, s.leaks ++ [(1, (s.at_ : Int))], s.steps + 1⟩, false, rfl, lH.fin [(1, (s.at_ : Int))] [(1, q.at_)] g (by omega) rfl rfl (fun pc T => ?_) hsim.mem (by show q.steps + 1 ≤ q.steps + 9; omega) rfl⟩
 show (if (1 : Int) = 1 then lkA ws s.at_ ++ mlk ws s.at_ T else _) = _
 rw [if_pos rfl]
 unfold lkA
 rw [Int.toNat_natCast, hi, if_neg (by simp), e1]; rfl
theorem aBl {op : Int} (ho : op = 15 ∨ op = 16) {y : Nat} (hy : y = (s.rg a + u64 k) % 18446744073709551616) (hm : s.mem.length ≤ y) :
  s.tick.step ⟨op, d, a, b, c, k⟩ = (⟨s.regs, s.at_ + 1, 3, s.mem, s.leaks ++ [(1, (s.at_ : Int)), (3, lV y)], s.steps + 1⟩, false) := by
 have e : ∀ j, MS.rg ({ s.tick with at_ := s.tick.at_ + 1 } : MS) j = s.rg j := fun j => rfl
 have em : MS.mem ({ s.tick with at_ := s.tick.at_ + 1 } : MS) = s.mem := rfl
 have el : s.leaks ++ [(1, (s.at_ : Int))] ++ [(3, lV y)] = s.leaks ++ [(1, (s.at_ : Int)), (3, lV y)] := by simp
 unfold MS.step
 simp only
 rw [if_pos ho]
 unfold MS.touch
 simp only [e, ← hy]
 rw [if_pos (show s.tick.mem.length ≤ y from hm), ← el]
 rfl
theorem aDT {y : Nat} (hy : y = (s.rg a + u64 k) % 18446744073709551616) (hm : ¬ s.mem.length ≤ y) :
  s.tick.step ⟨15, d, a, b, c, k⟩ = (⟨s.regs.set d.toNat (s.mem.getD y 0), s.at_ + 1, s.code, s.mem, s.leaks ++ [(1, (s.at_ : Int)), (3, lV y)], s.steps + 1⟩, true) := by
 have e : ∀ j, MS.rg ({ s.tick with at_ := s.tick.at_ + 1 } : MS) j = s.rg j := fun j => rfl
 have el : s.leaks ++ [(1, (s.at_ : Int))] ++ [(3, lV y)] = s.leaks ++ [(1, (s.at_ : Int)), (3, lV y)] := by simp
 unfold MS.step
 simp only
 rw [if_pos (Or.inl trivial)]
 unfold MS.touch
 simp only [e, ← hy]
 rw [if_neg (show ¬ s.tick.mem.length ≤ y from hm), if_pos trivial, ← el]
 rfl
theorem aDU {y : Nat} (hy : y = (s.rg a + u64 k) % 18446744073709551616) (hm : ¬ s.mem.length ≤ y) :
  s.tick.step ⟨16, d, a, b, c, k⟩ = (⟨s.regs, s.at_ + 1, s.code, s.mem.set y (s.rg b), s.leaks ++ [(1, (s.at_ : Int)), (3, lV y)], s.steps + 1⟩, true) := by
 have e : ∀ j, MS.rg ({ s.tick with at_ := s.tick.at_ + 1 } : MS) j = s.rg j := fun j => rfl
 have el : s.leaks ++ [(1, (s.at_ : Int))] ++ [(3, lV y)] = s.leaks ++ [(1, (s.at_ : Int)), (3, lV y)] := by simp
 unfold MS.step
 simp only
 rw [if_pos (Or.inr trivial)]
 unfold MS.touch
 simp only [e, ← hy]
 rw [if_neg (show ¬ s.tick.mem.length ≤ y from hm), if_neg (show ¬ (16 : Int) = 15 by decide), ← el]
 rfl
theorem aJi {i : WI} {P : Int} {y : Nat} {cd : Int} {mem r : List Nat} {lk : List (Int × Int)} {st : Nat} {fl : FL} (hrl : r.length = 31) (ha : Rw i.a) (hk : 0 ≤ i.k ∧ i.k ≤ 65535) (hy : y = (cC r i.a + u64 i.k) % 18446744073709551616)
  (hA : ∀ (t : Nat) (x : MI), (lO i)[t]? = some x → At (pH ws) (P + t) x) (hst : (st : Int) + 5 < fuel) :
  oS (pH ws) fuel ⟨cd, mem, r, lk, st, fl, P⟩ (lO i).length ⟨cd, mem, r.set 28 y, lk ++ uN P (lO i).length, st + (lO i).length, fl, P + (lO i).length⟩ := by
 unfold lO at hA ⊢
 by_cases h : i.k ≤ 4095
 ·rw [if_pos h] at hA ⊢
  have h0 := hA 0 _ rfl
  rw [show P + ((0 : Nat) : Int) = P by omega] at h0
  have g := vP (cd := cd) (mem := mem) (r := r) (lk := lk) (st := st) (fl := fl) (fuel := fuel) h0 (by simp) (by omega)
  rw [aIX] at g
  have e2 : (cP ⟨10, 28, i.a, 0, 0, i.k⟩ r fl).2 = fl := by simp [cP]
  have e3 : fE r 28 ((cC r i.a + u64 i.k) % 18446744073709551616) = r.set 28 y := by rw [← hy]; rfl
  rw [e2, e3] at g
  exact g
 ·rw [if_neg h] at hA ⊢
  obtain ⟨L, hL⟩ : ∃ L, L = iB 28 (u64 i.k) := ⟨_, rfl⟩
  have hcd := sZ 28 (by decide) (u64 i.k) (iJ _) fl
  have hlen := (jP 28 (u64 i.k)).2
  rw [← hL] at hA hcd hlen ⊢
  have g := uW (cs := pH ws) (fuel := fuel) (cd := cd) (mem := mem) (fl := fl) (d := 28) L P r lk st hcd.1 (fun t x hx => hA t x (by rw [List.getElem?_append_left (List.getElem?_eq_some_iff.1 hx).1]; exact hx)) (by omega)
  rw [hcd.2 r hrl] at g
  have h0 := hA L.length ⟨3, 28, i.a, 28, 0, 0⟩ (by rw [List.getElem?_append_right (Nat.le_refl _), Nat.sub_self]; rfl)
  have g2 := vP (cd := cd) (mem := mem) (r := r.set (28 : Int).toNat (u64 i.k)) (lk := lk ++ uN P L.length) (st := st + L.length) (fl := fl) (fuel := fuel) h0 (by simp) (by push_cast; omega)
  rw [aGW] at g2
  have e2 : (cP ⟨3, 28, i.a, 28, 0, 0⟩ (r.set (28 : Int).toNat (u64 i.k)) fl).2 = fl := by simp [cP]
  have e28 : (28 : Int).toNat = 28 := rfl
  rw [e28] at g g2 e2
  have e4 : cC (r.set 28 (u64 i.k)) 28 = u64 i.k := by
   unfold cC; rw [if_neg (by decide), e28, lS _ _ _ _ (by omega), if_pos rfl]
  have e5 : cC (r.set 28 (u64 i.k)) i.a = cC r i.a := by
   unfold Rw at ha
   unfold cC; rw [if_neg (by omega), if_neg (by omega), lS _ _ _ _ (by omega), if_neg (by omega)]
  have e3 : fE (r.set 28 (u64 i.k)) 28 ((cC (r.set 28 (u64 i.k)) i.a + cC (r.set 28 (u64 i.k)) 28) % 18446744073709551616) = r.set 28 y := by
   rw [e4, e5, ← hy]
   unfold fE; rw [if_neg (by decide), e28, List.set_set]
  rw [e2, e3] at g2
  have g3 := g.trans g2
  rw [List.length_append, List.length_singleton, show P + ((L.length + 1 : Nat) : Int) = P + L.length + 1 by omega, aBN, aJq, ← List.append_assoc]
  exact g3
theorem aAe {op o2 r : Int} (ho : (op = 15 ∧ o2 = 18 ∧ r = d) ∨ (op = 16 ∧ o2 = 19 ∧ r = b)) (hsim : Sim ws R s q) (hs : s.Ok R) (hR : R ≤ 28) (hw : ∀ w ∈ ws, w.Good R ws.length) (hl : ws.length ≤ 10000) (hj : s.at_ < ws.length) (hi : ws.getD s.at_ default = ⟨op, d, a, b, c, k⟩) (ha : 0 ≤ a ∧ a < R) (hr : 0 ≤ r ∧ r < R) (hk : 0 ≤ k ∧ k ≤ 65535) (hm : s.mem.length ≤ 60000) (hst : (q.steps : Int) + 10 < fuel) :
  ∃ s2 b2, s.tick.step ⟨op, d, a, b, c, k⟩ = (s2, b2) ∧ lH fuel ws R s q s2 b2 := by
 have hop : op = 15 ∨ op = 16 := by omega
 have hch : gY ws.length ⟨op, d, a, b, c, k⟩ = mX o2 r ⟨op, d, a, b, c, k⟩ ws.length := by
  rcases ho with ⟨rfl, rfl, rfl⟩ | ⟨rfl, rfl, rfl⟩ <;> rfl
 obtain ⟨i, hii⟩ : ∃ i : WI, i = ⟨op, d, a, b, c, k⟩ := ⟨_, rfl⟩
 have hia : i.a = a := by rw [hii]
 have hik : i.k = k := by rw [hii]
 obtain ⟨C, hC⟩ : ∃ C, C = (lO i).length := ⟨_, rfl⟩
 have hC5 : C ≤ 5 ∧ 1 ≤ C := by
  rw [hC]; unfold lO
  have := (jP 28 (u64 i.k)).2
  split
  ·simp
  ·simp; omega
 obtain ⟨P, hP⟩ : ∃ P : Int, P = q.at_ := ⟨_, rfl⟩
 have e1 : (kT ws s.at_ : Int) = P := by rw [hP]; exact hsim.at_.symm
 have hfx : mA (kJ ws) (kT ws s.at_) (gY ws.length (ws.getD s.at_ default)) = lO i ++ ([⟨13, 29, 28, 0, 0, 16⟩] ++ ([⟨23, 29, 0, 0, 0, (kT ws ws.length : Int) - (P + C + 1)⟩] ++ [⟨12, 28, 28, 0, 0, 3⟩, ⟨o2, r, 28, 0, 0, 0⟩])) := by
  rw [hi, hch, ← hii]
  unfold mX
  rw [mM, mM, mM, mB, mB, mB, mD, mD, ← hC]
  have hp := sK ws ws.length (Nat.le_refl _)
  have e : ((kJ ws).getD ((ws.length : Int)).toNat 0 : Int) = (kT ws ws.length : Int) := by rw [Int.toNat_natCast, hp]
  simp only [mA, e, List.length_singleton]
  rw [show ((kT ws s.at_ + C + 1 : Nat) : Int) = P + C + 1 by omega]
 have hat : ∀ (t : Nat) (x : MI), (lO i ++ ([⟨13, 29, 28, 0, 0, 16⟩] ++ ([⟨23, 29, 0, 0, 0, (kT ws ws.length : Int) - (P + C + 1)⟩] ++ [⟨12, 28, 28, 0, 0, 3⟩, ⟨o2, r, 28, 0, 0, 0⟩])))[t]? = some x → ¬ (x.op = 12 ∧ x.imm = 0) → At (pH ws) (P + t) x := fun t x hx hn => by
  have := sS (i := x) hR hw hl hj (t := t) (by rw [hfx]; exact hx) hn
  rw [e1] at this; exact this
 have hat2 : ∀ (t : Nat) (x : MI), ([⟨13, 29, 28, 0, 0, 16⟩, ⟨23, 29, 0, 0, 0, (kT ws ws.length : Int) - (P + C + 1)⟩, ⟨12, 28, 28, 0, 0, 3⟩, ⟨o2, r, 28, 0, 0, 0⟩] : List MI)[t]? = some x → ¬ (x.op = 12 ∧ x.imm = 0) → At (pH ws) (P + C + t) x := fun t x hx hn => by
  have := hat (C + t) x (by rw [List.getElem?_append_right (by omega), ← hC, Nat.add_sub_cancel_left]; exact hx) hn
  rw [show P + C + (t : Int) = P + ((C + t : Nat) : Int) by omega]; exact this
 have hAd : ∀ (t : Nat) (x : MI), (lO i)[t]? = some x → At (pH ws) (P + t) x := fun t x hx => by
  refine hat t x (by rw [List.getElem?_append_left (List.getElem?_eq_some_iff.1 hx).1]; exact hx) ?_
  have hmem := List.mem_of_getElem? hx
  unfold lO at hmem
  split at hmem
  ·rw [List.mem_singleton.1 hmem]; simp
  ·rcases List.mem_append.1 hmem with h | h
   ·have := ((sZ 28 (by decide) (u64 i.k) (iJ _) iV).1 x h).2; omega
   ·rw [List.mem_singleton.1 h]; simp
 have ga := uG hsim ha.1 ha.2 hR
 obtain ⟨y, hy⟩ : ∃ y, y = (s.rg a + u64 k) % 18446744073709551616 := ⟨_, rfl⟩
 have hyl : y < 18446744073709551616 := by rw [hy]; exact Nat.mod_lt _ (by decide)
 have haw : Rw i.a := by rw [hia]; unfold Rw; omega
 have g1 := aJi (i := i) (P := P) (y := y) (cd := q.code) (mem := q.mem) (r := q.regs) (lk := q.leaks) (st := q.steps) (fl := q.flags) (fuel := fuel) hsim.rl haw (by rw [hik]; exact hk) (by rw [hia, hik, ga]; exact hy) hAd (by omega)
 rw [← hC] at g1
 have eq0 : (⟨q.code, q.mem, q.regs, q.leaks, q.steps, q.flags, P⟩ : QS) = q := by rw [hP]
 rw [eq0] at g1
 have hrl := hsim.rl
 have a0 := hat2 0 _ rfl (by simp)
 rw [show P + C + ((0 : Nat) : Int) = P + C by omega] at a0
 have g2 := vP (cd := q.code) (mem := q.mem) (r := q.regs.set 28 y) (lk := q.leaks ++ uN P C) (st := q.steps + C) (fl := q.flags) (fuel := fuel) a0 (by simp) (by push_cast; omega)
 have e13 : (cP ⟨13, 29, 28, 0, 0, 16⟩ (q.regs.set 28 y) q.flags).1 = (q.regs.set 28 y).set 29 (y / 65536) := by
  rw [aBF]
  have : cC (q.regs.set 28 y) 28 = y := by
   unfold cC; rw [if_neg (by decide)]
   have e28 : (28 : Int).toNat = 28 := rfl
   rw [e28, lS _ _ _ _ (by omega), if_pos rfl]
  rw [this]
  have e16 : 2 ^ u64 16 = 65536 := rfl
  rw [e16]; rfl
 have f13 : (cP ⟨13, 29, 28, 0, 0, 16⟩ (q.regs.set 28 y) q.flags).2 = q.flags := by simp [cP]
 rw [e13, f13] at g2
 obtain ⟨r2, hr2⟩ : ∃ r2, r2 = (q.regs.set 28 y).set 29 (y / 65536) := ⟨_, rfl⟩
 have hr2l : r2.length = 31 := by rw [hr2]; simpa using hrl
 have r2g : ∀ j, r2.getD j 0 = if 29 = j then y / 65536 else if 28 = j then y else q.regs.getD j 0 := fun j => by
  rw [hr2, lS _ _ _ _ (by simp; omega), lS _ _ _ _ (by omega)]
 rw [← hr2] at g2
 have g12 := g1.trans g2
 obtain ⟨g, hg⟩ : ∃ g : Bool, g = decide (y / 65536 ≠ 0) := ⟨_, rfl⟩
 have a1 := hat2 1 _ rfl (by simp)
 rw [show P + C + ((1 : Nat) : Int) = P + C + 1 by omega] at a1
 have hg2 : g = (if (23 : Int) = 22 then decide (cC r2 29 = 0) else decide (cC r2 29 ≠ 0)) := by
  rw [if_neg (by decide), hg]
  have : cC r2 29 = y / 65536 := by
   unfold cC; rw [if_neg (by decide)]
   have e29 : (29 : Int).toNat = 29 := rfl
   rw [e29, r2g, if_pos rfl]
  rw [this]
 have g3 := aKC (cd := q.code) (mem := q.mem) (r := r2) (lk := q.leaks ++ uN P C ++ [(1, P + C)]) (st := q.steps + C + 1) (fl := q.flags) (fuel := fuel) (Or.inr rfl) g hg2 a1 (by push_cast; omega)
 have g13 := g12.trans g3
 have mk : ∀ x : Int, ∀ pc T, mlk ws pc ([(1, (s.at_ : Int)), (3, x)] ++ T) = lkT P C (u64 x) ++ mlk ws s.at_ T := fun x pc T => by
  show (if (1 : Int) = 1 then lkA ws s.at_ ++ (if (3 : Int) = 1 then _ else lkB ws s.at_ x ++ mlk ws s.at_ T) else _) = _
  rw [if_pos rfl, if_neg (by decide)]
  unfold lkA lkB
  rw [Int.toNat_natCast, hi, if_pos (by rcases hop with rfl | rfl <;> simp), if_neg (by rcases hop with rfl | rfl <;> simp), e1, ← hii, ← hC]; rfl
 have uy : u64 (lV y) = y := aKg y hyl
 have lks : ∀ l : List (Int × Int), q.leaks ++ uN P C ++ [(1, P + C)] ++ [(1, P + C + 1)] ++ l = q.leaks ++ (uN P (C + 2) ++ l) := fun l => by
  rw [aBN]; simp [uN]
 by_cases hfar : y / 65536 = 0
 ·have hy16 : y < 65536 := by omega
  have hgf : g = false := by rw [hg]; simp [hfar]
  rw [hgf] at g13
  simp only [Bool.false_eq_true, if_false] at g13
  have a2 := hat2 2 _ rfl (by simp)
  rw [show P + C + ((2 : Nat) : Int) = P + C + 1 + 1 by omega] at a2
  have g4 := vP (cd := q.code) (mem := q.mem) (r := r2) (lk := q.leaks ++ uN P C ++ [(1, P + C)] ++ [(1, P + C + 1)] ++ [(2, 0)]) (st := q.steps + C + 1 + 1) (fl := q.flags) (fuel := fuel) a2 (by simp) (by push_cast; omega)
  have e12 : (cP ⟨12, 28, 28, 0, 0, 3⟩ r2 q.flags).1 = r2.set 28 (8 * y) := by
   rw [aFl]
   have : cC r2 28 = y := by
    unfold cC; rw [if_neg (by decide)]
    have e28 : (28 : Int).toNat = 28 := rfl
    rw [e28, r2g, if_neg (by decide), if_pos rfl]
   rw [this]
   have e3 : 2 ^ u64 3 = 8 := rfl
   rw [e3, show y * 8 % 18446744073709551616 = 8 * y by omega]; rfl
  have f12 : (cP ⟨12, 28, 28, 0, 0, 3⟩ r2 q.flags).2 = q.flags := by simp [cP]
  rw [e12, f12] at g4
  obtain ⟨r3, hr3⟩ : ∃ r3, r3 = r2.set 28 (8 * y) := ⟨_, rfl⟩
  have hr3l : r3.length = 31 := by rw [hr3]; simpa using hr2l
  have r3g : ∀ j, j < R → r3.getD j 0 = s.regs.getD j 0 := fun j hjR => by
   rw [hr3, lS _ _ _ _ (by omega), if_neg (by omega), r2g, if_neg (by omega), if_neg (by omega)]; exact hsim.rg j hjR
  have r28 : cC r3 28 = 8 * y := by
   unfold cC; rw [if_neg (by decide)]
   have e28 : (28 : Int).toNat = 28 := rfl
   rw [e28, hr3, lS _ _ _ _ (by omega), if_pos rfl]
  rw [← hr3] at g4
  have g14 := g13.trans g4
  have a3 := hat2 3 _ rfl (by simp; omega)
  rw [show P + C + ((3 : Nat) : Int) = P + C + 1 + 1 + 1 by omega] at a3
  have lkt : lkT P C y = uN P (C + 2) ++ [(2, 0), (1, P + C + 2), (1, P + C + 3), (3, lV (8 * y))] := by
   unfold lkT; rw [if_neg (by omega)]
  have lfin : q.leaks ++ uN P C ++ [(1, P + C)] ++ [(1, P + C + 1)] ++ [(2, 0)] ++ [(1, P + C + 1 + 1)] ++ [(1, P + C + 1 + 1 + 1)] ++ [(3, lV (8 * y))] = q.leaks ++ lkT P C y := by
   rw [lkt, ← lks]
   simp only [List.append_assoc, List.cons_append, List.nil_append]
   rw [show P + (C : Int) + 1 + 1 = P + C + 2 by omega, show P + (C : Int) + 2 + 1 = P + C + 3 by omega]
  by_cases hin : s.mem.length ≤ y
  ·have g5 := aLl (cd := q.code) (mem := q.mem) (r := r3) (lk := q.leaks ++ uN P C ++ [(1, P + C)] ++ [(1, P + C + 1)] ++ [(2, 0)] ++ [(1, P + C + 1 + 1)]) (st := q.steps + C + 1 + 1 + 1) (fl := q.flags) (fuel := fuel) (by omega) a3 (by push_cast; omega) hy16 r28 (by rw [hsim.mem]; exact hin)
   have ge := g14.ends g5
   refine ⟨_, false, aBl hop hy hin, lH.fin [(1, (s.at_ : Int)), (3, lV y)] (lkT P C y) ge (by omega) rfl lfin (fun pc T => ?_) hsim.mem ?_ rfl⟩
   ·rw [mk, uy]
   ·show q.steps + C + 1 + 1 + 1 + 1 ≤ q.steps + 9; omega
  ·have hat4 : ∀ w, (gY ws.length ⟨op, d, a, b, c, k⟩).length = w → w = C + 4 := fun w hw => by
    rw [← hw, hch, ← hii]
    unfold mX
    simp [gI, ← hC]
   have atn : (kT ws (s.at_ + 1) : Int) = P + C + 1 + 1 + 1 + 1 := by
    rw [yF ws s.at_ hj, hi, hat4 _ rfl]; omega
   have hrr : ∀ x, fE r3 r x = r3.set r.toNat x := fun x => by unfold fE; rw [if_neg (by omega)]
   rcases ho with ⟨rfl, rfl, rfl⟩ | ⟨rfl, rfl, rfl⟩
   ·have g5 := aMX (cd := q.code) (mem := q.mem) (r := r3) (lk := q.leaks ++ uN P C ++ [(1, P + C)] ++ [(1, P + C + 1)] ++ [(2, 0)] ++ [(1, P + C + 1 + 1)]) (st := q.steps + C + 1 + 1 + 1) (fl := q.flags) (fuel := fuel) a3 (by push_cast; omega) hy16 r28 (by rw [hsim.mem]; omega)
    have ge := g14.trans g5
    refine ⟨_, true, aDT hy hin, lH.go [(1, (s.at_ : Int)), (3, lV y)] (lkT P C y) ge (by omega) rfl lfin (fun pc T => ?_) hsim.mem ?_ ⟨?_, ?_, hsim.mem, atn.symm⟩⟩
    ·rw [mk, uy]
    ·show q.steps + C + 1 + 1 + 1 + 1 ≤ q.steps + 9; omega
    ·show (fE r3 _ _).length = 31
     rw [hrr, List.length_set]; exact hr3l
    ·show ∀ j, j < R → (fE r3 _ _).getD j 0 = _
     rw [hrr, hsim.mem]
     exact aFT hs.len hr3l hR r3g _ _ (by omega)
   ·have g5 := aMY (cd := q.code) (mem := q.mem) (r := r3) (lk := q.leaks ++ uN P C ++ [(1, P + C)] ++ [(1, P + C + 1)] ++ [(2, 0)] ++ [(1, P + C + 1 + 1)]) (st := q.steps + C + 1 + 1 + 1) (fl := q.flags) (fuel := fuel) a3 (by push_cast; omega) hy16 r28 (by rw [hsim.mem]; omega)
    have ge := g14.trans g5
    have grr : cC r3 r = s.rg r := by
     unfold cC MS.rg; rw [if_neg (by omega)]; exact r3g _ (by omega)
    have em : q.mem.set y (cC r3 r) = s.mem.set y (s.rg r) := by rw [grr, hsim.mem]
    refine ⟨_, true, aDU hy hin, lH.go [(1, (s.at_ : Int)), (3, lV y)] (lkT P C y) ge (by omega) rfl lfin (fun pc T => ?_) em ?_ ⟨hr3l, r3g, em, atn.symm⟩⟩
    ·rw [mk, uy]
    ·show q.steps + C + 1 + 1 + 1 + 1 ≤ q.steps + 9; omega
 ·have hgt : g = true := by rw [hg]; simp [hfar]
  rw [hgt] at g13
  simp only [if_true] at g13
  rw [show P + (C : Int) + 1 + ((kT ws ws.length : Int) - (P + C + 1)) = (kT ws ws.length : Int) by omega] at g13
  have g4 := aGP (fuel := fuel) (cs := pH ws) (cd := q.code) (mem := q.mem) (r := r2) (lk := q.leaks ++ uN P C ++ [(1, P + C)] ++ [(1, P + C + 1)] ++ [(2, 1)]) (st := q.steps + C + 1 + 1) (fl := q.flags) (p := (kT ws ws.length : Int)) (by rw [aFd]; unfold pH; rw [List.length_map]; omega)
  have ge := g13.ends g4
  have lkt : lkT P C y = uN P (C + 2) ++ [(2, 1)] := by
   unfold lkT; rw [if_pos hfar]
  refine ⟨_, false, aBl hop hy (by omega), lH.fin [(1, (s.at_ : Int)), (3, lV y)] (lkT P C y) ge (by omega) rfl ?_ (fun pc T => ?_) hsim.mem ?_ rfl⟩
  ·rw [lkt, ← lks]
  ·rw [mk, uy]
  ·show q.steps + C + 1 + 1 ≤ q.steps + 9; omega
end
end Go.Proofs.YtdfglgnflldkpaaDoor.Mir
