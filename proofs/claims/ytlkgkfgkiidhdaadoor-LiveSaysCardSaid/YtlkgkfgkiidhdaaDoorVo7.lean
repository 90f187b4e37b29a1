/- Part 7 of the proof: what these functions do. -/
import Derived.Test.YtlkgkfgkiidhdaaDoorVo6
import Derived.Test.YtlkgkfgkiidhdaaDoorRows
import Derived.KernelRfl
import Derived.SizedLaws
namespace Go.Proofs.YtlkgkfgkiidhdaaDoor
open Go Go.ChangeShapes Go.WideShapes Go.RowKit Mir
set_option linter.unusedVariables false
set_option linter.unusedSimpArgs false
namespace Rk
theorem own : ownKnob Tryd.prog.godebug = none := by kernel_rfl
theorem laidOut : laidOutB Tryd.prog = true := by kernel_rfl
theorem aJZ : "*" ++ "errors.errorString" = "*errors.errorString" := by decide
theorem row (u : TypeId) (h : Tryd.prog.typeName? 3 u = some "*errors.errorString") : u = 179 :=
 typeName_ptr_named (nm := "errors.errorString") (by rw [aJZ]; kernel_rfl) (by kernel_rfl) (by decide) u (by rw [aJZ]; exact h)
noncomputable def low : Nat := (World.holding Tryd.prog default ⟨#[], #[], []⟩).heap.size
end Rk
end Go.Proofs.YtlkgkfgkiidhdaaDoor
namespace Go.Proofs.YtlkgkfgkiidhdaaDoor.Mir
open Go
set_option linter.unusedSimpArgs false
set_option linter.unusedVariables false
set_option maxHeartbeats 8000000
set_option maxRecDepth 20000
abbrev I6 (n : Int) : AV := .int .i64 n
abbrev Nn (n : Nat) : AV := .int .i64 (n : Int)
abbrev Un (n : Nat) : AV := .int .u64 (n : Int)
def s64 (a : Nat) : Int := if a ≥ 9223372036854775808 then (a : Int) - 18446744073709551616 else (a : Int)
def u64 (n : Int) : Nat := (n % 18446744073709551616).toNat
def aKv (a n : Nat) : Nat := u64 ((s64 a).fdiv (2 ^ n))
def aIC (l : List Nat) : List AV := l.map fun n => Un n
def aJV (p : Int × Int) : AV := .agg [I6 p.1, I6 p.2]
def aJi (l : List (Int × Int)) : List AV := l.map aJV
structure WI where
 op : Int
 d : Int
 a : Int
 b : Int
 c : Int
 k : Int
def WI.v (i : WI) : AV := .agg [I6 i.op, I6 i.d, I6 i.a, I6 i.b, I6 i.c, I6 i.k]
instance : Inhabited WI := ⟨⟨0, 0, 0, 0, 0, 0⟩⟩
def cJ (ws : List WI) : List AV := ws.map WI.v
theorem fY (ws : List WI) : (cJ ws).length = ws.length := by simp [cJ]
section
variable (G : aC) (k : Nat) (self : cK) (bor : Bool) (ws : List WI) (r m : Int)
def cV (bor : Bool) (ws : List WI) (r m : Int) : AV := .agg [.ro bor (cJ ws), I6 r, I6 m]
theorem fH (n : Nat) (l : List WI) : bG n (cJ l) = true := jR n _ (fun _ => rfl) l
end
def aJy (op k : Int) (a : Nat) : Nat × Bool :=
 if k < 0 ∨ 63 < k then (0, false)
 else if op = 10 then (a * 2 ^ k.toNat % 18446744073709551616, true)
 else if op = 11 then (a / 2 ^ k.toNat, true)
 else (aKv a k.toNat, true)
def aKa (op k : Int) (a b c : Nat) : Nat × Bool :=
 if op = 1 then (u64 k, true)
 else if op = 2 then (a, true)
 else if op = 3 then ((a + b) % 18446744073709551616, true)
 else if op = 4 then ((a + 18446744073709551616 - b) % 18446744073709551616, true)
 else if op = 5 then (a * b % 18446744073709551616, true)
 else if op = 6 then (a * b / 18446744073709551616, true)
 else if op = 7 then (a &&& b, true)
 else if op = 8 then (a ||| b, true)
 else if op = 9 then (a ^^^ b, true)
 else if op = 10 ∨ op = 11 ∨ op = 12 then aJy op k a
 else if op = 13 then (if a < b then 1 else 0, true)
 else if op = 14 then (if a ≠ 0 then b else c, true)
 else (0, false)
structure MS where
 regs : List Nat
 at_ : Nat
 code : Int
 mem : List Nat
 leaks : List (Int × Int)
 steps : Nat
def MS.leak (s : MS) (kind at_ : Int) : MS := { s with leaks := s.leaks ++ [(kind, at_)] }
def MS.rg (s : MS) (i : Int) : Nat := s.regs.getD i.toNat 0
def MS.set (s : MS) (i : Int) (n : Nat) : MS := { s with regs := s.regs.set i.toNat n }
def MS.touch (s : MS) (i : WI) : MS × Bool :=
 let ad := (s.rg i.a + u64 i.k) % 18446744073709551616
 let s1 := s.leak 3 (s64 ad)
 if s.mem.length ≤ ad then ({ s1 with code := 3 }, false)
 else if i.op = 15 then (s1.set i.d (s.mem.getD ad 0), true)
 else ({ s1 with mem := s.mem.set ad (s.rg i.b) }, true)
def MS.branch (s : MS) (i : WI) : MS :=
 if i.op = 17 then { s with at_ := i.k.toNat }
 else if (decide (s.rg i.a = 0) == decide (i.op = 18)) = true then { s.leak 2 1 with at_ := i.k.toNat }
 else s.leak 2 0
def MS.step (s : MS) (i : WI) : MS × Bool :=
 let s := { s with at_ := s.at_ + 1 }
 if i.op = 15 ∨ i.op = 16 then s.touch i
 else if i.op = 17 ∨ i.op = 18 ∨ i.op = 19 then (s.branch i, true)
 else if i.op = 20 then ({ s with code := i.k }, false)
 else if (aKa i.op i.k (s.rg i.a) (s.rg i.b) (s.rg i.c)).2 = true then (s.set i.d (aKa i.op i.k (s.rg i.a) (s.rg i.b) (s.rg i.c)).1, true)
 else (s, true)
structure MS.Ok (s : MS) (R : Nat) : Prop where
 len : s.regs.length = R
 regs : ∀ x ∈ s.regs, x < 18446744073709551616
 mem : ∀ x ∈ s.mem, x < 18446744073709551616
 leaks : s.leaks.length ≤ 3 * s.steps
 big : s.mem.length ≤ 1000000
 few : s.steps ≤ 100000
theorem MS.Ok.rg {s : MS} {R : Nat} (h : s.Ok R) (i : Int) : s.rg i < 18446744073709551616 := by
 unfold MS.rg
 rw [List.getD_eq_getElem?_getD]
 cases hq : s.regs[i.toNat]? with
 | none => decide
 | some x => exact h.regs x (List.mem_of_getElem? hq)
structure WI.Ok (i : WI) (R n : Nat) : Prop where
 op : 1 ≤ i.op ∧ i.op ≤ 20
 a : i.op ≠ 17 → i.op ≠ 20 → 0 ≤ i.a ∧ i.a < R
 d : i.op ≤ 16 → 0 ≤ i.d ∧ i.d < R
 b : i.op ≤ 16 → 0 ≤ i.b ∧ i.b < R
 c : i.op ≤ 16 → 0 ≤ i.c ∧ i.c < R
 k : 17 ≤ i.op → i.op ≤ 19 → 0 ≤ i.k ∧ i.k ≤ n
section
variable (G : aC) (i : WI)
theorem aIo (H : aA) : eE i.v H = some (.rp false i.v 0, H) := rfl
theorem gi0 : aF 0 (.rp false i.v 0) = some (.rp false i.v 0) := rfl
theorem gi1 : aF 1 (.rp false i.v 0) = some (.rp false i.v 1) := rfl
theorem gi2 : aF 2 (.rp false i.v 0) = some (.rp false i.v 2) := rfl
theorem gi3 : aF 3 (.rp false i.v 0) = some (.rp false i.v 3) := rfl
theorem gi4 : aF 4 (.rp false i.v 0) = some (.rp false i.v 4) := rfl
theorem aEZ (H : aA) : aH G false 1 (.rp false i.v 0) H = some (I6 i.op) := rfl
theorem aIP (H : aA) : aH G false 1 (.rp false i.v 1) H = some (I6 i.d) := rfl
theorem aIQ (H : aA) : aH G false 1 (.rp false i.v 2) H = some (I6 i.a) := rfl
theorem gl3 (H : aA) : aH G false 1 (.rp false i.v 3) H = some (I6 i.b) := rfl
theorem aKb (H : aA) : aH G false 1 (.rp false i.v 4) H = some (I6 i.c) := rfl
end
def MS.tick (s : MS) : MS := ({ s with steps := s.steps + 1 } : MS).leak 1 s.at_
def aIg (cs : List WI) (fuel : Int) : Nat → MS → Option MS
 | 0, _ => none
 | f + 1, s =>
  if cs.length ≤ s.at_ then some { s with code := 3 }
  else if (s.steps : Int) = fuel then some { s with code := 4 }
  else match s.tick.step (cs.getD s.at_ default) with
   | (s', true) => aIg cs fuel f s'
   | (s', false) => some s'
section
variable (G : aC) (bor : Bool) (cs : List WI)
theorem rG (j : Nat) (h : j < cs.length) : aM 6 (.ro bor (cJ cs)) (Nn j) = some (.rp bor (cs.getD j default).v 0) := by
 have h0 : (0 : Int) ≤ (j : Int) := by omega
 have e : (cJ cs)[(j : Int).toNat]? = some (cs.getD j default).v := by
  rw [Int.toNat_natCast]
  simp [cJ, List.getElem?_map, List.getD, List.getElem?_eq_getElem h]
 unfold aM
 simp only [e]
 rw [if_pos h0]
 rfl
theorem wS (i : WI) (H : aA) : aH G true 6 (.rp bor i.v 0) H = some i.v := rfl
end
def s0 (R : Nat) (mem : List Nat) : MS := ⟨List.replicate R 0, 0, 0, mem, [], 0⟩
theorem jA (l : List WI) : dK (cJ l) = true := kZ _ (fun _ => rfl) l
theorem aIY (l : List WI) : fW (cJ l) = true := iN _ (fun _ => rfl) l
section
variable {cs : List WI} {fuel : Int} {f : Nat} {s s2 : MS} {i : WI}
end
def ro (e : Nat) : Nat := if e = 0 then 1 else if e = 1 then 2 else if e = 2 then 0 else if e = 3 then 4 else if e = 4 then 3 else 5
structure Frm where
 d : Bool
 a : Bool
 b : Bool
 c : Bool
 k : Bool
def gI (op : Int) : Option Frm :=
 if op = 1 then some ⟨true, false, false, false, true⟩
 else if op = 2 then some ⟨true, true, false, false, false⟩
 else if (3 ≤ op ∧ op ≤ 9) ∨ op = 13 then some ⟨true, true, true, false, false⟩
 else if (10 ≤ op ∧ op ≤ 12) ∨ op = 15 then some ⟨true, true, false, false, true⟩
 else if op = 14 then some ⟨true, true, true, true, false⟩
 else if op = 16 then some ⟨false, true, true, false, true⟩
 else if op = 17 ∨ op = 20 then some ⟨false, false, false, false, true⟩
 else if op = 18 ∨ op = 19 then some ⟨false, true, false, false, true⟩
 else none
def dM (op : Int) : ByteArray :=
 if op = 1 then ⟨#[99, 111, 110, 115, 116]⟩ else if op = 2 then ⟨#[109, 111, 118]⟩ else if op = 3 then ⟨#[97, 100, 100]⟩ else if op = 4 then ⟨#[115, 117, 98]⟩ else if op = 5 then ⟨#[109, 117, 108]⟩
 else if op = 6 then ⟨#[104, 105, 103, 104]⟩ else if op = 7 then ⟨#[97, 110, 100]⟩ else if op = 8 then ⟨#[111, 114]⟩ else if op = 9 then ⟨#[120, 111, 114]⟩ else if op = 10 then ⟨#[115, 104, 108]⟩
 else if op = 11 then ⟨#[115, 104, 114]⟩ else if op = 12 then ⟨#[115, 97, 114]⟩ else if op = 13 then ⟨#[108, 101, 115, 115]⟩ else if op = 14 then ⟨#[115, 101, 108]⟩ else if op = 15 then ⟨#[108, 100]⟩
 else if op = 16 then ⟨#[115, 116]⟩ else if op = 17 then ⟨#[98, 114]⟩ else if op = 18 then ⟨#[98, 122]⟩ else if op = 19 then ⟨#[98, 110, 122]⟩ else if op = 20 then ⟨#[104, 97, 108, 116]⟩ else ⟨#[110, 111, 110, 101]⟩
def gB (w : ByteArray) (f : Frm) : AV := .agg [.str w, .bool f.d, .bool f.a, .bool f.b, .bool f.c, .bool f.k]
def dD (op : Int) : Frm := match gI op with | some f => f | none => ⟨false, false, false, false, false⟩
theorem aCy {op : Int} (h : 1 ≤ op ∧ op ≤ 20) : op = 1 ∨ op = 2 ∨ op = 3 ∨ op = 4 ∨ op = 5 ∨ op = 6 ∨ op = 7 ∨ op = 8 ∨ op = 9 ∨ op = 10 ∨ op = 11 ∨ op = 12 ∨ op = 13 ∨ op = 14 ∨ op = 15 ∨ op = 16 ∨ op = 17 ∨ op = 18 ∨ op = 19 ∨ op = 20 := by omega
theorem kU {op : Int} (h : ¬ (1 ≤ op ∧ op ≤ 20)) : gI op = none := by
 unfold gI
 repeat rw [if_neg (by omega)]
theorem aEf {op : Int} (h : ¬ (1 ≤ op ∧ op ≤ 20)) : dM op = ⟨#[110, 111, 110, 101]⟩ := by
 unfold dM
 repeat rw [if_neg (by omega)]
theorem tE (G : aC) (k : Nat) (op : Int) : dX.f G (k + 4) [I6 op] [] = some (.tup [gB (dM op) (dD op), .bool (gI op).isSome], []) := by
 by_cases h : 1 ≤ op ∧ op ≤ 20
 ·rcases aCy h with rfl | rfl | rfl | rfl | rfl | rfl | rfl | rfl | rfl | rfl | rfl | rfl | rfl | rfl | rfl | rfl | rfl | rfl | rfl | rfl <;> kernel_rfl
 ·rw [dX.step]
  unfold dX.c
  unfold dD
  rw [kU h, aEf h]
  refine fC ?_
  have fx := True.intro
  refine qC ?_
  refine fK ?_
  rfl
def bsV (f : Frm) : AV := .ro false [.bool f.d, .bool f.a, .bool f.b, .bool f.c, .bool f.k]
def isV (i : WI) : AV := .ro false [I6 i.d, I6 i.a, I6 i.b, I6 i.c, I6 i.k]
theorem aGq (G : aC) (k : Nat) (i : WI) (w : ByteArray) (f : Frm) : fG.f G (k + 1) [i.v, gB w f] [] = some (.tup [bsV f, isV i], []) := by kernel_rfl
abbrev eV (g : Nat) : AV := .iface 179 (.gp (ro g))
def kM (is : Bool) (r R : Int) : Bool := is && (decide (r < 0) || decide (R ≤ r))
section
variable (G : aC) (k : Nat) (self : cK) (c1 : AV) (R : Int) (hR0 : 0 ≤ R)
abbrev bxC (cv : AV) (R M : Int) : AV := .rp false (.agg [cv, I6 R, I6 M]) 0
abbrev xs6 (cv : AV) (R M : Int) (i : WI) (f : Frm) (j : Int) : List AV := [bxC cv R M, .rp false i.v 0, .nili, bsV f, isV i, I6 j]
theorem sN {bor : Bool} {xs : List AV} {k' : IntKind} {j : Nat} {y : AV} (h : xs[j]? = some y) (h1 : y.cells.length = 1) : aM 1 (.ro bor xs) (.int k' (j : Int)) = some (.rp bor y 0) := by
 unfold aM
 simp [h, h1]
theorem aIz {b bor : Bool} {H : aA} : aH G false 1 (.rp bor (.bool b) 0) H = some (.bool b) := rfl
theorem aIA {n : Int} {bor : Bool} {H : aA} : aH G false 1 (.rp bor (I6 n) 0) H = some (I6 n) := rfl
theorem rK (cv : AV) (M : Int) (i : WI) (f : Frm) (j : Nat) (hj : j < 4) (t : Bool) (p : Int) (ht : [AV.bool f.d, .bool f.a, .bool f.b, .bool f.c, .bool f.k][j]? = some (.bool t)) (hp : [I6 i.d, I6 i.a, I6 i.b, I6 i.c, I6 i.k][j]? = some (I6 p))
  (hG : G 0 = some (eV 2)) (hcl : aV 0 cv = true) (n : Nat) :
  cC (cR.l6 G k 1 self) (n + 1) (xs6 cv R M i f j) [⟨100, 6, [gB (dM i.op) f]⟩] =
   if kM t p R = true then some (.ret, [bxC cv R M, .rp false i.v 0, eV 2, bsV f, isV i, I6 j], [⟨100, 6, [gB (dM i.op) f]⟩])
   else cC (cR.l6 G k 1 self) n (xs6 cv R M i f (j + 1 : Nat)) [⟨100, 6, [gB (dM i.op) f]⟩] := by
 rw [aR, cR.l6]
 have hc : eF 1 (xs6 cv R M i f j) [⟨100, 6, [gB (dM i.op) f]⟩] = some [⟨100, 6, [gB (dM i.op) f]⟩] := by
  have := eA (Nat.zero_le 1) hcl
  simp [eF, bG, aV, bS, this, bsV, isV, WI.v, gB]
 have d1 : aM 1 (bsV f) (I6 j) = some (.rp false (.bool t) 0) := sN ht rfl
 have d2 : aM 1 (isV i) (I6 j) = some (.rp false (I6 p) 0) := sN hp rfl
 have l1 := fun (b bor : Bool) (H : aA) => @aIz G b bor H
 have l2 := fun (n : Int) (bor : Bool) (H : aA) => @aIA G n bor H
 have l3 : ∀ H, aH G false 1 (.gl 0) H = some (eV 2) := fun H => hG
 refine eM ?_
 refine eC hc ?_
 cases t
 ·rw [show kM false p R = false from rfl, if_neg (by simp)]
  have fx := aKI d1 <| aKI d2 <| aKI l1 <| l2
  refine qC ?_
  rfl
 ·by_cases ho : p < 0 ∨ R ≤ p
  ·have e : kM true p R = true := by unfold kM; rcases ho with h | h <;> simp [h]
   rw [if_pos e]
   have fx := aKI d1 <| aKI d2 <| aKI l1 <| aKI l2 <| l3
   refine qC ?_
   rfl
  ·have e : kM true p R = false := by unfold kM; simp; omega
   rw [if_neg (by simp [e])]
   have fx := aKI d1 <| aKI d2 <| aKI l1 <| aKI l2 <| l3
   refine qC ?_
   rfl
theorem aJh (cv : AV) (M : Int) (i : WI) (f : Frm) (hcl : aV 0 cv = true) (n : Nat) :
  cC (cR.l6 G k 1 self) (n + 1) (xs6 cv R M i f (4 : Nat)) [⟨100, 6, [gB (dM i.op) f]⟩] = some (.exit 0, xs6 cv R M i f (4 : Nat), [⟨100, 6, [gB (dM i.op) f]⟩]) := by
 rw [aR, cR.l6]
 have hc : eF 1 (xs6 cv R M i f (4 : Nat)) [⟨100, 6, [gB (dM i.op) f]⟩] = some [⟨100, 6, [gB (dM i.op) f]⟩] := by
  have := eA (Nat.zero_le 1) hcl
  simp [eF, bG, aV, bS, this, bsV, isV, WI.v, gB]
 refine eM ?_
 refine eC hc ?_
 have fx := True.intro
 refine qC ?_
 rfl
def rX (f : Frm) (i : WI) (R : Int) : Bool := kM f.d i.d R || kM f.a i.a R || kM f.b i.b R || kM f.c i.c R
def rU (f : Frm) (i : WI) : Bool := (!f.d && decide (i.d ≠ 0)) || (!f.a && decide (i.a ≠ 0)) || (!f.b && decide (i.b ≠ 0)) || (!f.c && decide (i.c ≠ 0)) || (!f.k && decide (i.k ≠ 0))
theorem aJg (cv : AV) (M : Int) (i : WI) (f : Frm) (hG : G 0 = some (eV 2)) (hcl : aV 0 cv = true) (n : Nat) :
  (rX f i R = true → ∃ j, cC (cR.l6 G k 1 self) (n + 5) (xs6 cv R M i f (0 : Nat)) [⟨100, 6, [gB (dM i.op) f]⟩] = some (.ret, [bxC cv R M, .rp false i.v 0, eV 2, bsV f, isV i, j], [⟨100, 6, [gB (dM i.op) f]⟩])) ∧
  (rX f i R = false → cC (cR.l6 G k 1 self) (n + 5) (xs6 cv R M i f (0 : Nat)) [⟨100, 6, [gB (dM i.op) f]⟩] = some (.exit 0, xs6 cv R M i f (4 : Nat), [⟨100, 6, [gB (dM i.op) f]⟩])) := by
 rw [rK G k self R cv M i f 0 (by omega) f.d i.d rfl rfl hG hcl]
 rw [rK G k self R cv M i f 1 (by omega) f.a i.a rfl rfl hG hcl]
 rw [rK G k self R cv M i f 2 (by omega) f.b i.b rfl rfl hG hcl]
 rw [rK G k self R cv M i f 3 (by omega) f.c i.c rfl rfl hG hcl]
 rw [aJh G k self R cv M i f hcl]
 unfold rX
 generalize kM f.d i.d R = o1
 generalize kM f.a i.a R = o2
 generalize kM f.b i.b R = o3
 generalize kM f.c i.c R = o4
 cases o1 <;> cases o2 <;> cases o3 <;> cases o4 <;> simp
abbrev aBB (cv : AV) (R M : Int) (i : WI) (f : Frm) (j : Int) : List AV := [bxC cv R M, .rp false i.v 0, .nili, isV i, bsV f, .int .i64 5, I6 j]
theorem mI (cv : AV) (M : Int) (i : WI) (f : Frm) (j : Nat) (hj : j < 5) (t : Bool) (p : Int) (ht : [AV.bool f.d, .bool f.a, .bool f.b, .bool f.c, .bool f.k][j]? = some (.bool t)) (hp : [I6 i.d, I6 i.a, I6 i.b, I6 i.c, I6 i.k][j]? = some (I6 p))
  (hG : G 4 = some (eV 3)) (hcl : aV 0 cv = true) (n : Nat) :
  cC (cR.l12 G k 1 self) (n + 1) (aBB cv R M i f j) [⟨100, 6, [gB (dM i.op) f]⟩] =
   if (!t && decide (p ≠ 0)) = true then some (.ret, [bxC cv R M, .rp false i.v 0, eV 3, isV i, bsV f, .int .i64 5, I6 j], [⟨100, 6, [gB (dM i.op) f]⟩])
   else cC (cR.l12 G k 1 self) n (aBB cv R M i f (j + 1 : Nat)) [⟨100, 6, [gB (dM i.op) f]⟩] := by
 rw [aR, cR.l12]
 have hc : eF 1 (aBB cv R M i f j) [⟨100, 6, [gB (dM i.op) f]⟩] = some [⟨100, 6, [gB (dM i.op) f]⟩] := by
  have := eA (Nat.zero_le 1) hcl
  simp [eF, bG, aV, bS, this, bsV, isV, WI.v, gB]
 have d1 : aM 1 (bsV f) (I6 j) = some (.rp false (.bool t) 0) := sN ht rfl
 have d2 : aM 1 (isV i) (I6 j) = some (.rp false (I6 p) 0) := sN hp rfl
 have l1 := fun (b bor : Bool) (H : aA) => @aIz G b bor H
 have l2 := fun (n : Int) (bor : Bool) (H : aA) => @aIA G n bor H
 have l3 : ∀ H, aH G false 1 (.gl 4) H = some (eV 3) := fun H => hG
 refine eM ?_
 refine eC hc ?_
 cases t
 ·by_cases ho : p ≠ 0
  ·rw [if_pos (by simp [ho])]
   have fx := aKI d1 <| aKI d2 <| aKI l1 <| aKI l2 <| l3
   refine qC ?_
   rfl
  ·rw [if_neg (by simp [ho])]
   have fx := aKI d1 <| aKI d2 <| aKI l1 <| aKI l2 <| l3
   refine qC ?_
   rfl
 ·rw [if_neg (by simp)]
  have fx := aKI d1 <| aKI d2 <| aKI l1 <| l2
  refine qC ?_
  rfl
theorem aHK (cv : AV) (M : Int) (i : WI) (f : Frm) (hcl : aV 0 cv = true) (n : Nat) :
  cC (cR.l12 G k 1 self) (n + 1) (aBB cv R M i f (5 : Nat)) [⟨100, 6, [gB (dM i.op) f]⟩] = some (.exit 2, aBB cv R M i f (5 : Nat), [⟨100, 6, [gB (dM i.op) f]⟩]) := by
 rw [aR, cR.l12]
 have hc : eF 1 (aBB cv R M i f (5 : Nat)) [⟨100, 6, [gB (dM i.op) f]⟩] = some [⟨100, 6, [gB (dM i.op) f]⟩] := by
  have := eA (Nat.zero_le 1) hcl
  simp [eF, bG, aV, bS, this, bsV, isV, WI.v, gB]
 refine eM ?_
 refine eC hc ?_
 have fx := True.intro
 refine qC ?_
 rfl
theorem aHJ (cv : AV) (M : Int) (i : WI) (f : Frm) (hG : G 4 = some (eV 3)) (hcl : aV 0 cv = true) (n : Nat) :
  (rU f i = true → ∃ j, cC (cR.l12 G k 1 self) (n + 6) (aBB cv R M i f (0 : Nat)) [⟨100, 6, [gB (dM i.op) f]⟩] = some (.ret, [bxC cv R M, .rp false i.v 0, eV 3, isV i, bsV f, .int .i64 5, j], [⟨100, 6, [gB (dM i.op) f]⟩])) ∧
  (rU f i = false → cC (cR.l12 G k 1 self) (n + 6) (aBB cv R M i f (0 : Nat)) [⟨100, 6, [gB (dM i.op) f]⟩] = some (.exit 2, aBB cv R M i f (5 : Nat), [⟨100, 6, [gB (dM i.op) f]⟩])) := by
 rw [mI G k self R cv M i f 0 (by omega) f.d i.d rfl rfl hG hcl]
 rw [mI G k self R cv M i f 1 (by omega) f.a i.a rfl rfl hG hcl]
 rw [mI G k self R cv M i f 2 (by omega) f.b i.b rfl rfl hG hcl]
 rw [mI G k self R cv M i f 3 (by omega) f.c i.c rfl rfl hG hcl]
 rw [mI G k self R cv M i f 4 (by omega) f.k i.k rfl rfl hG hcl]
 rw [aHK G k self R cv M i f hcl]
 unfold rU
 generalize (!f.d && decide (i.d ≠ 0)) = o1
 generalize (!f.a && decide (i.a ≠ 0)) = o2
 generalize (!f.b && decide (i.b ≠ 0)) = o3
 generalize (!f.c && decide (i.c ≠ 0)) = o4
 generalize (!f.k && decide (i.k ≠ 0)) = o5
 cases o1 <;> cases o2 <;> cases o3 <;> cases o4 <;> cases o5 <;> simp
end
def fZ (i : WI) (R n : Int) : Option Nat :=
 if (gI i.op).isSome = false then some 4
 else if rX (dD i.op) i R = true then some 2
 else if rU (dD i.op) i = true then some 3
 else if i.op = 10 ∨ i.op = 11 ∨ i.op = 12 then (if i.k < 0 ∨ 63 < i.k then some 2 else none)
 else if i.op = 20 then (if i.k < 0 ∨ 2 < i.k then some 2 else none)
 else if i.op = 15 ∨ i.op = 16 then (if i.k < 0 ∨ 65535 < i.k then some 2 else none)
 else if i.op = 17 ∨ i.op = 18 ∨ i.op = 19 then (if i.k < 0 ∨ n < i.k then some 5 else none)
 else none
def aFn (o : Option Nat) : AV := match o with | some g => eV g | none => .nili
structure GOk (G : aC) : Prop where
 g0 : G 1 = some (eV 0)
 g2 : G 0 = some (eV 2)
 g3 : G 4 = some (eV 3)
 g4 : G 3 = some (eV 4)
 g5 : G 5 = some (eV 5)
theorem w1e {x : AV} {o : Option Nat} {H : aA} (e : aFn o = x) (hx : aV 0 x = true) : E fQ [] (cS [x] 0 H) (some (aFn o, [])) := by subst e; exact oF (gY hx H)
theorem aEe {bor : Bool} (G : aC) (hg : GOk G) (k : Nat) (cs : List WI) (R M : Int) (i : WI) :
  cR.f G (k + 7) [cV bor cs R M, i.v] [] = some (aFn (fZ i R cs.length), []) := by
 rw [cR.step]
 unfold cR.c cV
 have r1 : ∀ H, aJ (dX.f G (k + 6)) [I6 i.op] H = _ := fun H => aZ (H := H) (tE G (k + 2) i.op) rfl rfl
 have r2 : ∀ H, aJ (fG.f G (k + 6)) [i.v, gB (dM i.op) (dD i.op)] H = _ := fun H => aZ (H := H) (aGq G (k + 5) i _ _) rfl rfl
 have b1 : ∀ H, eE i.v H = some (.rp false i.v 0, H) := fun H => rfl
 have g0 : aF 0 (.rp false i.v 0) = some (.rp false i.v 0) := rfl
 have g5 : aF 5 (.rp false i.v 0) = some (.rp false i.v 5) := rfl
 have l0 : ∀ H, aH G false 1 (.rp false i.v 0) H = some (I6 i.op) := fun H => rfl
 have l5 : ∀ H, aH G false 1 (.rp false i.v 5) H = some (I6 i.k) := fun H => rfl
 have l6 : ∀ H, aH G true 6 (.rp false i.v 0) H = some i.v := fun H => rfl
 have e2 : ∀ H, aH G false 1 (.gl 0) H = some (eV 2) := fun H => hg.g2
 have e4 : ∀ H, aH G false 1 (.gl 3) H = some (eV 4) := fun H => hg.g4
 have e5 : ∀ H, aH G false 1 (.gl 5) H = some (eV 5) := fun H => hg.g5
 have st : hX (cH 6 (.ptr 0 1 0 0) (gB (dM i.op) (dD i.op)) [⟨100, 6, [.agg [(.str ⟨#[]⟩), (.bool false), (.bool false), (.bool false), (.bool false), (.bool false)]]⟩]) = some (.tup [], [⟨100, 6, [gB (dM i.op) (dD i.op)]⟩]) := rfl
 have ld : aH G true 6 (.ptr 0 1 0 0) [⟨100, 6, [gB (dM i.op) (dD i.op)]⟩] = some (gB (dM i.op) (dD i.op)) := rfl
 have lc : cB (.ro bor (cJ cs)) = some (I6 cs.length) := by simp [cB, fY]
 have lb : cB (bsV (dD i.op)) = some (.int .i64 5) := rfl
 have hcl : aV 0 (.ro bor (cJ cs)) = true := by simp [aV, fH]
 obtain ⟨p1, p2⟩ := aJg G (k + 6) (cR.f G (k + 6)) R (.ro bor (cJ cs)) M i (dD i.op) hg.g2 hcl (k + 1)
 obtain ⟨p3, p4⟩ := aHJ G (k + 6) (cR.f G (k + 6)) R (.ro bor (cJ cs)) M i (dD i.op) hg.g3 hcl k
 refine fC ?_
 by_cases h0 : (gI i.op).isSome = false
 ·have e : fZ i R cs.length = some 4 := by unfold fZ; rw [if_pos h0]
  rw [e]
  rw [h0] at r1
  have fx := aKI r1 <| aKI b1 <| aKI g0 <| aKI l0 <| aKI st <| e4
  refine qC ?_
  exact w1e (by rfl) (by rfl)
 have h0' : (gI i.op).isSome = true := by
  cases hh : (gI i.op).isSome
  ·exact absurd hh h0
  ·rfl
 rw [h0'] at r1
 by_cases h1 : rX (dD i.op) i R = true
 ·have e : fZ i R cs.length = some 2 := by unfold fZ; rw [if_neg h0, if_pos h1]
  rw [e]
  obtain ⟨j, p1⟩ := p1 h1
  clear p2 p3 p4
  unfold bxC at p1
  have fx := aKI r1 <| aKI r2 <| aKI b1 <| aKI g0 <| aKI l0 <| aKI l6 <| aKI st <| aKI ld <| e2
  have lx1 := p1
  refine qC ?_
  exact w1e (by rfl) (by rfl)
 replace p2 := p2 (by simpa using h1)
 clear p1
 by_cases h2 : rU (dD i.op) i = true
 ·have e : fZ i R cs.length = some 3 := by unfold fZ; rw [if_neg h0, if_neg h1, if_pos h2]
  rw [e]
  obtain ⟨j, p3⟩ := p3 h2
  clear p4
  have fx := aKI r1 <| aKI r2 <| aKI b1 <| aKI g0 <| aKI l0 <| aKI l6 <| aKI st <| aKI ld <| aKI e2 <| lb
  have lx1 := p2
  have lx2 := p3
  refine qC ?_
  exact w1e (by rfl) (by rfl)
 replace p4 := p4 (by simpa using h2)
 clear p3
 have e : fZ i R cs.length = (if i.op = 10 ∨ i.op = 11 ∨ i.op = 12 then (if i.k < 0 ∨ 63 < i.k then some 2 else none)
 else if i.op = 20 then (if i.k < 0 ∨ 2 < i.k then some 2 else none)
 else if i.op = 15 ∨ i.op = 16 then (if i.k < 0 ∨ 65535 < i.k then some 2 else none)
 else if i.op = 17 ∨ i.op = 18 ∨ i.op = 19 then (if i.k < 0 ∨ (cs.length : Int) < i.k then some 5 else none)
 else none) := by unfold fZ; rw [if_neg h0, if_neg h1, if_neg h2]
 rw [e]
 clear e
 repeat' first
  | (with_reducible first | refine eT ?_ | refine eN ?_ | refine eS ?_ | refine eXn ?_ | refine eXr ?_ | refine eX ?_ | refine eI ?_ | refine eK ?_ | refine eV0 ?_ | refine wD ?_ | refine aCd ?_ | refine aBZ ?_ | refine aCc ?_ | refine aCa ?_ | refine aCb ?_)
  | ((with_reducible apply eCn); (simp only [eZ, eY]; first | done | (with_reducible exact rfl)))
  | ((with_reducible apply eJ); (rfl))
  | ((with_reducible apply wE); (first | rfl | (simp only [eZ, eY]; rfl)))
  | ((with_reducible apply eL); (first | exact p2 | exact p4))
  | ((with_reducible apply eB); (first | (with_reducible exact rfl) | (simp (disch := omega) only [qf, r1, r2, b1, g0, g5, l0, l5, l6, st, ld, e2, e5, lb, lc]; first | done | (with_reducible exact rfl) | (with_reducible exact ⟨rfl, rfl⟩)) | (simp (disch := omega) only [qa, jU, AV.cells, fP, eU, kG, dN, gQ, iV, Nat.reduceLeDiff, Nat.reduceLT, Nat.reduceAdd, ↓reduceIte, r1, r2, b1, g0, g5, l0, l5, l6, st, ld, e2, e5, lb, lc]; first | done | (with_reducible exact rfl) | (with_reducible exact ⟨rfl, rfl⟩))))
  | ((with_reducible apply eR); (simp only [eZ, eY]; (with_reducible exact rfl)))
  | ((with_reducible first | refine aDP ?_ ?_ | refine aDU ?_ ?_ | refine aDT ?_ ?_ | refine aDS ?_ ?_ | refine aDR ?_ ?_ | refine aDQ ?_ ?_ | refine aDV ?_ ?_ | refine xR ?_ ?_ | refine sGd ?_ ?_ | refine wC ?_ ?_) <;> intro hq <;> try subst hq)
 all_goals (refine w1e ?_ (by rfl); (first | (with_reducible rfl) | ((try simp (disch := omega) only [if_pos, if_neg, if_true, if_false, ↓reduceIte, aFn]) <;> first | done | rfl | omega)))
inductive VE where
 | ok
 | bare (e : Nat)
 | at_ (j e : Nat)
def tD : VE → AV
 | .ok => .nili
 | .bare e => eV e
 | .at_ j e => .iface 126 (.rp false (.agg [Nn j, eV e]) 0)
def lJ (R n : Int) : List WI → Nat → VE
 | [], _ => .ok
 | i :: l, j => match fZ i R n with
  | some e => .at_ j e
  | none => lJ R n l (j + 1)
def fA (cs : List WI) (R M : Int) : VE :=
 if 262144 < cs.length then .bare 0
 else if R < 0 ∨ 65536 < R ∨ M < 0 ∨ 65536 < M then .bare 0
 else lJ R cs.length cs 0
theorem kW (v : VE) : dV (tD v) = true := by cases v <;> rfl
theorem aAq (v : VE) : bP (tD v) = true := by cases v <;> rfl
theorem aEY (v : VE) : aV 0 (tD v) = true := by cases v <;> rfl
section
variable {bor : Bool} (G : aC) (hg : GOk G) (k : Nat) (self : cK) (cs : List WI) (R M : Int)
abbrev xsV (bor : Bool) (cs : List WI) (R M : Int) (x : AV) (j : Nat) : List AV := [bxC (.ro bor (cJ cs)) R M, x, .ro bor (cJ cs), I6 cs.length, Nn j]
include hg in
theorem vO (hcl : cs.length ≤ 1000000) : ∀ (l pre : List WI) (f : Nat) (H : aA), cs = pre ++ l → l.length < f →
  ∃ o, cC (cW.l6 G (k + 7) 0 self) f (xsV bor cs R M .nili pre.length) H = some o ∧
   (match lJ R cs.length l pre.length with
    | .ok => o = (.exit 1, xsV bor cs R M .nili cs.length, [])
    | v => ∃ j H', o = (.ret, xsV bor cs R M (tD v) j, H'))
 | l, pre, 0, H, hcs, hf => by omega
 | [], pre, f + 1, H, hcs, hf => by
  rw [aR, cW.l6]
  have hl : cs.length = pre.length := by rw [hcs]; simp
  refine ⟨_, ?_, rfl⟩
  have hc : eF 0 (xsV bor cs R M .nili pre.length) H = some [] := by simp [eF, bG, aV, bS, fH]
  refine lC hc ?_
  refine eM ?_
  have hge : ¬ (pre.length : Int) < (cs.length : Int) := by omega
  have q : bC Tryd.prog .lss 3 false (Nn pre.length) (Nn cs.length) = some (.bool false) := by rw [jZ, decide_eq_false hge]
  have fx := q
  refine qC ?_
  rw [hl]
  rfl
 | i :: l, pre, f + 1, H, hcs, hf => by
  rw [aR, cW.l6]
  have hl : cs.length = pre.length + (l.length + 1) := by rw [hcs]; simp
  have hc : eF 0 (xsV bor cs R M .nili pre.length) H = some [] := by simp [eF, bG, aV, bS, fH]
  have hi : cs.getD pre.length default = i := by rw [hcs]; simp [List.getD]
  have q : bC Tryd.prog .lss 3 false (Nn pre.length) (Nn cs.length) = some (.bool true) := by rw [jZ, decide_eq_true (by omega)]
  have d1 := rG bor cs pre.length (by omega)
  rw [hi] at d1
  have d2 : ∀ H, aH G true 6 (.rp bor i.v 0) H = some i.v := fun H => rfl
  have d3 : hX (cH 6 (.ptr 0 1 0 0) i.v [⟨29, 6, [.agg [.int .i64 0, .int .i64 0, .int .i64 0, .int .i64 0, .int .i64 0, .int .i64 0]]⟩]) = some (.tup [], [⟨29, 6, [i.v]⟩]) := rfl
  have d4 : aH G true 6 (.ptr 0 1 0 0) [⟨29, 6, [i.v]⟩] = some i.v := rfl
  have d5 : ∀ H, aJ (cR.f G (k + 7)) [.agg [.ro bor (cJ cs), I6 R, I6 M], i.v] H = _ := fun H => aZ (H := H) (aEe G hg k cs R M i) (by simp [dK, bP, jA, WI.v]) (by cases fZ i R cs.length <;> rfl)
  cases ho : fZ i R cs.length with
  | some e =>
   have hb : lJ R cs.length (i :: l) pre.length = .at_ pre.length e := by simp only [lJ, ho]
   rw [hb]
   rw [ho] at d5
   have q2 : bC Tryd.prog .neq 33 true (eV e) .nili = some (.bool true) := by kernel_rfl
   refine ⟨_, ?_, pre.length, [⟨29, 6, [i.v]⟩], rfl⟩
   refine lC hc ?_
   refine eM ?_
   simp only [aFn] at d5
   have fx := aKI q <| aKI d1 <| aKI d2 <| aKI d3 <| aKI d4 <| aKI d5 <| q2
   refine qC ?_
   rfl
  | none =>
   rw [ho] at d5
   have q2 : bC Tryd.prog .neq 33 true .nili .nili = some (.bool false) := by kernel_rfl
   obtain ⟨o, h1, h2⟩ := vO hcl l (pre ++ [i]) f [⟨29, 6, [i.v]⟩] (by rw [hcs]; simp) (by simp at hf; omega)
   have hlen : (pre ++ [i]).length = pre.length + 1 := by simp
   rw [hlen] at h1 h2
   have hb : lJ R cs.length (i :: l) pre.length = lJ R cs.length l (pre.length + 1) := by simp only [lJ, ho]
   rw [hb]
   refine ⟨o, ?_, h2⟩
   refine lC hc ?_
   refine eM ?_
   simp only [aFn] at d5
   have q3 : bC Tryd.prog .add 3 true (Nn pre.length) (.int .i64 1) = some (Nn (pre.length + 1)) := by
    rw [jE, eG (by omega) (by omega)]; congr 2
   have fx := aKI q <| aKI d1 <| aKI d2 <| aKI d3 <| aKI d4 <| aKI d5 <| aKI q2 <| q3
   refine qC ?_
   exact h1
include hg in
theorem vP (hk : cs.length < k + 7) (hcl : cs.length ≤ 1000000) : cW.f G (k + 8) [cV bor cs R M] [] = some (tD (fA cs R M), []) := by
 rw [cW.step]
 unfold cW.c cV
 obtain ⟨o, h1, h2⟩ := vO (bor := bor) G hg k (cW.f G (k + 7)) cs R M hcl cs [] (k + 7) [] rfl hk
 have e0 : ∀ H, aH G false 1 (.gl 1) H = some (eV 0) := fun H => hg.g0
 have lc : cB (.ro bor (cJ cs)) = some (I6 cs.length) := by simp [cB, fY]
 refine fC ?_
 unfold fA
 by_cases hb : 262144 < cs.length
 ·rw [if_pos hb]
  have fx := aKI lc <| e0
  refine qC ?_
  exact w1 rfl rfl
 rw [if_neg hb]
 by_cases hr : R < 0 ∨ 65536 < R ∨ M < 0 ∨ 65536 < M
 ·rw [if_pos hr]
  have fx := aKI lc <| e0
  refine qC ?_
  exact w1 rfl rfl
 rw [if_neg hr]
 cases hv : lJ R cs.length cs 0 with
 | ok =>
  simp only [List.length_nil, hv] at h2
  rw [h2] at h1
  have fx := aKI lc <| e0
  have lx1 := h1
  refine qC ?_
  exact w1 rfl rfl
 | bare e =>
  simp only [List.length_nil, hv] at h2
  obtain ⟨j, H', h2⟩ := h2
  rw [h2] at h1
  have fx := aKI lc <| e0
  have lx1 := h1
  refine qC ?_
  exact w1 rfl rfl
 | at_ j e =>
  simp only [List.length_nil, hv] at h2
  obtain ⟨j', H', h2⟩ := h2
  rw [h2] at h1
  have fx := aKI lc <| e0
  have lx1 := h1
  refine qC ?_
  exact w1 rfl rfl
end
theorem aEE {i : WI} {R n : Int} (h : fZ i R n = none) (hR : 0 ≤ R) : i.Ok R.toNat n.toNat := by
 unfold fZ at h
 have out : ∀ {t : Bool} {r : Int}, kM t r R = false → t = true → 0 ≤ r ∧ r < R := fun {t r} ho ht => by
  subst ht; simp [kM] at ho; omega
 by_cases h20 : 1 ≤ i.op ∧ i.op ≤ 20
 ·by_cases h1 : rX (dD i.op) i R = true
  ·rw [if_pos h1] at h; split at h <;> cases h
  rw [if_neg h1] at h
  by_cases h2 : rU (dD i.op) i = true
  ·rw [if_pos h2] at h; split at h <;> cases h
  rw [if_neg h2] at h
  obtain ⟨op, d, a, b, c, kk⟩ := i
  simp only at h h1 h2 h20
  simp only [rX, rU, Bool.or_eq_true, not_or, Bool.and_eq_true, Bool.not_eq_true', decide_eq_true_eq, not_and, Bool.not_eq_true] at h1 h2
  rcases aCy h20 with rfl | rfl | rfl | rfl | rfl | rfl | rfl | rfl | rfl | rfl | rfl | rfl | rfl | rfl | rfl | rfl | rfl | rfl | rfl | rfl
  all_goals (
   simp [dD, gI, kM] at h1 h2
   simp [gI] at h
   constructor <;> simp <;> omega)
 ·rw [kU h20] at h; simp at h
theorem aEo {R n : Int} (hR : 0 ≤ R) : ∀ {l : List WI} {j : Nat}, lJ R n l j = .ok → ∀ i ∈ l, i.Ok R.toNat n.toNat
 | [], _, _, i, hi => by cases hi
 | x :: l, j, h, i, hi => by
  unfold lJ at h
  split at h
  ·cases h
  ·rename_i ho
   rcases List.mem_cons.1 hi with rfl | hi
   ·exact aEE ho hR
   ·exact aEo hR h i hi
theorem aAp {cs : List WI} {R M : Int} (h : fA cs R M = .ok) : (0 ≤ R ∧ R ≤ 65536 ∧ 0 ≤ M ∧ M ≤ 65536 ∧ cs.length ≤ 262144) ∧ ∀ j, j < cs.length → (cs.getD j default).Ok R.toNat cs.length := by
 unfold fA at h
 by_cases h1 : 262144 < cs.length
 ·rw [if_pos h1] at h; cases h
 rw [if_neg h1] at h
 by_cases h2 : R < 0 ∨ 65536 < R ∨ M < 0 ∨ 65536 < M
 ·rw [if_pos h2] at h; cases h
 rw [if_neg h2] at h
 refine ⟨by omega, fun j hj => ?_⟩
 have := aEo (by omega) h (cs.getD j default) (by simp [List.getD, List.getElem?_eq_getElem hj])
 rwa [Int.toNat_natCast] at this
def gZ (op : Int) : Int :=
 if op = 1 then 1 else if 10 ≤ op ∧ op ≤ 12 then 2 else if op = 15 ∨ op = 16 then 3 else if op = 17 ∨ op = 18 ∨ op = 19 then 4 else if op = 20 then 5 else 0
def tS (f : Frm) (n : Int) : AV := .agg [.bool f.d, .bool f.a, .bool f.b, .bool f.c, I6 n]
theorem aDD {op : Int} (h : ¬ (1 ≤ op ∧ op ≤ 20)) : gZ op = 0 := by
 unfold gZ
 repeat rw [if_neg (by omega)]
theorem xP (G : aC) (k : Nat) (op : Int) : bT.f G (k + 1) [I6 op] [] = some (.tup [tS (dD op) (gZ op), .bool (gI op).isSome], []) := by
 by_cases h : 1 ≤ op ∧ op ≤ 20
 ·rcases aCy h with rfl | rfl | rfl | rfl | rfl | rfl | rfl | rfl | rfl | rfl | rfl | rfl | rfl | rfl | rfl | rfl | rfl | rfl | rfl | rfl <;> kernel_rfl
 ·rw [bT.step]
  unfold bT.c
  unfold dD
  rw [kU h, aDD h]
  refine fC ?_
  have fx := True.intro
  refine qC ?_
  (refine fK ?_; rfl)
theorem aBj (G : aC) (k : Nat) (t : Bool) (r R : Int) : bF.f G (k + 1) [.bool t, I6 r, I6 R] [] = some (.bool (kM t r R), []) := by
 rw [bF.step]
 unfold bF.c
 refine fC ?_
 cases t
 ·have fx := True.intro
  refine qC ?_
  exact w1b rfl
 ·repeat' first
   | (with_reducible first | refine eT ?_ | refine eN ?_ | refine eS ?_ | refine eXn ?_ | refine eXr ?_ | refine eX ?_ | refine eI ?_ | refine eK ?_ | refine eV0 ?_ | refine wD ?_ | refine aCd ?_ | refine aBZ ?_ | refine aCc ?_ | refine aCa ?_ | refine aCb ?_)
   | ((with_reducible apply eCn); (simp only [eZ, eY]; first | done | (with_reducible exact rfl)))
   | ((with_reducible apply eJ); (rfl))
   | ((with_reducible apply wE); (first | rfl | (simp only [eZ, eY]; rfl)))
   | ((with_reducible apply eB); (first | (with_reducible exact rfl) | (simp (disch := omega) only [qa, jU, AV.cells, fP, eU, kG, dN, gQ, iV, Nat.reduceLeDiff, Nat.reduceLT, Nat.reduceAdd, ↓reduceIte]; first | done | (with_reducible exact rfl) | (with_reducible exact ⟨rfl, rfl⟩))))
   | ((with_reducible apply eR); (simp only [eZ, eY]; (with_reducible exact rfl)))
   | ((with_reducible first | refine aDP ?_ ?_ | refine aDU ?_ ?_ | refine aDT ?_ ?_ | refine aDS ?_ ?_ | refine aDR ?_ ?_ | refine aDQ ?_ ?_ | refine aDV ?_ ?_ | refine xR ?_ ?_ | refine sGd ?_ ?_ | refine wC ?_ ?_) <;> intro hq <;> try subst hq)
  all_goals (refine w1b ?_; unfold kM; simp; omega)
def inK (n m : Int) : Bool := decide (0 ≤ n) && decide (n < m)
theorem aDc (G : aC) (k : Nat) (n m : Int) : bJ.f G (k + 1) [I6 n, I6 m] [] = some (.bool (inK n m), []) := by
 rw [bJ.step]
 unfold bJ.c
 refine fC ?_
 repeat' first
  | (with_reducible first | refine eT ?_ | refine eN ?_ | refine eS ?_ | refine eXn ?_ | refine eXr ?_ | refine eX ?_ | refine eI ?_ | refine eK ?_ | refine eV0 ?_ | refine wD ?_ | refine aCd ?_ | refine aBZ ?_ | refine aCc ?_ | refine aCa ?_ | refine aCb ?_)
  | ((with_reducible apply eCn); (simp only [eZ, eY]; first | done | (with_reducible exact rfl)))
  | ((with_reducible apply eJ); (rfl))
  | ((with_reducible apply wE); (first | rfl | (simp only [eZ, eY]; rfl)))
  | ((with_reducible apply eB); (first | (with_reducible exact rfl) | (simp (disch := omega) only [qa, jU, AV.cells, fP, eU, kG, dN, gQ, iV, Nat.reduceLeDiff, Nat.reduceLT, Nat.reduceAdd, ↓reduceIte]; first | done | (with_reducible exact rfl) | (with_reducible exact ⟨rfl, rfl⟩))))
  | ((with_reducible apply eR); (simp only [eZ, eY]; (with_reducible exact rfl)))
  | ((with_reducible first | refine aDP ?_ ?_ | refine aDU ?_ ?_ | refine aDT ?_ ?_ | refine aDS ?_ ?_ | refine aDR ?_ ?_ | refine aDQ ?_ ?_ | refine aDV ?_ ?_ | refine xR ?_ ?_ | refine sGd ?_ ?_ | refine wC ?_ ?_) <;> intro hq <;> try subst hq)
 all_goals (refine w1b ?_; unfold inK; simp; omega)
def rA (c : Int) (p : Bool) (j : Int) : AV := .agg [I6 c, .bool p, I6 j]
theorem aFa (G : aC) (k : Nat) (c : Int) : cQ.f G (k + 1) [I6 c] [] = some (rA c false 0, []) := by kernel_rfl
theorem aFf (G : aC) (k : Nat) : cN.f G (k + 1) [] [] = some (rA 0 false 0, []) := by kernel_rfl
theorem aBJ (G : aC) (k : Nat) (c j : Int) (hc : c ≠ 0) : bU.f G (k + 2) [I6 c, I6 j] [] = some (rA c true j, []) := by
 rw [bU.step]
 unfold bU.c
 refine fC ?_
 have fx := True.intro
 refine qC ?_
 refine fK ?_
 rfl
def aDq (e : Nat) : Int := if e = 0 then 103 else if e = 1 then 102 else if e = 2 then 101 else if e = 3 then 104 else if e = 4 then 106 else 109
def aJq (f : Frm) (kd : Int) (i : WI) (R n : Int) : Option Nat :=
 if rX f i R = true then some 2
 else if rU f i = true then some 3
 else if kd = 2 then (if inK i.k 64 = true then none else some 2)
 else if kd = 5 then (if inK i.k 3 = true then none else some 2)
 else if kd = 3 then (if inK i.k 65536 = true then none else some 2)
 else if kd = 4 then (if inK i.k (n + 1) = true then none else some 5)
 else none
theorem aFB (i : WI) (R n : Int) (h : 1 ≤ i.op ∧ i.op ≤ 20) : fZ i R n = aJq (dD i.op) (gZ i.op) i R n := by
 have e : ∀ m : Int, inK i.k m = true ↔ ¬ (i.k < 0 ∨ m - 1 < i.k) := fun m => by unfold inK; simp; omega
 unfold fZ aJq
 have hs : (gI i.op).isSome = true := by
  rcases aCy h with h | h | h | h | h | h | h | h | h | h | h | h | h | h | h | h | h | h | h | h <;> rw [h] <;> rfl
 rw [hs]
 simp only [Bool.true_eq_false, if_false]
 by_cases h1 : rX (dD i.op) i R = true
 ·rw [if_pos h1, if_pos h1]
 rw [if_neg h1, if_neg h1]
 by_cases h2 : rU (dD i.op) i = true
 ·rw [if_pos h2, if_pos h2]
 rw [if_neg h2, if_neg h2]
 simp only [e]
 clear hs h1 h2 e
 rcases aCy h with h | h | h | h | h | h | h | h | h | h | h | h | h | h | h | h | h | h | h | h <;> rw [h] <;> simp [gZ] <;> (split <;> (try split) <;> first | rfl | omega)
inductive Cls : Frm → Int → Prop
 | c1 : Cls ⟨true, false, false, false, true⟩ 1
 | c2 : Cls ⟨true, true, false, false, false⟩ 0
 | c3 : Cls ⟨true, true, true, false, false⟩ 0
 | c4 : Cls ⟨true, true, false, false, true⟩ 2
 | c5 : Cls ⟨true, true, true, true, false⟩ 0
 | c6 : Cls ⟨true, true, false, false, true⟩ 3
 | c7 : Cls ⟨false, true, true, false, true⟩ 3
 | c8 : Cls ⟨false, false, false, false, true⟩ 4
 | c9 : Cls ⟨false, true, false, false, true⟩ 4
 | c10 : Cls ⟨false, false, false, false, true⟩ 5
theorem aIZ {op : Int} (h : 1 ≤ op ∧ op ≤ 20) : Cls (dD op) (gZ op) ∧ (gI op).isSome = true := by
 rcases aCy h with h | h | h | h | h | h | h | h | h | h | h | h | h | h | h | h | h | h | h | h <;> rw [h] <;> exact ⟨by constructor, rfl⟩
section
variable (G : aC) (k : Nat) (self : cK) (cs : List WI) (R M : Int)
abbrev f0 : AV := rA 0 false 0
abbrev uO (cs : List WI) (R M : Int) (j : Int) : List AV := [bxC (.ro false (cJ cs)) R M, .ptr 0 1 0 0, I6 j]
abbrev hp3 (x : AV) (i : WI) (f : Frm) (kd : Int) : aA := [⟨54, 3, [x]⟩, ⟨29, 6, [i.v]⟩, ⟨104, 5, [tS f kd]⟩]
theorem aHi (lp : dO) (i : WI) (j : Nat) (hj : j < cs.length) (hl : cs.length ≤ 1000000) (hi : cs.getD j default = i) (H : aA) (hH : H.take 1 = [⟨54, 3, [f0]⟩]) :
  bE.l4 G (k + 2) 1 self lp (uO cs R M j) H =
   match fZ i R cs.length with
   | some e => some (.ret, uO cs R M j, hp3 (rA (aDq e) true j) i (dD i.op) (gZ i.op))
   | none => lp (uO cs R M (j + 1 : Nat)) (hp3 f0 i (dD i.op) (gZ i.op)) := by
 rw [bE.l4]
 have hc : eF 1 (uO cs R M j) H = some [⟨54, 3, [f0]⟩] := by
  unfold eF
  rw [hH]
  simp [bG, aV, bS, fH, rA]
 have q : bC Tryd.prog .lss 3 false (Nn j) (Nn cs.length) = some (.bool true) := by rw [jZ, decide_eq_true (by omega)]
 have q1 : bC Tryd.prog .add 3 true (Nn j) (.int .i64 1) = some (Nn (j + 1)) := by
  rw [jE, eG (by omega) (by omega)]; congr 2
 have d1 := rG false cs j hj
 rw [hi] at d1
 have lc : cB (.ro false (cJ cs)) = some (I6 cs.length) := by simp [cB, fY]
 have r1 : ∀ H, aJ (bT.f G (k + 2)) [I6 i.op] H = _ := fun H => aZ (H := H) (xP G (k + 1) i.op) rfl rfl
 have r2 : ∀ t r R H, aJ (bF.f G (k + 2)) [.bool t, I6 r, I6 R] H = _ := fun t r R H => aZ (H := H) (aBj G (k + 1) t r R) rfl rfl
 have r3 : ∀ n m H, aJ (bJ.f G (k + 2)) [I6 n, I6 m] H = _ := fun n m H => aZ (H := H) (aDc G (k + 1) n m) rfl rfl
 have r4 : ∀ c H, c ≠ 0 → aJ (bU.f G (k + 2)) [I6 c, Nn j] H = _ := fun c H hc => aZ (H := H) (aBJ G k c j hc) rfl rfl
 refine eM ?_
 refine eC hc ?_
 have b2 : ∀ b y, hX (cH 5 (.ptr 2 1 0 0) (tS b y) [⟨54, 3, [f0]⟩, ⟨29, 6, [i.v]⟩, ⟨104, 5, [.agg [(.bool false), (.bool false), (.bool false), (.bool false), (.int .i64 0)]]⟩]) = some (.tup [], [⟨54, 3, [f0]⟩, ⟨29, 6, [i.v]⟩, ⟨104, 5, [tS b y]⟩]) := fun b y => rfl
 have b1 : hX (cH 6 (.ptr 1 1 0 0) i.v [⟨54, 3, [f0]⟩, ⟨29, 6, [.agg [.int .i64 0, .int .i64 0, .int .i64 0, .int .i64 0, .int .i64 0, .int .i64 0]]⟩]) = some (.tup [], [⟨54, 3, [f0]⟩, ⟨29, 6, [i.v]⟩]) := rfl
 have b3 : ∀ y l, hX (cH 3 (.ptr 0 1 0 0) (rA y true j) (⟨54, 3, [f0]⟩ :: l)) = some (.tup [], ⟨54, 3, [rA y true j]⟩ :: l) := fun y l => rfl
 have d2 : ∀ H, aH G true 6 (.rp false i.v 0) H = some i.v := fun H => rfl
 have i0 : ∀ l, aH G false 1 (.ptr 1 1 0 0) (⟨54, 3, [f0]⟩ :: ⟨29, 6, [i.v]⟩ :: l) = some (I6 i.op) := fun l => rfl
 have i1 : ∀ l, aH G false 1 (.ptr 1 1 0 1) (⟨54, 3, [f0]⟩ :: ⟨29, 6, [i.v]⟩ :: l) = some (I6 i.d) := fun l => rfl
 have i2 : ∀ l, aH G false 1 (.ptr 1 1 0 2) (⟨54, 3, [f0]⟩ :: ⟨29, 6, [i.v]⟩ :: l) = some (I6 i.a) := fun l => rfl
 have i3 : ∀ l, aH G false 1 (.ptr 1 1 0 3) (⟨54, 3, [f0]⟩ :: ⟨29, 6, [i.v]⟩ :: l) = some (I6 i.b) := fun l => rfl
 have i4 : ∀ l, aH G false 1 (.ptr 1 1 0 4) (⟨54, 3, [f0]⟩ :: ⟨29, 6, [i.v]⟩ :: l) = some (I6 i.c) := fun l => rfl
 have i5 : ∀ l, aH G false 1 (.ptr 1 1 0 5) (⟨54, 3, [f0]⟩ :: ⟨29, 6, [i.v]⟩ :: l) = some (I6 i.k) := fun l => rfl
 have h0 : ∀ f kd l, aH G false 1 (.ptr 2 1 0 0) (⟨54, 3, [f0]⟩ :: ⟨29, 6, [i.v]⟩ :: ⟨104, 5, [tS f kd]⟩ :: l) = some (.bool f.d) := fun f kd l => rfl
 have h1 : ∀ f kd l, aH G false 1 (.ptr 2 1 0 1) (⟨54, 3, [f0]⟩ :: ⟨29, 6, [i.v]⟩ :: ⟨104, 5, [tS f kd]⟩ :: l) = some (.bool f.a) := fun f kd l => rfl
 have h2 : ∀ f kd l, aH G false 1 (.ptr 2 1 0 2) (⟨54, 3, [f0]⟩ :: ⟨29, 6, [i.v]⟩ :: ⟨104, 5, [tS f kd]⟩ :: l) = some (.bool f.b) := fun f kd l => rfl
 have h3 : ∀ f kd l, aH G false 1 (.ptr 2 1 0 3) (⟨54, 3, [f0]⟩ :: ⟨29, 6, [i.v]⟩ :: ⟨104, 5, [tS f kd]⟩ :: l) = some (.bool f.c) := fun f kd l => rfl
 have h4 : ∀ f kd l, aH G false 1 (.ptr 2 1 0 4) (⟨54, 3, [f0]⟩ :: ⟨29, 6, [i.v]⟩ :: ⟨104, 5, [tS f kd]⟩ :: l) = some (I6 kd) := fun f kd l => rfl
 by_cases h20 : 1 ≤ i.op ∧ i.op ≤ 20
 ·rw [aFB i R cs.length h20]
  obtain ⟨hcl, hs⟩ := aIZ h20
  rw [hs] at r1
  generalize hfd : dD i.op = f at *
  generalize hkd : gZ i.op = kd at *
  have o0 : ∀ r R, kM false r R = false := fun r R => rfl
  have o1 := r2 true i.d R
  have o2 := r2 true i.a R
  have o3 := r2 true i.b R
  have o4 := r2 true i.c R
  have n0 := r2 false
  simp only [o0] at n0
  have w1 := r3 i.k 64
  have w2 := r3 i.k 3
  have w3 := r3 i.k 65536
  have w4 := r3 i.k (cs.length + 1)
  unfold aJq rX rU
  clear r2 r3
  cases hcl
  all_goals (
   simp only [o0]
   generalize kM true i.d R = z1 at *
   generalize kM true i.a R = z2 at *
   generalize kM true i.b R = z3 at *
   generalize kM true i.c R = z4 at *
   generalize inK i.k 64 = z5 at *
   generalize inK i.k 3 = z6 at *
   generalize inK i.k 65536 = z7 at *
   generalize inK i.k (cs.length + 1) = z8 at *
   clear hfd hkd hs h20)
  all_goals (
   repeat' first
    | (with_reducible first | refine eT ?_ | refine eN ?_ | refine eS ?_ | refine eXn ?_ | refine eXr ?_ | refine eX ?_ | refine eI ?_ | refine eK ?_ | refine eV0 ?_ | refine wD ?_ | refine aCd ?_ | refine aBZ ?_ | refine aCc ?_ | refine aCa ?_ | refine aCb ?_)
    | ((with_reducible apply eCn); (simp only [eZ, eY]; first | done | (with_reducible exact rfl)))
    | ((with_reducible apply eJ); (rfl))
    | ((with_reducible apply wE); (first | rfl | (simp only [eZ, eY]; rfl)))
    | ((with_reducible apply eB); (first | (with_reducible exact rfl) | (simp (disch := omega) only [qf, q, q1, d1, lc, r1, r4, b1, b2, b3, d2, i0, i1, i2, i3, i4, i5, h0, h1, h2, h3, h4, o1, o2, o3, o4, n0, w1, w2, w3, w4]; first | done | (with_reducible exact rfl) | (with_reducible exact ⟨rfl, rfl⟩)) | (simp (disch := omega) only [qa, jU, AV.cells, fP, eU, kG, dN, gQ, iV, Nat.reduceLeDiff, Nat.reduceLT, Nat.reduceAdd, ↓reduceIte, q, q1, d1, lc, r1, r4, b1, b2, b3, d2, i0, i1, i2, i3, i4, i5, h0, h1, h2, h3, h4, o1, o2, o3, o4, n0, w1, w2, w3, w4]; first | done | (with_reducible exact rfl) | (with_reducible exact ⟨rfl, rfl⟩))))
    | ((with_reducible apply eR); (simp only [eZ, eY]; (with_reducible exact rfl)))
    | ((with_reducible first | refine aDP ?_ ?_ | refine aDU ?_ ?_ | refine aDT ?_ ?_ | refine aDS ?_ ?_ | refine aDR ?_ ?_ | refine aDQ ?_ ?_ | refine aDV ?_ ?_ | refine xR ?_ ?_ | refine sGd ?_ ?_ | refine wC ?_ ?_) <;> intro hq <;> try subst hq)
   all_goals (refine fK ?_; (try simp (disch := omega) only [Bool.not_true, Bool.not_false, Bool.true_and, Bool.false_and, Bool.false_or, Bool.or_false, Bool.or_true, Bool.true_or, Bool.or_eq_true, decide_eq_true_eq, ne_eq, Bool.false_eq_true, Bool.true_eq_false, false_or, or_false, true_or, or_true, if_pos, if_neg, if_true, if_false, ↓reduceIte]); first | rfl | omega))
 ·have hs : gI i.op = none := kU h20
  have e : fZ i R cs.length = some 4 := by unfold fZ; rw [hs]; rfl
  rw [e]
  rw [hs] at r1
  simp only [Option.isSome_none] at r1
  have fx := aKI q <| aKI q1 <| aKI d1 <| aKI lc <| aKI r1 <| aKI r4 <| aKI b1 <| aKI b2 <| aKI b3 <| aKI d2 <| i0
  refine qC ?_
  refine fK ?_
  rfl
end
def sH (v : VE) : AV := match v with
 | .ok => rA 0 false 0
 | .bare e => rA (aDq e) false 0
 | .at_ j e => rA (aDq e) true j
theorem zT (v : VE) : dV (sH v) = true := by cases v <;> rfl
theorem zU (v : VE) : bP (sH v) = true := by cases v <;> rfl
theorem aHG (v : VE) : aV 0 (sH v) = true := by cases v <;> rfl
section
variable (G : aC) (k : Nat) (self : cK) (cs : List WI) (R M : Int)
theorem aEU (hcl : cs.length ≤ 1000000) : ∀ (l pre : List WI) (f : Nat) (H : aA), cs = pre ++ l → l.length < f → H.take 1 = [⟨54, 3, [f0]⟩] →
  ∃ o, cC (bE.l4 G (k + 2) 1 self) f (uO cs R M pre.length) H = some o ∧
   (match lJ R cs.length l pre.length with
    | .ok => o = (.exit 0, uO cs R M cs.length, [⟨54, 3, [f0]⟩])
    | v => ∃ j H', o = (.ret, uO cs R M j, ⟨54, 3, [sH v]⟩ :: H'))
 | l, pre, 0, H, hcs, hf, hH => by omega
 | [], pre, f + 1, H, hcs, hf, hH => by
  rw [aR, bE.l4]
  have hl : cs.length = pre.length := by rw [hcs]; simp
  refine ⟨_, ?_, rfl⟩
  have hc : eF 1 (uO cs R M pre.length) H = some [⟨54, 3, [f0]⟩] := by
   unfold eF
   rw [hH]
   simp [bG, aV, bS, fH, rA]
  refine lC hc ?_
  refine eM ?_
  have hge : ¬ (pre.length : Int) < (cs.length : Int) := by omega
  have q : bC Tryd.prog .lss 3 false (Nn pre.length) (Nn cs.length) = some (.bool false) := by rw [jZ, decide_eq_false hge]
  have lc : cB (.ro false (cJ cs)) = some (I6 cs.length) := by simp [cB, fY]
  have fx := aKI q <| lc
  refine qC ?_
  rw [hl]
  rfl
 | i :: l, pre, f + 1, H, hcs, hf, hH => by
  have hl : cs.length = pre.length + (l.length + 1) := by rw [hcs]; simp
  have hi : cs.getD pre.length default = i := by rw [hcs]; simp [List.getD]
  rw [aR, aHi G k self cs R M _ i pre.length (by omega) hcl hi H hH]
  cases ho : fZ i R cs.length with
  | some e =>
   have hb : lJ R cs.length (i :: l) pre.length = .at_ pre.length e := by simp only [lJ, ho]
   rw [hb]
   exact ⟨_, rfl, pre.length, _, rfl⟩
  | none =>
   obtain ⟨o, h1, h2⟩ := aEU hcl l (pre ++ [i]) f (hp3 f0 i (dD i.op) (gZ i.op)) (by rw [hcs]; simp) (by simp at hf; omega) rfl
   have hlen : (pre ++ [i]).length = pre.length + 1 := by simp
   rw [hlen] at h1 h2
   have hb : lJ R cs.length (i :: l) pre.length = lJ R cs.length l (pre.length + 1) := by simp only [lJ, ho]
   rw [hb]
   exact ⟨o, h1, h2⟩
theorem aCL (hk : cs.length < k + 2) (hcl : cs.length ≤ 1000000) : bE.f G (k + 3) [cV false cs R M] [] = some (sH (fA cs R M), []) := by
 rw [bE.step]
 unfold bE.c cV
 obtain ⟨o, h1, h2⟩ := aEU G k (bE.f G (k + 2)) cs R M hcl cs [] (k + 2) [⟨54, 3, [f0]⟩] rfl hk rfl
 have lc : cB (.ro false (cJ cs)) = some (I6 cs.length) := by simp [cB, fY]
 have r1 : ∀ c H, aJ (cQ.f G (k + 2)) [I6 c] H = _ := fun c H => aZ (H := H) (aFa G (k + 1) c) rfl rfl
 have r2 : ∀ H, aJ (cN.f G (k + 2)) [] H = _ := fun H => aZ (H := H) (aFf G (k + 1)) rfl rfl
 have st : ∀ c p j x l, hX (cH 3 (.ptr 0 1 0 0) (rA c p j) (⟨54, 3, [.agg [x, .bool false, I6 0]]⟩ :: l)) = some (.tup [], ⟨54, 3, [rA c p j]⟩ :: l) := fun c p j x l => rfl
 have st2 : ∀ c p j l, hX (cH 3 (.ptr 0 1 0 0) (rA c p j) (⟨54, 3, [f0]⟩ :: l)) = some (.tup [], ⟨54, 3, [rA c p j]⟩ :: l) := fun c p j l => rfl
 have fin : ∀ v l, jM [aH G true 3 (.ptr 0 1 0 0) (⟨54, 3, [sH v]⟩ :: l)] ([] : aA).length (⟨54, 3, [sH v]⟩ :: l) = some (.ret, [sH v], []) := fun v l => by
  have : aH G true 3 (.ptr 0 1 0 0) (⟨54, 3, [sH v]⟩ :: l) = some (sH v) := by cases v <;> rfl
  unfold jM
  rw [this]
  simp only [aAx]
  exact gY (aHG v) _
 refine fC ?_
 unfold fA
 by_cases hb : 262144 < cs.length
 ·rw [if_pos hb]
  have fx := aKI lc <| aKI r1 <| st
  refine qC ?_
  exact oF (fin (.bare 0) [])
 rw [if_neg hb]
 by_cases hr : R < 0 ∨ 65536 < R ∨ M < 0 ∨ 65536 < M
 ·rw [if_pos hr]
  have fx := aKI lc <| aKI r1 <| st
  refine qC ?_
  exact oF (fin (.bare 0) [])
 rw [if_neg hr]
 cases hv : lJ R cs.length cs 0 with
 | ok =>
  simp only [List.length_nil, hv] at h2
  rw [h2] at h1
  have fx := aKI lc <| aKI r2 <| st2
  have lx1 := h1
  refine qC ?_
  exact oF (fin .ok [])
 | bare e =>
  simp only [List.length_nil, hv] at h2
  obtain ⟨j, H', h2⟩ := h2
  rw [h2] at h1
  have fx := lc
  have lx1 := h1
  refine qC ?_
  exact oF (fin (.bare e) H')
 | at_ j e =>
  simp only [List.length_nil, hv] at h2
  obtain ⟨j', H', h2⟩ := h2
  rw [h2] at h1
  have fx := lc
  have lx1 := h1
  refine qC ?_
  exact oF (fin (.at_ j e) H')
end
abbrev GA : aC := xT 179 [0, 2, 1, 4, 6, 3, 7, 8, 5, 9, 10, 11, 12, 13]
theorem aJL : GOk GA := ⟨rfl, rfl, rfl, rfl, rfl⟩
theorem aDv (k : Nat) (e : Nat) (he : e < 6) : cP.f GA (k + 40) [eV e] [] = some (rA (aDq e) false 0, []) := by
 have : e = 0 ∨ e = 1 ∨ e = 2 ∨ e = 3 ∨ e = 4 ∨ e = 5 := by omega
 clear he
 rcases this with rfl | rfl | rfl | rfl | rfl | rfl <;> (show _ = _; kernel_rfl)
theorem aGc (k : Nat) (j e : Nat) (he : e < 6) : cP.f GA (k + 40) [.iface 126 (.rp false (.agg [Nn j, eV e]) 0)] [] = some (rA (aDq e) true j, []) := by
 have : e = 0 ∨ e = 1 ∨ e = 2 ∨ e = 3 ∨ e = 4 ∨ e = 5 := by omega
 clear he
 rcases this with rfl | rfl | rfl | rfl | rfl | rfl <;> (show _ = _; kernel_rfl)
theorem aGd (k : Nat) : cP.f GA (k + 40) [.nili] [] = some (rA 0 false 0, []) := by kernel_rfl
def VE.low : VE → Prop
 | .ok => True
 | .bare e => e < 6
 | .at_ j e => e < 6
theorem aDw (k : Nat) (v : VE) (hv : v.low) : cP.f GA (k + 40) [tD v] [] = some (sH v, []) := by
 cases v with
 | ok => exact aGd k
 | bare e => exact aDv k e hv
 | at_ j e => exact aGc k j e hv
theorem vN (G : aC) (k : Nat) (v : VE) : bM.f G (k + 1) [sH v, sH v] [] = some (.bool true, []) := by
 have : ∃ c p j, sH v = rA c p j := by cases v <;> exact ⟨_, _, _, rfl⟩
 obtain ⟨c, p, j, e⟩ := this
 rw [e]
 rw [bM.step]
 unfold bM.c rA
 have q : bC Tryd.prog .eql 4 false (.bool p) (.bool p) = some (.bool true) := by rw [aAH Tryd.underlying4]; simp
 refine fC ?_
 have fx := q
 refine qC ?_
 exact w1b rfl
theorem aHk (k : Nat) (v : VE) (hv : v.low) : cI.f GA (k + 41) [tD v, sH v] [] = some (.bool true, []) := by
 rw [cI.step]
 unfold cI.c
 have r1 : ∀ H, aJ (cP.f GA (k + 40)) [tD v] H = _ := fun H => aZ (H := H) (aDw k v hv) (by simp [dK, aAq]) (zT v)
 have r2 : ∀ H, aJ (bM.f GA (k + 40)) [sH v, sH v] H = _ := fun H => aZ (H := H) (vN GA (k + 39) v) (by simp [dK, zU]) rfl
 have b1 : ∀ H, eE (sH v) H = some (.rp false (sH v) 0, H) := fun H => by cases v <;> rfl
 have ld : ∀ H, aH GA true 3 (.rp false (sH v) 0) H = some (sH v) := fun H => by cases v <;> rfl
 refine fC ?_
 have fx := aKI r1 <| aKI r2 <| aKI b1 <| ld
 refine qC ?_
 exact w1b rfl
theorem aGD {i : WI} {R n : Int} {e : Nat} (h : fZ i R n = some e) : e < 6 := by
 unfold fZ at h
 repeat' split at h
 all_goals (first | (cases h; done) | (simp at h; omega))
theorem aBS {R n : Int} : ∀ {l : List WI} {j : Nat}, (lJ R n l j).low
 | [], _ => trivial
 | x :: l, j => by
  unfold lJ
  split
  ·rename_i e ho; exact aGD ho
  ·exact aBS
theorem aEd (cs : List WI) (R M : Int) : (fA cs R M).low := by
 unfold fA
 split
 ·show (0 : Nat) < 6; omega
 ·split
  ·show (0 : Nat) < 6; omega
  ·exact aBS
section
variable (G : aC) (s : MS) (wr : Int) (x : AV)
end
structure WI.Ok2 (i : WI) (R n : Nat) : Prop where
 ok : i.Ok R n
 sh : 10 ≤ i.op → i.op ≤ 12 → 0 ≤ i.k ∧ i.k ≤ 63
 ha : 0 ≤ i.a ∧ i.a ≤ R
 hb : 0 ≤ i.b ∧ i.b ≤ R
theorem aGE {i : WI} {R n : Int} (h : fZ i R n = none) (hR : 0 ≤ R) : i.Ok2 R.toNat n.toNat := by
 have h0 := aEE h hR
 unfold fZ at h
 have h20 := h0.op
 by_cases h1 : rX (dD i.op) i R = true
 ·rw [if_pos h1] at h; split at h <;> cases h
 rw [if_neg h1] at h
 by_cases h2 : rU (dD i.op) i = true
 ·rw [if_pos h2] at h; split at h <;> cases h
 rw [if_neg h2] at h
 obtain ⟨op, d, a, b, c, kk⟩ := i
 simp only at h h1 h2 h20
 simp only [rX, rU, Bool.or_eq_true, not_or, Bool.and_eq_true, Bool.not_eq_true', decide_eq_true_eq, not_and, Bool.not_eq_true] at h1 h2
 rcases aCy h20 with rfl | rfl | rfl | rfl | rfl | rfl | rfl | rfl | rfl | rfl | rfl | rfl | rfl | rfl | rfl | rfl | rfl | rfl | rfl | rfl
 all_goals (
  simp [dD, gI, kM] at h1 h2
  simp [gI] at h
  exact ⟨h0, by simp; try omega, by simp; omega, by simp; omega⟩)
section
variable (G : aC) (k : Nat) (self : cK) (fuel : Int) (bc bor : Bool) (cs : List WI) (R : Nat) (s : MS) (wr : Int)
end
section
variable (G : aC) (k : Nat) (self : cK) (fuel : Int) (bc bor : Bool) (cs : List WI) (R : Nat) (wr : Int)
end
theorem aGC {x : AV} (h : IsT Tryd.prog 29 x) : ∃ i : WI, x = i.v ∧ (-9223372036854775808 ≤ i.k ∧ i.k < 9223372036854775808) := by
 obtain ⟨cs, rfl, hf⟩ := h.of_struct Tryd.underlying29
 cases hf with
 | cons h1 hf =>
 cases hf with
 | cons h2 hf =>
 cases hf with
 | cons h3 hf =>
 cases hf with
 | cons h4 hf =>
 cases hf with
 | cons h5 hf =>
 cases hf with
 | cons h6 hf =>
 cases hf with
 | nil =>
 obtain ⟨a, rfl, _⟩ := h1.of_int (k := .i64) Tryd.underlying3
 obtain ⟨b, rfl, _⟩ := h2.of_int (k := .i64) Tryd.underlying3
 obtain ⟨c, rfl, _⟩ := h3.of_int (k := .i64) Tryd.underlying3
 obtain ⟨d, rfl, _⟩ := h4.of_int (k := .i64) Tryd.underlying3
 obtain ⟨e, rfl, _⟩ := h5.of_int (k := .i64) Tryd.underlying3
 obtain ⟨f, rfl, hw⟩ := h6.of_int (k := .i64) Tryd.underlying2
 exact ⟨⟨a, b, c, d, e, f⟩, rfl, aBz hw⟩
theorem aED {α : Type} {P : AV → Prop} {e : α → AV} {Q : α → Prop} (h : ∀ x, P x → ∃ a, x = e a ∧ Q a) : ∀ xs : List AV, (∀ x ∈ xs, P x) → ∃ l : List α, xs = l.map e ∧ ∀ a ∈ l, Q a
 | [], _ => ⟨[], rfl, fun a h => by cases h⟩
 | x :: xs, hx => by
  obtain ⟨a, rfl, ha⟩ := h x (hx x (by simp))
  obtain ⟨l, rfl, hl⟩ := aED h xs (fun y hy => hx y (by simp [hy]))
  refine ⟨a :: l, rfl, fun b hb => ?_⟩
  rcases List.mem_cons.1 hb with rfl | hb
  ·exact ha
  ·exact hl b hb
theorem aHW {x : AV} (h : IsT Tryd.prog 27 x) : ∃ (cs : List WI) (R M : Int), x = cV false cs R M ∧ (-9223372036854775808 ≤ R ∧ R < 9223372036854775808) ∧ (-9223372036854775808 ≤ M ∧ M < 9223372036854775808) := by
 obtain ⟨cs, rfl, hf⟩ := h.of_struct Tryd.underlying27
 cases hf with
 | cons h1 hf =>
 cases hf with
 | cons h2 hf =>
 cases hf with
 | cons h3 hf =>
 cases hf with
 | nil =>
 obtain ⟨xs, rfl, hx, _⟩ := h1.of_slice Tryd.underlying25
 obtain ⟨l, rfl, _⟩ := aED (e := WI.v) (fun x hx => aGC hx) xs hx
 obtain ⟨R, rfl, hR⟩ := h2.of_int (k := .i64) Tryd.underlying3
 obtain ⟨M, rfl, hM⟩ := h3.of_int (k := .i64) Tryd.underlying3
 exact ⟨l, R, M, rfl, aBz hR, aBz hM⟩
theorem aEr (e : Nat) : aDq e ≠ 0 := by unfold aDq; repeat' split <;> try omega
def bV (l : List Nat) : List AV := l.map fun n => Nn n
theorem dZ (l : List Nat) : (bV l).length = l.length := by simp [bV]
theorem eW (n : Nat) (l : List Nat) : bG n (bV l) = true := jR n _ (fun _ => rfl) l
theorem jT (l : List Nat) (j : Nat) (h : j < l.length) : (bV l)[j]? = some (Nn (l.getD j 0)) := by
 unfold bV
 rw [List.getElem?_map, List.getElem?_eq_getElem h, List.getD_eq_getElem?_getD, List.getElem?_eq_getElem h]; rfl
theorem aFz (l : List Nat) (j x : Nat) : (bV l).set j (Nn x) = bV (l.set j x) := by
 unfold bV
 rw [List.map_set]
structure SH (H : aA) (p q r n : Nat) (us : List Int) : Prop where
 hp : p < H.length
 pq : p ≠ q
 pr : p ≠ r
 hq : H[q]? = some ⟨49, 1, [.sl r n 0 n 1]⟩
 hr : H[r]? = some ⟨3, 1, us.map fun u => I6 u⟩
 hu : us.length = n
 hb : bS H.length H = true
def SO (H : aA) (p : Nat) (l : List Nat) : aA := H.set p ⟨3, 1, bV l⟩
theorem lV (H : aA) (p : Nat) (l : List Nat) : (SO H p l).length = H.length := by simp [SO]
theorem aFU (H : aA) (p : Nat) (l m : List Nat) : (SO H p l).set p ⟨3, 1, bV m⟩ = SO H p m := by simp [SO]
theorem aIU {H : aA} {p : Nat} (hp : p < H.length) (l : List Nat) : (SO H p l)[p]? = some ⟨3, 1, bV l⟩ := by simp [SO, hp]
theorem mA {n : Nat} {b : ABlk} (hb : bG n b.elems = true) : ∀ (H : aA) (p : Nat), bS n H = true → bS n (H.set p b) = true
 | [], p, h => by simp [bS]
 | x :: H, 0, h => by
  simp only [bS, Bool.and_eq_true] at h
  simp only [List.set_cons_zero, bS, hb, h.2, Bool.and_self]
 | x :: H, p + 1, h => by
  simp only [bS, Bool.and_eq_true] at h
  simp only [List.set_cons_succ, bS, h.1, mA hb H p h.2, Bool.and_self]
theorem lU {H : aA} {p : Nat} (hb : bS H.length H = true) (l : List Nat) (xs : List AV) (hx : bG H.length xs = true) : eF H.length xs (SO H p l) = some (SO H p l) := by
 unfold eF
 have e : (SO H p l).take H.length = SO H p l := List.take_of_length_le (by rw [lV]; exact Nat.le_refl _)
 rw [e, hx]
 have : bS H.length (SO H p l) = true := mA (b := ⟨3, 1, bV l⟩) (eW _ l) H p hb
 rw [this]; rfl
section
variable (G : aC) (k : Nat) (self : cK) {H : aA} {p q r n : Nat} {us : List Int} (hS : SH H p q r n us)
theorem jN {i : Nat} (h : i < n) : aM 1 (.sl p n 0 n 1) (Nn i) = some (.ptr p n i 0) := by
 unfold aM
 simp only [Int.toNat_natCast, Nat.zero_add]
 rw [if_pos (by omega), if_pos trivial]
abbrev dS (p n : Nat) : AV := .sl p n 0 n 1
def yA (l : List Nat) (i j : Nat) : List Nat := (l.set i (l.getD j 0)).set j (l.getD i 0)
theorem aFJ (l : List Nat) (i j : Nat) : (yA l i j).length = l.length := by simp [yA]
theorem aDZ (l : List Nat) (i j : Nat) (hi : i < l.length) (hj : j < l.length) : (yA l i j).Perm l := by
 unfold yA
 rw [List.getD_eq_getElem?_getD, List.getD_eq_getElem?_getD, List.getElem?_eq_getElem hi, List.getElem?_eq_getElem hj]
 exact List.set_set_perm hi hj
end
section
variable (G : aC) (k : Nat) (self : cK) {H : aA} {p q r n : Nat} {us : List Int} (hS : SH H p q r n us)
theorem aDA {g : cK} {args : List AV} {l l' : List Nat} (h : g args (SO H p l) = some (.tup [], SO H p l')) : dG g args (SO H p l) = some (.tup [], SO H p l') := by
 unfold dG; rw [h]; simp only [lV, Nat.le_refl, if_true]
end
section
variable (G : aC) (k : Nat) (self : cK) {H : aA} {p q r n : Nat} {us : List Int} (hS : SH H p q r n us)
theorem aEB {c : Bool} {a b : Nat} (h : b ≤ a) (h2 : a ≤ 100000) : bC Tryd.prog .sub 3 c (Nn a) (Nn b) = some (Nn (a - b : Nat)) := by
 rw [kA, eG (by omega) (by omega)]; congr 2; omega
theorem gR {c : Bool} {a : Nat} (h : a ≤ 100000) : bC Tryd.prog .add 3 c (Nn a) (.int .i64 1) = some (Nn (a + 1 : Nat)) := by
 rw [jE, eG (by omega) (by omega)]; congr 2
theorem aHS {c : Bool} {a b : Nat} (h : a ≠ b) : bC Tryd.prog .neq 3 c (Nn a) (Nn b) = some (.bool true) := gW (by omega)
theorem aHR {c : Bool} {a b : Nat} (h : a = b) : bC Tryd.prog .neq 3 c (Nn a) (Nn b) = some (.bool false) := iD (by omega)
end
section
variable (G : aC) (k : Nat) (self : cK) {H : aA} {p q r n : Nat} {us : List Int} (hS : SH H p q r n us)
end
section
variable (G : aC) {H : aA} {p q r n : Nat} {us : List Int} (hS : SH H p q r n us)
theorem aGB {c : Bool} {a b : Nat} (h : a = b) : bC Tryd.prog .eql 3 c (Nn a) (Nn b) = some (.bool true) := gH (by omega)
theorem aGA {c : Bool} {a b : Nat} (h : a ≠ b) : bC Tryd.prog .eql 3 c (Nn a) (Nn b) = some (.bool false) := fU (by omega)
end
section
variable (G : aC) (k : Nat) (self : cK) {H : aA} {p q r n : Nat} {us : List Int} (hS : SH H p q r n us)
end
structure SB (H : aA) (p : Nat) : Prop where
 hp : p < H.length
 hb : bS H.length H = true
section
variable (G : aC) (k : Nat) (self : cK) {H : aA} {p n : Nat} (hS : SB H p)
include hS in
theorem jO {l : List Nat} (hl : l.length = n) {i : Nat} (h : i < n) : aH G false 1 (.ptr p n i 0) (SO H p l) = some (Nn (l.getD i 0)) := by
 unfold aH
 simp only [aIU hS.hp l, dZ, hl, if_true, jT l i (by omega)]
 rfl
include hS in
theorem mT {l : List Nat} (hl : l.length = n) {i : Nat} (h : i < n) (x : Nat) : hX (cH 1 (.ptr p n i 0) (Nn x) (SO H p l)) = some (.tup [], SO H p (l.set i x)) := by
 have e : cH 1 (.ptr p n i 0) (Nn x) (SO H p l) = some (SO H p (l.set i x)) := by
  unfold cH
  simp only [aIU hS.hp l, dZ, hl]
  rw [if_pos ⟨trivial, rfl, rfl⟩]
  simp only [jT l i (by omega)]
  rw [if_pos (by show 0 + 1 ≤ 1; omega)]
  have : kN (Nn (l.getD i 0)) (jU (Nn (l.getD i 0)).cells 0 (Nn x).cells) = Nn x := rfl
  rw [this, aFz, aFU]
 rw [e]; rfl
theorem qK (x : Nat) : cF.f G (k + 1) [Nn x] [] = some (.bool false, []) := by
 have g : bC Tryd.prog .neq 3 false (Nn x) (Nn x) = some (.bool false) := iD rfl
 rw [cF.step]
 unfold cF.c
 refine fC ?_
 have fx := g
 refine eH ?_
 exact w1b rfl
theorem sP (x y : Nat) : cL.f G (k + 2) [Nn x, Nn y] [] = some (.bool (decide (x < y)), []) := by
 have r1 : ∀ H, aJ (cF.f G (k + 1)) [Nn x] H = _ := fun H => aZ (H := H) (qK G k x) rfl rfl
 have g : bC Tryd.prog .lss 3 false (Nn x) (Nn y) = some (.bool (decide (x < y))) := by
  rw [jZ]
  congr 2
  exact decide_eq_decide.2 (by omega)
 rw [cL.step]
 unfold cL.c
 refine fC ?_
 generalize decide (x < y) = b at *
 have fx := aKI r1 <| g
 refine eH ?_
 exact w1b rfl
def yX (p n a b i j : Nat) : List AV := [dS p n, Nn a, Nn b, Nn i, Nn j]
def ys1 (p n a b i : Nat) : List AV := [dS p n, Nn a, Nn b, Nn i]
include hS in
theorem pR (n a b i j : Nat) : bG H.length (yX p n a b i j) = true := by
 have h1 : decide (p < H.length) = true := decide_eq_true hS.hp
 simp only [yX, dS, bG, aV, h1, Bool.and_self]
include hS in
theorem mR (n a b i : Nat) : bG H.length (ys1 p n a b i) = true := by
 have h1 : decide (p < H.length) = true := decide_eq_true hS.hp
 simp only [ys1, dS, bG, aV, h1, Bool.and_self]
include hS in
theorem wN (hn : n ≤ 1000) (a b i : Nat) : ∀ (j f : Nat) (l : List Nat), l.length = n → j < n → j < f →
  ∃ (j' : Nat) (l' : List Nat), cC (aD.l4 G (k + 2) H.length self) f (yX p n a b i j) (SO H p l) = some (.exit 2, yX p n a b i j', SO H p l') ∧ l'.Perm l
 | j, 0, l, _, _, h => by omega
 | j, f + 1, l, hl, hj, hf => by
  have hc : eF H.length (yX p n a b i j) (SO H p l) = some (SO H p l) := lU hS.hb l _ (pR hS n a b i j)
  by_cases ha : a < j
  ·have g1 : bC Tryd.prog .gtr 3 false (Nn j) (Nn a) = some (.bool true) := pM (by omega)
   have d1 : aM 1 (.sl p n 0 n 1) (Nn j) = some (.ptr p n j 0) := jN hj
   have d2 : aM 1 (.sl p n 0 n 1) (Nn (j - 1 : Nat)) = some (.ptr p n (j - 1) 0) := jN (by omega)
   have l1 := jO G hS hl hj
   have l2 := jO G hS hl (i := j - 1) (by omega)
   have m1 : bC Tryd.prog .sub 3 true (Nn j) (.int .i64 1) = some (Nn (j - 1 : Nat)) := by
    rw [kA, eG (by omega) (by omega)]; congr 2; omega
   have r1 : ∀ H, aJ (cL.f G (k + 2)) [Nn (l.getD j 0), Nn (l.getD (j - 1) 0)] H = _ := fun H => aZ (H := H) (sP G k (l.getD j 0) (l.getD (j - 1) 0)) rfl rfl
   by_cases hcn : l.getD j 0 < l.getD (j - 1) 0
   ·rw [decide_eq_true hcn] at r1
    have s1 := mT hS hl hj (l.getD (j - 1) 0)
    have hl2 : (l.set j (l.getD (j - 1) 0)).length = n := by simp [hl]
    have s2 := mT hS hl2 (i := j - 1) (by omega) (l.getD j 0)
    have hsw : (l.set j (l.getD (j - 1) 0)).set (j - 1) (l.getD j 0) = yA l j (j - 1) := rfl
    rw [hsw] at s2
    have hp := aDZ l j (j - 1) (by omega) (by omega)
    obtain ⟨j', l', h1, h2⟩ := wN hn a b i (j - 1) f (yA l j (j - 1)) (by rw [aFJ]; exact hl) (by omega) (by omega)
    refine ⟨j', l', ?_, h2.trans hp⟩
    rw [aR, aD.l4]
    refine eM ?_
    refine eC hc ?_
    unfold yX at h1 ⊢
    generalize yA l j (j - 1) = ls at *
    generalize l.getD j 0 = y1 at *
    generalize l.getD (j - 1) 0 = y2 at *
    have fx := aKI g1 <| aKI d1 <| aKI d2 <| aKI l1 <| aKI l2 <| aKI m1 <| aKI r1 <| aKI s1 <| s2
    refine eH ?_
    exact h1
   ·rw [decide_eq_false hcn] at r1
    refine ⟨j, l, ?_, List.Perm.refl _⟩
    rw [aR, aD.l4]
    refine eM ?_
    refine eC hc ?_
    unfold yX
    clear hcn
    generalize l.getD j 0 = y1 at *
    generalize l.getD (j - 1) 0 = y2 at *
    have fx := aKI g1 <| aKI d1 <| aKI d2 <| aKI l1 <| aKI l2 <| aKI m1 <| r1
    refine eH ?_
    refine fK ?_; rfl
  ·have g1 : bC Tryd.prog .gtr 3 false (Nn j) (Nn a) = some (.bool false) := nH (by omega)
   refine ⟨j, l, ?_, List.Perm.refl _⟩
   rw [aR, aD.l4]
   refine eM ?_
   refine eC hc ?_
   unfold yX
   have fx := g1
   refine eH ?_
   refine fK ?_; rfl
include hS in
theorem aDy (l : List Nat) : cS [] H.length (SO H p l) = some (.ret, [.tup []], SO H p l) := by
 unfold cS
 rw [lU hS.hb l _ rfl]; rfl
include hS in
theorem wM (hn : n ≤ 1000) (hk : n < k) (a b : Nat) (hb : b ≤ n) : ∀ (d i f : Nat) (l : List Nat), i + d = max i b → l.length = n → d < f →
  ∃ (i' : Nat) (l' : List Nat), cC (aD.l1 G (k + 2) H.length self) f (ys1 p n a b i) (SO H p l) = some (.exit 0, ys1 p n a b i', SO H p l') ∧ l'.Perm l
 | d, i, 0, l, _, _, h => by omega
 | 0, i, f + 1, l, hd, hl, hf => by
  have hc : eF H.length (ys1 p n a b i) (SO H p l) = some (SO H p l) := lU hS.hb l _ (mR hS n a b i)
  have g1 : bC Tryd.prog .lss 3 false (Nn i) (Nn b) = some (.bool false) := dR (by omega)
  refine ⟨i, l, ?_, List.Perm.refl _⟩
  rw [aR, aD.l1]
  refine eM ?_
  refine eC hc ?_
  unfold ys1
  have fx := g1
  refine eH ?_
  refine fK ?_; rfl
 | d + 1, i, f + 1, l, hd, hl, hf => by
  have hc : eF H.length (ys1 p n a b i) (SO H p l) = some (SO H p l) := lU hS.hb l _ (mR hS n a b i)
  have hib : i < b := by omega
  have g1 : bC Tryd.prog .lss 3 false (Nn i) (Nn b) = some (.bool true) := dU (by omega)
  obtain ⟨j', l1, hl4, hp⟩ := wN G k self hS hn a b i i (k + 2) l hl (by omega) (by omega)
  obtain ⟨i', l', h1, h2⟩ := wM hn hk a b hb d (i + 1) f l1 (by omega) (by rw [hp.length_eq]; exact hl) (by omega)
  refine ⟨i', l', ?_, h2.trans hp⟩
  have q2 : bC Tryd.prog .add 3 true (Nn i) (.int .i64 1) = some (Nn (i + 1)) := by
   rw [jE, eG (by omega) (by omega)]; congr 2
  have hlen := lV H p l
  rw [aR, aD.l1]
  refine eM ?_
  refine eC hc ?_
  rw [← hlen] at hl4
  unfold ys1 at h1 ⊢
  unfold yX at hl4
  have fx := aKI g1 <| q2
  have lx1 := hl4
  refine eH ?_
  exact h1
include hS in
theorem wO (hn : n ≤ 1000) (hk : n < k) (a b : Nat) (ha : a ≤ b) (hb : b ≤ n) (l : List Nat) (hl : l.length = n) :
  ∃ l' : List Nat, dG (aD.f G (k + 3)) [dS p n, Nn a, Nn b] (SO H p l) = some (.tup [], SO H p l') ∧ l'.Perm l := by
 obtain ⟨i', l', h1, h2⟩ := wM G k (aD.f G (k + 2)) hS hn hk a b hb (b - (a + 1)) (a + 1) (k + 2) l (by omega) hl (by omega)
 refine ⟨l', aDA ?_, h2⟩
 rw [aD.step]
 unfold aD.c
 rw [lV]
 have q1 : bC Tryd.prog .add 3 true (Nn a) (.int .i64 1) = some (Nn (a + 1 : Nat)) := by
  rw [jE, eG (by omega) (by omega)]; congr 2
 have fin := aDy hS l'
 unfold ys1 at h1
 have hlen := lV H p l
 refine fC ?_
 rw [← hlen] at h1
 have fx := q1
 have lx1 := h1
 refine eH ?_
 exact oF fin
end
section
variable (G : aC) (k : Nat) (self : cK) {H : aA} {p n : Nat} (hS : SB H p)
theorem aKs : cZ.f G (k + 3) [.int .u64 0] [] = some (.int .i64 0, []) := by kernel_rfl
theorem aKt : cZ.f G (k + 3) [.int .u64 1] [] = some (.int .i64 1, []) := by kernel_rfl
theorem len2 : cZ.f G (k + 3) [.int .u64 2] [] = some (.int .i64 2, []) := by kernel_rfl
theorem aKu : cZ.f G (k + 3) [.int .u64 3] [] = some (.int .i64 2, []) := by kernel_rfl
theorem aBI (n : Nat) (h : n ≤ 3) : ∃ z : Int, cZ.f G (k + 3) [.int .u64 (n : Int)] [] = some (.int .i64 z, []) := by
 have : n = 0 ∨ n = 1 ∨ n = 2 ∨ n = 3 := by omega
 rcases this with rfl | rfl | rfl | rfl
 ·exact ⟨0, aKs G k⟩
 ·exact ⟨1, aKt G k⟩
 ·exact ⟨2, len2 G k⟩
 ·exact ⟨2, aKu G k⟩
include hS in
theorem tF (a b : Nat) (z : Int) : bG H.length [dS p n, Nn a, Nn b, I6 z, .bool true, .bool true] = true := by
 have h1 : decide (p < H.length) = true := decide_eq_true hS.hp
 simp only [dS, bG, aV, h1, Bool.and_self]
include hS in
theorem xE (hn : n ≤ 12) (hk : n < k) (z : Int) (l : List Nat) (hl : l.length = n) :
  ∃ l' : List Nat, dG (aL.f G (k + 4)) [dS p n, .int .i64 0, Nn n, I6 z] (SO H p l) = some (.tup [], SO H p l') ∧ l'.Perm l := by
 have hlen := lV H p l
 obtain ⟨l', w, pm⟩ := wO G k hS (by omega) hk 0 n (by omega) (Nat.le_refl _) l hl
 refine ⟨l', aDA ?_, pm⟩
 have w' : dG (aD.f G (k + 3)) [dS p n, .int .i64 0, Nn n] (SO H p l) = some (.tup [], SO H p l') := w
 have hc : eF H.length [dS p n, Nn 0, Nn n, I6 z, .bool true, .bool true] (SO H p l) = some (SO H p l) := lU hS.hb l _ (tF hS 0 n z)
 have hc' : eF H.length [dS p n, .int .i64 0, Nn n, I6 z, .bool true, .bool true] (SO H p l) = some (SO H p l) := hc
 have e1 : bC Tryd.prog .sub 3 false (Nn n) (.int .i64 0) = some (Nn n) := by
  rw [kA, eG (by omega) (by omega), Int.sub_zero]
 have g1 : bC Tryd.prog .leq 3 true (Nn n) (.int .i64 12) = some (.bool true) := vD (by omega)
 have lw : cC (aL.l2 G (k + 3) H.length (aL.f G (k + 3))) (k + 3) [dS p n, .int .i64 0, Nn n, I6 z, .bool true, .bool true] (SO H p l) = some (.ret, [dS p n, .int .i64 0, Nn n, I6 z, .bool true, .bool true], SO H p l') := by
  rw [aR, aL.l2]
  refine eM ?_
  refine eC hc' ?_
  have fx := aKI e1 <| aKI g1 <| w'
  refine eH ?_
  refine fK ?_; rfl
 rw [aL.step]
 unfold aL.c
 have fin := aDy hS l'
 rw [← hlen] at lw fin
 refine fC ?_
 have fx := True.intro
 have lx1 := lw
 refine eH ?_
 exact oF fin
include hS in
theorem few_spec (hn : n ≤ 3) (hk : n < k) (l : List Nat) (hl : l.length = n) :
  ∃ l' : List Nat, dG (aX.f G (k + 5)) [dS p n] (SO H p l) = some (.tup [], SO H p l') ∧ l'.Perm l := by
 have hlen := lV H p l
 obtain ⟨z, hz⟩ := aBI G (k + 1) n hn
 obtain ⟨l', w, pm⟩ := xE G k hS (by omega) hk z l hl
 refine ⟨l', aDA ?_, pm⟩
 have ln : cB (dS p n) = some (Nn n) := rfl
 have c1 : gL .u64 (Nn n) = some (.int .u64 (n : Int)) := by
  have : IntKind.u64.wrap (n : Int) = (n : Int) := lS (by omega) (by omega)
  simp only [gL, this]
 have r1 : ∀ H, aJ (cZ.f G (k + 4)) [.int .u64 (n : Int)] H = _ := fun H => aZ (H := H) hz rfl rfl
 rw [aX.step]
 unfold aX.c
 have fin := aDy hS l'
 rw [← hlen] at fin
 refine fC ?_
 have fx := aKI ln <| aKI c1 <| aKI r1 <| w
 refine eH ?_
 exact oF fin
end
section
variable (G : aC) (k : Nat) (self : cK) {H : aA} {p n : Nat} (hS : SB H p) {P : Nat → Prop}
theorem aEk {o m i : Nat} (h : i < m) : aM 1 (.sl p n o m 1) (Nn i) = some (.ptr p n (o + i) 0) := by
 unfold aM
 simp only [Int.toNat_natCast]
 rw [if_pos (by omega), if_pos trivial]
theorem aAW {l : List Nat} (hl : ∀ x ∈ l, P x) {i : Nat} (h : i < l.length) : P (l.getD i 0) := by
 rw [List.getD_eq_getElem?_getD, List.getElem?_eq_getElem h]
 exact hl _ (List.getElem_mem h)
theorem aJY {l : List Nat} (hl : ∀ x ∈ l, P x) (i : Nat) {y : Nat} (hy : P y) : ∀ x ∈ l.set i y, P x := fun x hx => by
 rcases List.mem_or_eq_of_mem_set hx with h | h
 ·exact hl x h
 ·subst h; exact hy
include hS in
theorem lG (kk kb m i : Nat) : bG H.length [dS p n, Nn kk, .sl p n kb m 1, Nn i] = true := by
 have h1 : decide (p < H.length) = true := decide_eq_true hS.hp
 simp only [dS, bG, aV, h1, Bool.and_self]
include hS in
theorem qG (hn : n ≤ 1000) (kb : Nat) (h0 : 1 ≤ kb) (hb : kb < n) : ∀ (d i kk f : Nat) (l : List Nat), i + d = n - kb → 1 ≤ i → kb ≤ kk → kk < kb + i → l.length = n → (∀ x ∈ l, P x) → d < f →
  ∃ (i' kk' : Nat) (l' : List Nat), cC (aB.l9 G k H.length self) f [dS p n, Nn kk, .sl p n kb (n - kb) 1, Nn i] (SO H p l) = some (.exit 2, [dS p n, Nn kk', .sl p n kb (n - kb) 1, Nn i'], SO H p l') ∧ l'.length = n ∧ (∀ x ∈ l', P x) ∧ kb ≤ kk' ∧ kk' ≤ n
 | d, i, kk, 0, l, _, _, _, _, _, _, h => by omega
 | 0, i, kk, f + 1, l, hd, h1, h2, h3, hl, hP, hf => by
  have hc : eF H.length [dS p n, Nn kk, .sl p n kb (n - kb) 1, Nn i] (SO H p l) = some (SO H p l) := lU hS.hb l _ (lG hS kk kb (n - kb) i)
  have ln : cB (.sl p n kb (n - kb) 1) = some (Nn (n - kb : Nat)) := rfl
  have g1 : bC Tryd.prog .lss 3 false (Nn i) (Nn (n - kb : Nat)) = some (.bool false) := dR (by omega)
  refine ⟨i, kk, l, ?_, hl, hP, h2, by omega⟩
  rw [aR, aB.l9]
  refine eM ?_
  refine eC hc ?_
  have fx := aKI ln <| g1
  refine eH ?_
  refine fK ?_; rfl
 | d + 1, i, kk, f + 1, l, hd, h1, h2, h3, hl, hP, hf => by
  have hc : eF H.length [dS p n, Nn kk, .sl p n kb (n - kb) 1, Nn i] (SO H p l) = some (SO H p l) := lU hS.hb l _ (lG hS kk kb (n - kb) i)
  have ln : cB (.sl p n kb (n - kb) 1) = some (Nn (n - kb : Nat)) := rfl
  have g1 : bC Tryd.prog .lss 3 false (Nn i) (Nn (n - kb : Nat)) = some (.bool true) := dU (by omega)
  have d1 : aM 1 (.sl p n kb (n - kb) 1) (Nn i) = some (.ptr p n (kb + i) 0) := aEk (by omega)
  have e1 : bC Tryd.prog .sub 3 true (Nn i) (.int .i64 1) = some (Nn (i - 1 : Nat)) := aEB (b := 1) (by omega) (by omega)
  have e2 : bC Tryd.prog .add 3 true (Nn i) (.int .i64 1) = some (Nn (i + 1 : Nat)) := gR (by omega)
  have e3 : bC Tryd.prog .add 3 true (Nn kk) (.int .i64 1) = some (Nn (kk + 1 : Nat)) := gR (by omega)
  have d2 : aM 1 (.sl p n kb (n - kb) 1) (Nn (i - 1 : Nat)) = some (.ptr p n (kb + (i - 1)) 0) := aEk (by omega)
  have d3 : aM 1 (dS p n) (Nn kk) = some (.ptr p n kk 0) := jN (by omega)
  have l1 := jO G hS hl (i := kb + i) (by omega)
  have l2 := jO G hS hl (i := kb + (i - 1)) (by omega)
  have s1 := mT hS hl (i := kk) (by omega) (l.getD (kb + i) 0)
  by_cases hne : l.getD (kb + i) 0 = l.getD (kb + (i - 1)) 0
  ·have g2 : bC Tryd.prog .neq 3 false (Nn (l.getD (kb + i) 0)) (Nn (l.getD (kb + (i - 1)) 0)) = some (.bool false) := aHR hne
   obtain ⟨i', kk', l', w, r1, r2, r3, r4⟩ := qG hn kb h0 hb d (i + 1) kk f l (by omega) (by omega) h2 (by omega) hl hP (by omega)
   refine ⟨i', kk', l', ?_, r1, r2, r3, r4⟩
   rw [aR, aB.l9]
   refine eM ?_
   refine eC hc ?_
   clear hne
   generalize l.getD (kb + i) 0 = y1 at *
   generalize l.getD (kb + (i - 1)) 0 = y2 at *
   have fx := aKI ln <| aKI g1 <| aKI d1 <| aKI e1 <| aKI e2 <| aKI d2 <| aKI l1 <| aKI l2 <| g2
   refine eH ?_
   exact w
  ·have g2 : bC Tryd.prog .neq 3 false (Nn (l.getD (kb + i) 0)) (Nn (l.getD (kb + (i - 1)) 0)) = some (.bool true) := aHS hne
   obtain ⟨i', kk', l', w, r1, r2, r3, r4⟩ := qG hn kb h0 hb d (i + 1) (kk + 1) f (l.set kk (l.getD (kb + i) 0)) (by omega) (by omega) (by omega) (by omega) (by simp [hl]) (aJY hP kk (aAW hP (by omega))) (by omega)
   refine ⟨i', kk', l', ?_, r1, r2, r3, r4⟩
   rw [aR, aB.l9]
   refine eM ?_
   refine eC hc ?_
   clear hne
   generalize l.set kk (l.getD (kb + i) 0) = ls at *
   generalize l.getD (kb + i) 0 = y1 at *
   generalize l.getD (kb + (i - 1)) 0 = y2 at *
   have fx := aKI ln <| aKI g1 <| aKI d1 <| aKI e1 <| aKI e2 <| aKI e3 <| aKI d2 <| aKI d3 <| aKI l1 <| aKI l2 <| aKI g2 <| s1
   refine eH ?_
   exact w
include hS in
theorem lF (i : Nat) : bG H.length [dS p n, .nils, Nn i] = true := by
 have h1 : decide (p < H.length) = true := decide_eq_true hS.hp
 simp only [dS, bG, aV, h1, Bool.and_self]
theorem mY (d i : Nat) : iM d (some (Nn i)) = some i := by simp [iM]
theorem mX (d : Nat) : iM d none = some d := rfl
include hS in
theorem qF {l : List Nat} (hl : l.length = n) {kk : Nat} (h : kk ≤ n) : oD (.int .i64 0) (.sl p n kk (n - kk) 1) (SO H p l) = some (.tup [], SO H p (l.take kk ++ List.replicate (n - kk) 0)) := by
 unfold oD
 simp only [aIU hS.hp l, dZ, hl]
 rw [if_pos ⟨trivial, trivial, by omega⟩]
 have e1 : (bV l).take kk ++ (List.replicate (n - kk) (AV.int .i64 0) ++ (bV l).drop (kk + (List.replicate (n - kk) (AV.int .i64 0)).length)) = bV (l.take kk ++ List.replicate (n - kk) 0) := by
  rw [List.length_replicate, List.drop_of_length_le (by rw [dZ]; omega), List.append_nil]
  unfold bV
  rw [List.map_append, List.map_take, List.map_replicate]; rfl
 rw [e1, aFU]
include hS in
theorem wA (hn : n ≤ 1000) (hk : n < k) : ∀ (d i f : Nat) (l : List Nat), i + d = n → 1 ≤ i → l.length = n → (∀ x ∈ l, P x) → d < f →
  (cC (aB.l4 G k H.length self) f [dS p n, .nils, Nn i] (SO H p l) = some (.exit 0, [dS p n, .nils, Nn n], SO H p l))
  ∨ ∃ (z : AV) (m : Nat) (l' : List Nat), cC (aB.l4 G k H.length self) f [dS p n, .nils, Nn i] (SO H p l) = some (.ret, [dS p n, .sl p n 0 m 1, z], SO H p l') ∧ m ≤ n ∧ l'.length = n ∧ ∀ j, j < m → P (l'.getD j 0)
 | d, i, 0, l, _, _, _, _, h => by omega
 | 0, i, f + 1, l, hd, h1, hl, hP, hf => by
  have hi : i = n := by omega
  subst hi
  have hc : eF H.length [dS p i, .nils, Nn i] (SO H p l) = some (SO H p l) := lU hS.hb l _ (lF hS i)
  have ln : cB (dS p i) = some (Nn i) := rfl
  have g1 : bC Tryd.prog .lss 3 false (Nn i) (Nn i) = some (.bool false) := dR (by omega)
  refine .inl ?_
  rw [aR, aB.l4]
  refine eM ?_
  refine eC hc ?_
  have fx := aKI ln <| g1
  refine eH ?_
  refine fK ?_; rfl
 | d + 1, i, f + 1, l, hd, h1, hl, hP, hf => by
  have hlen := lV H p l
  have hc : eF H.length [dS p n, .nils, Nn i] (SO H p l) = some (SO H p l) := lU hS.hb l _ (lF hS i)
  have ln : cB (dS p n) = some (Nn n) := rfl
  have g1 : bC Tryd.prog .lss 3 false (Nn i) (Nn n) = some (.bool true) := dU (by omega)
  have d1 : aM 1 (dS p n) (Nn i) = some (.ptr p n i 0) := jN (by omega)
  have e1 : bC Tryd.prog .sub 3 true (Nn i) (.int .i64 1) = some (Nn (i - 1 : Nat)) := aEB (b := 1) (by omega) (by omega)
  have e2 : bC Tryd.prog .add 3 true (Nn i) (.int .i64 1) = some (Nn (i + 1 : Nat)) := gR (by omega)
  have d2 : aM 1 (dS p n) (Nn (i - 1 : Nat)) = some (.ptr p n (i - 1) 0) := jN (by omega)
  have l1 := jO G hS hl (i := i) (by omega)
  have l2 := jO G hS hl (i := i - 1) (by omega)
  by_cases hne : l.getD i 0 = l.getD (i - 1) 0
  ·have g2 : bC Tryd.prog .eql 3 false (Nn (l.getD i 0)) (Nn (l.getD (i - 1) 0)) = some (.bool true) := aGB hne
   obtain ⟨i', kk', l', w, r1, r2, r3, r4⟩ := qG G k self hS hn i h1 (by omega) (n - i - 1) 1 i k l (by omega) (by omega) (by omega) (by omega) hl hP (by omega)
   have w' : cC (aB.l9 G k (SO H p l).length self) k [dS p n, Nn i, .sl p n i (n - i) 1, .int .i64 1] (SO H p l) = some (.exit 2, [dS p n, Nn kk', .sl p n i (n - i) 1, Nn i'], SO H p l') := by
    rw [hlen]; exact w
   have s1 : fO 1 (dS p n) (some (Nn i)) none = some (.sl p n i (n - i) 1) := by
    simp only [fO, mY, mX, dS, Nat.zero_add]
    rw [if_pos (by refine ⟨?_, ?_, trivial⟩ <;> omega)]
   have s2 : fO 1 (dS p n) (some (Nn kk')) none = some (.sl p n kk' (n - kk') 1) := by
    simp only [fO, mY, mX, dS, Nat.zero_add]
    rw [if_pos (by refine ⟨?_, ?_, trivial⟩ <;> omega)]
   have s3 : fO 1 (dS p n) none (some (Nn kk')) = some (.sl p n 0 kk' 1) := by
    simp only [fO, mY, mX, dS, Nat.zero_add, Nat.sub_zero]
    rw [if_pos (by refine ⟨?_, ?_, trivial⟩ <;> omega)]
   have c1 := qF hS r1 r4
   refine .inr ⟨Nn kk', kk', l'.take kk' ++ List.replicate (n - kk') 0, ?_, r4, by simp [r1]; omega, fun j hj => ?_⟩
   ·rw [aR, aB.l4]
    refine eM ?_
    refine eC hc ?_
    clear hne
    generalize l.getD i 0 = y1 at *
    generalize l.getD (i - 1) 0 = y2 at *
    generalize l'.take kk' ++ List.replicate (n - kk') 0 = lz at *
    have fx := aKI ln <| aKI g1 <| aKI d1 <| aKI d2 <| aKI e1 <| aKI e2 <| aKI l1 <| aKI l2 <| aKI g2 <| aKI s1 <| aKI s2 <| aKI s3 <| c1
    have lx1 := w'
    refine eH ?_
    refine fK ?_; rfl
   ·rw [List.getD_eq_getElem?_getD, List.getElem?_append_left (by simp [r1]; omega), List.getElem?_take_of_lt hj, ← List.getD_eq_getElem?_getD]
    exact aAW r2 (by omega)
  ·have g2 : bC Tryd.prog .eql 3 false (Nn (l.getD i 0)) (Nn (l.getD (i - 1) 0)) = some (.bool false) := aGA hne
   have ih := wA hn hk d (i + 1) f l (by omega) (by omega) hl hP (by omega)
   have st : cC (aB.l4 G k H.length self) (f + 1) [dS p n, .nils, Nn i] (SO H p l) = cC (aB.l4 G k H.length self) f [dS p n, .nils, Nn (i + 1 : Nat)] (SO H p l) := by
    generalize hgen : cC (aB.l4 G k H.length self) f [dS p n, .nils, Nn (i + 1 : Nat)] (SO H p l) = rr
    rw [aR, aB.l4]
    refine eM ?_
    refine eC hc ?_
    clear hne ih
    generalize l.getD i 0 = y1 at *
    generalize l.getD (i - 1) 0 = y2 at *
    have fx := aKI ln <| aKI g1 <| aKI d1 <| aKI d2 <| aKI e1 <| aKI e2 <| aKI l1 <| aKI l2 <| g2
    refine eH ?_
    exact hgen
   rw [st]; exact ih
include hS in
theorem cpt_spec (hn : n ≤ 1000) (hk : n < k) (l : List Nat) (hl : l.length = n) (hP : ∀ x ∈ l, P x) :
  ∃ (m : Nat) (l' : List Nat), dG (aB.f G (k + 1)) [dS p n] (SO H p l) = some (.sl p n 0 m 1, SO H p l') ∧ m ≤ n ∧ l'.length = n ∧ ∀ j, j < m → P (l'.getD j 0) := by
 have hlen := lV H p l
 have ln : cB (dS p n) = some (Nn n) := rfl
 have hp : decide (p < H.length) = true := decide_eq_true hS.hp
 have fin : ∀ (m : Nat) (l' : List Nat), cS [.sl p n 0 m 1] H.length (SO H p l') = some (.ret, [.sl p n 0 m 1], SO H p l') := fun m l' => by
  unfold cS
  rw [lU hS.hb l' _ (by simp only [bG, aV, hp, Bool.and_self])]
  have e : lO (SO H p l') H.length 6 (iQ [.sl p n 0 m 1]) = some (.sl p n 0 m 1) := by
   simp only [iQ, lO, aV, hp]
  simp only [e]
 have hc : ∀ {r : AV} {l' : List Nat}, aB.f G (k + 1) [dS p n] (SO H p l) = some (r, SO H p l') → dG (aB.f G (k + 1)) [dS p n] (SO H p l) = some (r, SO H p l') := fun h => by
  unfold dG; rw [h]; simp only [lV, Nat.le_refl, if_true]
 by_cases h2 : n < 2
 ·have g1 : bC Tryd.prog .lss 3 true (Nn n) (.int .i64 2) = some (.bool true) := dU (by omega)
  refine ⟨n, l, hc ?_, Nat.le_refl _, hl, fun j hj => aAW hP (by omega)⟩
  have fin' := fin n l
  rw [aB.step]
  unfold aB.c
  rw [← hlen] at fin'
  refine fC ?_
  have fx := aKI ln <| g1
  refine eH ?_
  exact oF fin'
 ·have g1 : bC Tryd.prog .lss 3 true (Nn n) (.int .i64 2) = some (.bool false) := dR (by omega)
  rcases wA G k (aB.f G k) hS (P := P) hn hk (n - 1) 1 k l (by omega) (by omega) hl hP (by omega) with w | ⟨z, m, l', w, r1, r2, r3⟩
  ·have w' : cC (aB.l4 G k (SO H p l).length (aB.f G k)) k [dS p n, .nils, .int .i64 1] (SO H p l) = some (.exit 0, [dS p n, .nils, Nn n], SO H p l) := by
    rw [hlen]; exact w
   refine ⟨n, l, hc ?_, Nat.le_refl _, hl, fun j hj => aAW hP (by omega)⟩
   have fin' := fin n l
   rw [aB.step]
   unfold aB.c
   rw [← hlen] at fin'
   refine fC ?_
   have fx := aKI ln <| g1
   have lx1 := w'
   refine eH ?_
   exact oF fin'
  ·have w' : cC (aB.l4 G k (SO H p l).length (aB.f G k)) k [dS p n, .nils, .int .i64 1] (SO H p l) = some (.ret, [dS p n, .sl p n 0 m 1, z], SO H p l') := by
    rw [hlen]; exact w
   refine ⟨m, l', hc ?_, r1, r2, r3⟩
   have fin' := fin m l'
   rw [aB.step]
   unfold aB.c
   rw [← hlen] at fin'
   refine fC ?_
   have fx := aKI ln <| g1
   have lx1 := w'
   refine eH ?_
   exact oF fin'
end
end Go.Proofs.YtlkgkfgkiidhdaaDoor.Mir
namespace Go.Proofs.YtlkgkfgkiidhdaaDoor.Mir.I3
open Go Go.Proofs.YtlkgkfgkiidhdaaDoor.Mir
set_option linter.unusedVariables false
set_option linter.unusedSimpArgs false
set_option maxHeartbeats 8000000
set_option maxRecDepth 20000
def intsI (l : List Int) : List AV := l.map fun n => I6 n
theorem intsI_len (l : List Int) : (intsI l).length = l.length := by simp [intsI]
theorem intsI_below (n : Nat) (l : List Int) : bG n (intsI l) = true := jR n _ (fun _ => rfl) l
theorem intsI_clean (l : List Int) : fW (intsI l) = true := iN _ (fun _ => rfl) l
theorem intsI_plain (l : List Int) : dK (intsI l) = true := kZ _ (fun _ => rfl) l
theorem intsI_sz (l : List Int) : jB 1 (intsI l) = true := sK 1 _ (fun _ => rfl) l
theorem intsI_get (l : List Int) (j : Nat) (h : j < l.length) : (intsI l)[j]? = some (I6 (l.getD j 0)) := by
 unfold intsI
 rw [List.getElem?_map, List.getElem?_eq_getElem h, List.getD_eq_getElem?_getD, List.getElem?_eq_getElem h]; rfl
theorem aFt (l : List Int) (j : Nat) (x : Int) : (intsI l).set j (I6 x) = intsI (l.set j x) := by
 unfold intsI
 rw [List.map_set]
def TO (H : aA) (p : Nat) (l : List Int) : aA := H.set p ⟨3, 1, intsI l⟩
theorem mU (H : aA) (p : Nat) (l : List Int) : (TO H p l).length = H.length := by simp [TO]
theorem TO_set (H : aA) (p : Nat) (l m : List Int) : (TO H p l).set p ⟨3, 1, intsI m⟩ = TO H p m := by simp [TO]
theorem TO_p {H : aA} {p : Nat} (hp : p < H.length) (l : List Int) : (TO H p l)[p]? = some ⟨3, 1, intsI l⟩ := by simp [TO, hp]
theorem TO_cut {H : aA} {p : Nat} (hb : bS H.length H = true) (l : List Int) (xs : List AV) (hx : bG H.length xs = true) : eF H.length xs (TO H p l) = some (TO H p l) := by
 unfold eF
 have e : (TO H p l).take H.length = TO H p l := List.take_of_length_le (by rw [mU]; exact Nat.le_refl _)
 rw [e, hx]
 have : bS H.length (TO H p l) = true := mA (b := ⟨3, 1, intsI l⟩) (intsI_below _ l) H p hb
 rw [this]; rfl
def swI (l : List Int) (i j : Nat) : List Int := (l.set i (l.getD j 0)).set j (l.getD i 0)
theorem aEW (l : List Int) (i j : Nat) : (swI l i j).length = l.length := by simp [swI]
def dnI (a : Nat) : Nat → List Int → List Int
 | 0, l => l
 | j + 1, l => if a < j + 1 ∧ l.getD (j + 1) 0 < l.getD j 0 then dnI a j (swI l (j + 1) j) else l
theorem aAS (a : Nat) : ∀ (j : Nat) (l : List Int), (dnI a j l).length = l.length
 | 0, l => rfl
 | j + 1, l => by
  unfold dnI
  split
  ·rw [aAS a j]; exact aEW ..
  ·rfl
def inI (a : Nat) : Nat → Nat → List Int → List Int
 | 0, i, l => l
 | d + 1, i, l => inI a d (i + 1) (dnI a i l)
theorem inI_len (a : Nat) : ∀ (d i : Nat) (l : List Int), (inI a d i l).length = l.length
 | 0, i, l => rfl
 | d + 1, i, l => by unfold inI; rw [inI_len a d]; exact aAS ..
theorem sM {g : cK} {args : List AV} {H : aA} {p : Nat} {l l' : List Int} {r : AV} (h : g args (TO H p l) = some (r, TO H p l')) : dG g args (TO H p l) = some (r, TO H p l') := by
 unfold dG
 rw [h]
 simp only [mU, Nat.le_refl, if_true]
section
variable (G : aC) (k : Nat) (self : cK) {H : aA} {p n : Nat} (hS : SB H p)
include hS in
theorem jO {l : List Int} (hl : l.length = n) {i : Nat} (h : i < n) : aH G false 1 (.ptr p n i 0) (TO H p l) = some (I6 (l.getD i 0)) := by
 unfold aH
 simp only [TO_p hS.hp l, intsI_len, hl, if_true, intsI_get l i (by omega)]
 rfl
include hS in
theorem mT {l : List Int} (hl : l.length = n) {i : Nat} (h : i < n) (x : Int) : hX (cH 1 (.ptr p n i 0) (I6 x) (TO H p l)) = some (.tup [], TO H p (l.set i x)) := by
 have e : cH 1 (.ptr p n i 0) (I6 x) (TO H p l) = some (TO H p (l.set i x)) := by
  unfold cH
  simp only [TO_p hS.hp l, intsI_len, hl]
  rw [if_pos ⟨trivial, rfl, rfl⟩]
  simp only [intsI_get l i (by omega)]
  rw [if_pos (by show 0 + 1 ≤ 1; omega)]
  have : kN (I6 (l.getD i 0)) (jU (I6 (l.getD i 0)).cells 0 (I6 x).cells) = I6 x := rfl
  rw [this, aFt, TO_set]
 rw [e]; rfl
theorem qK (x : Int) : cF.f G (k + 1) [I6 x] [] = some (.bool false, []) := by
 have g : bC Tryd.prog .neq 3 false (I6 x) (I6 x) = some (.bool false) := iD rfl
 rw [cF.step]
 unfold cF.c
 refine fC ?_
 have fx := g
 refine eH ?_
 exact w1b rfl
theorem sP (x y : Int) : cL.f G (k + 2) [I6 x, I6 y] [] = some (.bool (decide (x < y)), []) := by
 have r1 : ∀ H, aJ (cF.f G (k + 1)) [I6 x] H = _ := fun H => aZ (H := H) (qK G k x) rfl rfl
 have g : bC Tryd.prog .lss 3 false (I6 x) (I6 y) = some (.bool (decide (x < y))) := jZ ..
 rw [cL.step]
 unfold cL.c
 refine fC ?_
 generalize decide (x < y) = b at *
 have fx := aKI r1 <| g
 refine eH ?_
 exact w1b rfl
def yX (p n a b i j : Nat) : List AV := [dS p n, Nn a, Nn b, Nn i, Nn j]
def ys1 (p n a b i : Nat) : List AV := [dS p n, Nn a, Nn b, Nn i]
include hS in
theorem pR (n a b i j : Nat) : bG H.length (yX p n a b i j) = true := by
 have h1 : decide (p < H.length) = true := decide_eq_true hS.hp
 simp only [yX, dS, bG, aV, h1, Bool.and_self]
include hS in
theorem mR (n a b i : Nat) : bG H.length (ys1 p n a b i) = true := by
 have h1 : decide (p < H.length) = true := decide_eq_true hS.hp
 simp only [ys1, dS, bG, aV, h1, Bool.and_self]
include hS in
theorem wN (hn : n ≤ 1000) (a b i : Nat) : ∀ (j f : Nat) (l : List Int), l.length = n → j < n → j < f →
  ∃ j' : Nat, cC (aD.l4 G (k + 2) H.length self) f (yX p n a b i j) (TO H p l) = some (.exit 2, yX p n a b i j', TO H p (dnI a j l))
 | j, 0, l, _, _, h => by omega
 | 0, f + 1, l, hl, hj, hf => by
  have hc : eF H.length (yX p n a b i 0) (TO H p l) = some (TO H p l) := TO_cut hS.hb l _ (pR hS n a b i 0)
  have g1 : bC Tryd.prog .gtr 3 false (Nn 0) (Nn a) = some (.bool false) := nH (by omega)
  refine ⟨0, ?_⟩
  rw [aR, aD.l4]
  refine eM ?_
  refine eC hc ?_
  unfold yX dnI
  have fx := g1
  refine eH ?_
  refine fK ?_; rfl
 | j + 1, f + 1, l, hl, hj, hf => by
  have hc : eF H.length (yX p n a b i (j + 1)) (TO H p l) = some (TO H p l) := TO_cut hS.hb l _ (pR hS n a b i (j + 1))
  by_cases ha : a < j + 1
  ·have g1 : bC Tryd.prog .gtr 3 false (Nn (j + 1 : Nat)) (Nn a) = some (.bool true) := pM (by omega)
   have d1 : aM 1 (.sl p n 0 n 1) (Nn (j + 1 : Nat)) = some (.ptr p n (j + 1) 0) := jN hj
   have d2 : aM 1 (.sl p n 0 n 1) (Nn j) = some (.ptr p n j 0) := jN (by omega)
   have l1 := jO G hS hl hj
   have l2 := jO G hS hl (i := j) (by omega)
   have m1 : bC Tryd.prog .sub 3 true (Nn (j + 1 : Nat)) (.int .i64 1) = some (Nn j) := by
    rw [kA, eG (by omega) (by omega)]; congr 2; omega
   have r1 : ∀ H, aJ (cL.f G (k + 2)) [I6 (l.getD (j + 1) 0), I6 (l.getD j 0)] H = _ := fun H => aZ (H := H) (sP G k (l.getD (j + 1) 0) (l.getD j 0)) rfl rfl
   by_cases hcn : l.getD (j + 1) 0 < l.getD j 0
   ·rw [decide_eq_true hcn] at r1
    have s1 := mT hS hl hj (l.getD j 0)
    have hl2 : (l.set (j + 1) (l.getD j 0)).length = n := by simp [hl]
    have s2 := mT hS hl2 (i := j) (by omega) (l.getD (j + 1) 0)
    have hsw : (l.set (j + 1) (l.getD j 0)).set j (l.getD (j + 1) 0) = swI l (j + 1) j := rfl
    rw [hsw] at s2
    obtain ⟨j', h1⟩ := wN hn a b i j f (swI l (j + 1) j) (by rw [aEW]; exact hl) (by omega) (by omega)
    refine ⟨j', ?_⟩
    rw [dnI, if_pos ⟨ha, hcn⟩]
    rw [aR, aD.l4]
    refine eM ?_
    refine eC hc ?_
    unfold yX at h1 ⊢
    clear hcn hsw
    generalize dnI a j (swI l (j + 1) j) = ld at *
    generalize swI l (j + 1) j = ls at *
    generalize l.getD (j + 1) 0 = y1 at *
    generalize l.getD j 0 = y2 at *
    have fx := aKI g1 <| aKI d1 <| aKI d2 <| aKI l1 <| aKI l2 <| aKI m1 <| aKI r1 <| aKI s1 <| s2
    refine eH ?_
    exact h1
   ·rw [decide_eq_false hcn] at r1
    refine ⟨j + 1, ?_⟩
    rw [dnI, if_neg (fun h => hcn h.2)]
    rw [aR, aD.l4]
    refine eM ?_
    refine eC hc ?_
    unfold yX
    clear hcn
    generalize l.getD (j + 1) 0 = y1 at *
    generalize l.getD j 0 = y2 at *
    have fx := aKI g1 <| aKI d1 <| aKI d2 <| aKI l1 <| aKI l2 <| aKI m1 <| r1
    refine eH ?_
    refine fK ?_; rfl
  ·have g1 : bC Tryd.prog .gtr 3 false (Nn (j + 1 : Nat)) (Nn a) = some (.bool false) := nH (by omega)
   refine ⟨j + 1, ?_⟩
   rw [dnI, if_neg (fun h => ha h.1)]
   rw [aR, aD.l4]
   refine eM ?_
   refine eC hc ?_
   unfold yX
   have fx := g1
   refine eH ?_
   refine fK ?_; rfl
include hS in
theorem aDy (l : List Int) : cS [] H.length (TO H p l) = some (.ret, [.tup []], TO H p l) := by
 unfold cS
 rw [TO_cut hS.hb l _ rfl]; rfl
include hS in
theorem wM (hn : n ≤ 1000) (hk : n < k) (a b : Nat) (hb : b ≤ n) : ∀ (d i f : Nat) (l : List Int), i + d = max i b → l.length = n → d < f →
  ∃ i' : Nat, cC (aD.l1 G (k + 2) H.length self) f (ys1 p n a b i) (TO H p l) = some (.exit 0, ys1 p n a b i', TO H p (inI a d i l))
 | d, i, 0, l, _, _, h => by omega
 | 0, i, f + 1, l, hd, hl, hf => by
  have hc : eF H.length (ys1 p n a b i) (TO H p l) = some (TO H p l) := TO_cut hS.hb l _ (mR hS n a b i)
  have g1 : bC Tryd.prog .lss 3 false (Nn i) (Nn b) = some (.bool false) := dR (by omega)
  refine ⟨i, ?_⟩
  rw [aR, aD.l1]
  refine eM ?_
  refine eC hc ?_
  unfold ys1 inI
  have fx := g1
  refine eH ?_
  refine fK ?_; rfl
 | d + 1, i, f + 1, l, hd, hl, hf => by
  have hc : eF H.length (ys1 p n a b i) (TO H p l) = some (TO H p l) := TO_cut hS.hb l _ (mR hS n a b i)
  have hib : i < b := by omega
  have g1 : bC Tryd.prog .lss 3 false (Nn i) (Nn b) = some (.bool true) := dU (by omega)
  obtain ⟨j', hl4⟩ := wN G k self hS hn a b i i (k + 2) l hl (by omega) (by omega)
  obtain ⟨i', h1⟩ := wM hn hk a b hb d (i + 1) f (dnI a i l) (by omega) (by rw [aAS]; exact hl) (by omega)
  refine ⟨i', ?_⟩
  have q2 : bC Tryd.prog .add 3 true (Nn i) (.int .i64 1) = some (Nn (i + 1)) := by
   rw [jE, eG (by omega) (by omega)]; congr 2
  have hlen := mU H p l
  rw [aR, aD.l1]
  refine eM ?_
  refine eC hc ?_
  rw [← hlen] at hl4
  rw [inI]
  unfold ys1 at h1 ⊢
  unfold yX at hl4
  generalize inI a d (i + 1) (dnI a i l) = l2 at *
  generalize dnI a i l = l1 at *
  have fx := aKI g1 <| q2
  have lx1 := hl4
  refine eH ?_
  exact h1
include hS in
theorem wO (hn : n ≤ 1000) (hk : n < k) (a b : Nat) (ha : a ≤ b) (hb : b ≤ n) (l : List Int) (hl : l.length = n) :
  dG (aD.f G (k + 3)) [dS p n, Nn a, Nn b] (TO H p l) = some (.tup [], TO H p (inI a (b - (a + 1)) (a + 1) l)) := by
 obtain ⟨i', h1⟩ := wM G k (aD.f G (k + 2)) hS hn hk a b hb (b - (a + 1)) (a + 1) (k + 2) l (by omega) hl (by omega)
 generalize inI a (b - (a + 1)) (a + 1) l = l' at *
 refine sM ?_
 rw [aD.step]
 unfold aD.c
 rw [mU]
 have q1 : bC Tryd.prog .add 3 true (Nn a) (.int .i64 1) = some (Nn (a + 1 : Nat)) := by
  rw [jE, eG (by omega) (by omega)]; congr 2
 have fin := aDy hS l'
 unfold ys1 at h1
 have hlen := mU H p l
 refine fC ?_
 rw [← hlen] at h1
 have fx := q1
 have lx1 := h1
 refine eH ?_
 exact oF fin
include hS in
theorem tF (a b : Nat) (z : Int) : bG H.length [dS p n, Nn a, Nn b, I6 z, .bool true, .bool true] = true := by
 have h1 : decide (p < H.length) = true := decide_eq_true hS.hp
 simp only [dS, bG, aV, h1, Bool.and_self]
include hS in
theorem xE (hn : n ≤ 12) (hk : n < k) (z : Int) (l : List Int) (hl : l.length = n) :
  dG (aL.f G (k + 4)) [dS p n, .int .i64 0, Nn n, I6 z] (TO H p l) = some (.tup [], TO H p (inI 0 (n - 1) 1 l)) := by
 have hlen := mU H p l
 have w := wO G k hS (by omega) hk 0 n (by omega) (Nat.le_refl _) l hl
 simp only [Nat.zero_add] at w
 generalize inI 0 (n - 1) 1 l = l' at *
 refine sM ?_
 have w' : dG (aD.f G (k + 3)) [dS p n, .int .i64 0, Nn n] (TO H p l) = some (.tup [], TO H p l') := w
 have hc : eF H.length [dS p n, Nn 0, Nn n, I6 z, .bool true, .bool true] (TO H p l) = some (TO H p l) := TO_cut hS.hb l _ (tF hS 0 n z)
 have hc' : eF H.length [dS p n, .int .i64 0, Nn n, I6 z, .bool true, .bool true] (TO H p l) = some (TO H p l) := hc
 have e1 : bC Tryd.prog .sub 3 false (Nn n) (.int .i64 0) = some (Nn n) := by
  rw [kA, eG (by omega) (by omega), Int.sub_zero]
 have g1 : bC Tryd.prog .leq 3 true (Nn n) (.int .i64 12) = some (.bool true) := vD (by omega)
 have lw : cC (aL.l2 G (k + 3) H.length (aL.f G (k + 3))) (k + 3) [dS p n, .int .i64 0, Nn n, I6 z, .bool true, .bool true] (TO H p l) = some (.ret, [dS p n, .int .i64 0, Nn n, I6 z, .bool true, .bool true], TO H p l') := by
  rw [aR, aL.l2]
  refine eM ?_
  refine eC hc' ?_
  have fx := aKI e1 <| aKI g1 <| w'
  refine eH ?_
  refine fK ?_; rfl
 rw [aL.step]
 unfold aL.c
 have fin := aDy hS l'
 rw [← hlen] at lw fin
 refine fC ?_
 have fx := True.intro
 have lx1 := lw
 refine eH ?_
 exact oF fin
include hS in
theorem few_spec (hn : n ≤ 3) (hk : n < k) (l : List Int) (hl : l.length = n) :
  dG (aX.f G (k + 5)) [dS p n] (TO H p l) = some (.tup [], TO H p (inI 0 (n - 1) 1 l)) := by
 have hlen := mU H p l
 obtain ⟨z, hz⟩ := aBI G (k + 1) n hn
 have w := xE G k hS (by omega) hk z l hl
 generalize inI 0 (n - 1) 1 l = l' at *
 refine sM ?_
 have ln : cB (dS p n) = some (Nn n) := rfl
 have c1 : gL .u64 (Nn n) = some (.int .u64 (n : Int)) := by
  have : IntKind.u64.wrap (n : Int) = (n : Int) := lS (by omega) (by omega)
  simp only [gL, this]
 have r1 : ∀ H, aJ (cZ.f G (k + 4)) [.int .u64 (n : Int)] H = _ := fun H => aZ (H := H) hz rfl rfl
 rw [aX.step]
 unfold aX.c
 have fin := aDy hS l'
 rw [← hlen] at fin
 refine fC ?_
 have fx := aKI ln <| aKI c1 <| aKI r1 <| w
 refine eH ?_
 exact oF fin
end
theorem inI_sorted (l : List Int) (h : l.length ≤ 3) : (inI 0 (l.length - 1) 1 l).Pairwise (· ≤ ·) ∧ ∀ x, x ∈ inI 0 (l.length - 1) 1 l ↔ x ∈ l := by
 match l, h with
 | [], _ => simp [inI]
 | [a], _ => simp [inI]
 | [a, b], _ =>
  simp only [List.length_cons, List.length_nil, Nat.zero_add, Nat.reduceAdd, Nat.add_one_sub_one, inI, dnI, swI, List.getD_cons_zero, List.getD_cons_succ, List.set_cons_zero, List.set_cons_succ]
  split
  ·rename_i hq
   refine ⟨by simp; omega, fun x => ?_⟩
   simp only [List.mem_cons, List.not_mem_nil, or_false]; omega
  ·rename_i hq
   exact ⟨by simp at hq ⊢; omega, fun x => Iff.rfl⟩
 | [a, b, c], _ =>
  simp only [List.length_cons, List.length_nil, Nat.zero_add, Nat.reduceAdd, Nat.reduceSub, inI, dnI, swI, List.getD_cons_zero, List.getD_cons_succ, List.set_cons_zero, List.set_cons_succ]
  by_cases h1 : b < a
  ·simp only [h1, and_true, Nat.zero_lt_one, if_true, List.getD_cons_zero, List.getD_cons_succ, List.set_cons_zero, List.set_cons_succ]
   repeat' split
   all_goals (rename_i hq; refine ⟨?_, fun x => ?_⟩)
   all_goals first
    | (simp only [List.pairwise_cons, List.mem_cons, List.not_mem_nil, or_false, forall_eq_or_imp, forall_eq, false_implies, implies_true, and_true, List.Pairwise.nil]; simp at *; omega)
    | (simp only [List.mem_cons, List.not_mem_nil, or_false]; omega)
  ·simp only [h1, and_false, if_false, List.getD_cons_zero, List.getD_cons_succ, List.set_cons_zero, List.set_cons_succ]
   repeat' split
   all_goals (refine ⟨?_, fun x => ?_⟩)
   all_goals first
    | exact Iff.rfl
    | (simp only [List.pairwise_cons, List.mem_cons, List.not_mem_nil, or_false, forall_eq_or_imp, forall_eq, false_implies, implies_true, and_true, List.Pairwise.nil]; simp at *; omega)
    | (simp only [List.mem_cons, List.not_mem_nil, or_false]; omega)
end Go.Proofs.YtlkgkfgkiidhdaaDoor.Mir.I3
namespace Go.Proofs.YtlkgkfgkiidhdaaDoor.Mir.I3
open Go Go.Proofs.YtlkgkfgkiidhdaaDoor.Mir
set_option linter.unusedVariables false
set_option linter.unusedSimpArgs false
set_option maxHeartbeats 8000000
set_option maxRecDepth 20000
section
variable (G : aC) (k : Nat) (self : cK) {H : aA} {p n : Nat} (hS : SB H p)
def tT (kb : Nat) : Nat → Nat → Nat → List Int → Nat × List Int
 | 0, i, kk, l => (kk, l)
 | d + 1, i, kk, l => if l.getD (kb + i) 0 = l.getD (kb + (i - 1)) 0 then tT kb d (i + 1) kk l else tT kb d (i + 1) (kk + 1) (l.set kk (l.getD (kb + i) 0))
def l4F (n : Nat) : Nat → Nat → List Int → Option (Nat × List Int)
 | 0, i, l => none
 | d + 1, i, l => if l.getD i 0 = l.getD (i - 1) 0 then some ((tT i (n - i - 1) 1 i l).1, (tT i (n - i - 1) 1 i l).2.take (tT i (n - i - 1) 1 i l).1 ++ List.replicate (n - (tT i (n - i - 1) 1 i l).1) 0) else l4F n d (i + 1) l
def cpF (l : List Int) : Nat × List Int :=
 if l.length < 2 then (l.length, l) else match l4F l.length (l.length - 1) 1 l with
  | none => (l.length, l)
  | some r => r
theorem uY (kb : Nat) : ∀ (d i kk : Nat) (l : List Int), (tT kb d i kk l).2.length = l.length
 | 0, i, kk, l => rfl
 | d + 1, i, kk, l => by
  unfold tT
  split
  ·exact uY kb d ..
  ·rw [uY kb d]; simp
theorem aBd (kb : Nat) : ∀ (d i kk : Nat) (l : List Int), kk ≤ (tT kb d i kk l).1 ∧ (tT kb d i kk l).1 ≤ kk + d
 | 0, i, kk, l => ⟨Nat.le_refl _, Nat.le_refl _⟩
 | d + 1, i, kk, l => by
  unfold tT
  split
  ·have := aBd kb d (i + 1) kk l; omega
  ·have := aBd kb d (i + 1) (kk + 1) (l.set kk (l.getD (kb + i) 0)); omega
theorem aEz (n : Nat) : ∀ (d i : Nat) (l : List Int) (r : Nat × List Int), l.length = n → 1 ≤ i → i + d = n → l4F n d i l = some r → r.2.length = n
 | 0, i, l, r, _, _, _, h => by simp [l4F] at h
 | d + 1, i, l, r, hl, h1, hd, h => by
  rw [l4F] at h
  split at h
  ·simp only [Option.some.injEq] at h
   subst h
   have a1 := uY i (n - i - 1) 1 i l
   have a2 := (aBd i (n - i - 1) 1 i l).2
   simp only [List.length_append, List.length_take, List.length_replicate, a1, hl]
   omega
  ·exact aEz n d (i + 1) l r hl (by omega) (by omega) h
theorem cpF_len (l : List Int) : (cpF l).2.length = l.length := by
 unfold cpF
 split
 ·rfl
 ·split
  ·rfl
  ·rename_i r hr
   exact aEz l.length _ _ l r rfl (by omega) (by omega) hr
include hS in
theorem lG (kk kb m i : Nat) : bG H.length [dS p n, Nn kk, .sl p n kb m 1, Nn i] = true := by
 have h1 : decide (p < H.length) = true := decide_eq_true hS.hp
 simp only [dS, bG, aV, h1, Bool.and_self]
include hS in
theorem qG (hn : n ≤ 1000) (kb : Nat) (h0 : 1 ≤ kb) (hb : kb < n) : ∀ (d i kk f : Nat) (l : List Int), i + d = n - kb → 1 ≤ i → kb ≤ kk → kk < kb + i → l.length = n → d < f →
  ∃ i' : Nat, cC (aB.l9 G k H.length self) f [dS p n, Nn kk, .sl p n kb (n - kb) 1, Nn i] (TO H p l) = some (.exit 2, [dS p n, Nn (tT kb d i kk l).1, .sl p n kb (n - kb) 1, Nn i'], TO H p (tT kb d i kk l).2)
 | d, i, kk, 0, l, _, _, _, _, _, h => by omega
 | 0, i, kk, f + 1, l, hd, h1, h2, h3, hl, hf => by
  have hc : eF H.length [dS p n, Nn kk, .sl p n kb (n - kb) 1, Nn i] (TO H p l) = some (TO H p l) := TO_cut hS.hb l _ (lG hS kk kb (n - kb) i)
  have ln : cB (.sl p n kb (n - kb) 1) = some (Nn (n - kb : Nat)) := rfl
  have g1 : bC Tryd.prog .lss 3 false (Nn i) (Nn (n - kb : Nat)) = some (.bool false) := dR (by omega)
  refine ⟨i, ?_⟩
  rw [aR, aB.l9, tT]
  refine eM ?_
  refine eC hc ?_
  have fx := aKI ln <| g1
  refine eH ?_
  refine fK ?_; rfl
 | d + 1, i, kk, f + 1, l, hd, h1, h2, h3, hl, hf => by
  have hc : eF H.length [dS p n, Nn kk, .sl p n kb (n - kb) 1, Nn i] (TO H p l) = some (TO H p l) := TO_cut hS.hb l _ (lG hS kk kb (n - kb) i)
  have ln : cB (.sl p n kb (n - kb) 1) = some (Nn (n - kb : Nat)) := rfl
  have g1 : bC Tryd.prog .lss 3 false (Nn i) (Nn (n - kb : Nat)) = some (.bool true) := dU (by omega)
  have d1 : aM 1 (.sl p n kb (n - kb) 1) (Nn i) = some (.ptr p n (kb + i) 0) := aEk (by omega)
  have e1 : bC Tryd.prog .sub 3 true (Nn i) (.int .i64 1) = some (Nn (i - 1 : Nat)) := aEB (b := 1) (by omega) (by omega)
  have e2 : bC Tryd.prog .add 3 true (Nn i) (.int .i64 1) = some (Nn (i + 1 : Nat)) := gR (by omega)
  have e3 : bC Tryd.prog .add 3 true (Nn kk) (.int .i64 1) = some (Nn (kk + 1 : Nat)) := gR (by omega)
  have d2 : aM 1 (.sl p n kb (n - kb) 1) (Nn (i - 1 : Nat)) = some (.ptr p n (kb + (i - 1)) 0) := aEk (by omega)
  have d3 : aM 1 (dS p n) (Nn kk) = some (.ptr p n kk 0) := jN (by omega)
  have l1 := jO G hS hl (i := kb + i) (by omega)
  have l2 := jO G hS hl (i := kb + (i - 1)) (by omega)
  have s1 := mT hS hl (i := kk) (by omega) (l.getD (kb + i) 0)
  by_cases hne : l.getD (kb + i) 0 = l.getD (kb + (i - 1)) 0
  ·have g2 : bC Tryd.prog .neq 3 false (I6 (l.getD (kb + i) 0)) (I6 (l.getD (kb + (i - 1)) 0)) = some (.bool false) := iD hne
   obtain ⟨i', w⟩ := qG hn kb h0 hb d (i + 1) kk f l (by omega) (by omega) h2 (by omega) hl (by omega)
   refine ⟨i', ?_⟩
   rw [aR, aB.l9, tT, if_pos hne]
   refine eM ?_
   refine eC hc ?_
   clear hne
   generalize tT kb d (i + 1) kk l = r at *
   generalize l.getD (kb + i) 0 = y1 at *
   generalize l.getD (kb + (i - 1)) 0 = y2 at *
   have fx := aKI ln <| aKI g1 <| aKI d1 <| aKI e1 <| aKI e2 <| aKI d2 <| aKI l1 <| aKI l2 <| g2
   refine eH ?_
   exact w
  ·have g2 : bC Tryd.prog .neq 3 false (I6 (l.getD (kb + i) 0)) (I6 (l.getD (kb + (i - 1)) 0)) = some (.bool true) := gW hne
   obtain ⟨i', w⟩ := qG hn kb h0 hb d (i + 1) (kk + 1) f (l.set kk (l.getD (kb + i) 0)) (by omega) (by omega) (by omega) (by omega) (by simp [hl]) (by omega)
   refine ⟨i', ?_⟩
   rw [aR, aB.l9, tT, if_neg hne]
   refine eM ?_
   refine eC hc ?_
   clear hne
   generalize tT kb d (i + 1) (kk + 1) (l.set kk (l.getD (kb + i) 0)) = r at *
   generalize l.set kk (l.getD (kb + i) 0) = ls at *
   generalize l.getD (kb + i) 0 = y1 at *
   generalize l.getD (kb + (i - 1)) 0 = y2 at *
   have fx := aKI ln <| aKI g1 <| aKI d1 <| aKI e1 <| aKI e2 <| aKI e3 <| aKI d2 <| aKI d3 <| aKI l1 <| aKI l2 <| aKI g2 <| s1
   refine eH ?_
   exact w
include hS in
theorem lF (i : Nat) : bG H.length [dS p n, .nils, Nn i] = true := by
 have h1 : decide (p < H.length) = true := decide_eq_true hS.hp
 simp only [dS, bG, aV, h1, Bool.and_self]
include hS in
theorem qF {l : List Int} (hl : l.length = n) {kk : Nat} (h : kk ≤ n) : oD (.int .i64 0) (.sl p n kk (n - kk) 1) (TO H p l) = some (.tup [], TO H p (l.take kk ++ List.replicate (n - kk) 0)) := by
 unfold oD
 simp only [TO_p hS.hp l, intsI_len, hl]
 rw [if_pos ⟨trivial, trivial, by omega⟩]
 have e1 : (intsI l).take kk ++ (List.replicate (n - kk) (AV.int .i64 0) ++ (intsI l).drop (kk + (List.replicate (n - kk) (AV.int .i64 0)).length)) = intsI (l.take kk ++ List.replicate (n - kk) 0) := by
  rw [List.length_replicate, List.drop_of_length_le (by rw [intsI_len]; omega), List.append_nil]
  unfold intsI
  rw [List.map_append, List.map_take, List.map_replicate]
 rw [e1, TO_set]
include hS in
theorem wA (hn : n ≤ 1000) (hk : n < k) : ∀ (d i f : Nat) (l : List Int), i + d = n → 1 ≤ i → l.length = n → d < f →
  (l4F n d i l = none ∧ cC (aB.l4 G k H.length self) f [dS p n, .nils, Nn i] (TO H p l) = some (.exit 0, [dS p n, .nils, Nn n], TO H p l))
  ∨ ∃ (z : AV) (m : Nat) (l' : List Int), l4F n d i l = some (m, l') ∧ cC (aB.l4 G k H.length self) f [dS p n, .nils, Nn i] (TO H p l) = some (.ret, [dS p n, .sl p n 0 m 1, z], TO H p l') ∧ m ≤ n ∧ l'.length = n
 | d, i, 0, l, _, _, _, h => by omega
 | 0, i, f + 1, l, hd, h1, hl, hf => by
  have hi : i = n := by omega
  subst hi
  have hc : eF H.length [dS p i, .nils, Nn i] (TO H p l) = some (TO H p l) := TO_cut hS.hb l _ (lF hS i)
  have ln : cB (dS p i) = some (Nn i) := rfl
  have g1 : bC Tryd.prog .lss 3 false (Nn i) (Nn i) = some (.bool false) := dR (by omega)
  refine .inl ⟨rfl, ?_⟩
  rw [aR, aB.l4]
  refine eM ?_
  refine eC hc ?_
  have fx := aKI ln <| g1
  refine eH ?_
  refine fK ?_; rfl
 | d + 1, i, f + 1, l, hd, h1, hl, hf => by
  have hlen := mU H p l
  have hc : eF H.length [dS p n, .nils, Nn i] (TO H p l) = some (TO H p l) := TO_cut hS.hb l _ (lF hS i)
  have ln : cB (dS p n) = some (Nn n) := rfl
  have g1 : bC Tryd.prog .lss 3 false (Nn i) (Nn n) = some (.bool true) := dU (by omega)
  have d1 : aM 1 (dS p n) (Nn i) = some (.ptr p n i 0) := jN (by omega)
  have e1 : bC Tryd.prog .sub 3 true (Nn i) (.int .i64 1) = some (Nn (i - 1 : Nat)) := aEB (b := 1) (by omega) (by omega)
  have e2 : bC Tryd.prog .add 3 true (Nn i) (.int .i64 1) = some (Nn (i + 1 : Nat)) := gR (by omega)
  have d2 : aM 1 (dS p n) (Nn (i - 1 : Nat)) = some (.ptr p n (i - 1) 0) := jN (by omega)
  have l1 := jO G hS hl (i := i) (by omega)
  have l2 := jO G hS hl (i := i - 1) (by omega)
  by_cases hne : l.getD i 0 = l.getD (i - 1) 0
  ·have g2 : bC Tryd.prog .eql 3 false (I6 (l.getD i 0)) (I6 (l.getD (i - 1) 0)) = some (.bool true) := gH hne
   obtain ⟨i', w⟩ := qG G k self hS hn i h1 (by omega) (n - i - 1) 1 i k l (by omega) (by omega) (by omega) (by omega) hl (by omega)
   have r1 := uY i (n - i - 1) 1 i l
   have r4 := (aBd i (n - i - 1) 1 i l).2
   have h4 : l4F n (d + 1) i l = some ((tT i (n - i - 1) 1 i l).1, (tT i (n - i - 1) 1 i l).2.take (tT i (n - i - 1) 1 i l).1 ++ List.replicate (n - (tT i (n - i - 1) 1 i l).1) 0) := by rw [l4F, if_pos hne]
   obtain ⟨kk', hkk⟩ : ∃ z, z = (tT i (n - i - 1) 1 i l).1 := ⟨_, rfl⟩
   obtain ⟨l', hl'⟩ : ∃ z, z = (tT i (n - i - 1) 1 i l).2 := ⟨_, rfl⟩
   rw [← hkk, ← hl'] at h4
   rw [← hkk] at r4
   rw [← hl'] at r1
   rw [← hkk, ← hl'] at w
   have w' : cC (aB.l9 G k (TO H p l).length self) k [dS p n, Nn i, .sl p n i (n - i) 1, .int .i64 1] (TO H p l) = some (.exit 2, [dS p n, Nn kk', .sl p n i (n - i) 1, Nn i'], TO H p l') := by
    rw [hlen]; exact w
   have s1 : fO 1 (dS p n) (some (Nn i)) none = some (.sl p n i (n - i) 1) := by
    simp only [fO, mY, mX, dS, Nat.zero_add]
    rw [if_pos (by refine ⟨?_, ?_, trivial⟩ <;> omega)]
   have s2 : fO 1 (dS p n) (some (Nn kk')) none = some (.sl p n kk' (n - kk') 1) := by
    simp only [fO, mY, mX, dS, Nat.zero_add]
    rw [if_pos (by refine ⟨?_, ?_, trivial⟩ <;> omega)]
   have s3 : fO 1 (dS p n) none (some (Nn kk')) = some (.sl p n 0 kk' 1) := by
    simp only [fO, mY, mX, dS, Nat.zero_add, Nat.sub_zero]
    rw [if_pos (by refine ⟨?_, ?_, trivial⟩ <;> omega)]
   have c1 := qF hS (r1.trans hl) (kk := kk') (by omega)
   refine .inr ⟨Nn kk', kk', l'.take kk' ++ List.replicate (n - kk') 0, h4, ?_, by omega, by simp [r1, hl]; omega⟩
   rw [aR, aB.l4]
   refine eM ?_
   refine eC hc ?_
   clear hne h4 hkk hl'
   generalize l.getD i 0 = y1 at *
   generalize l.getD (i - 1) 0 = y2 at *
   generalize l'.take kk' ++ List.replicate (n - kk') 0 = lz at *
   have fx := aKI ln <| aKI g1 <| aKI d1 <| aKI d2 <| aKI e1 <| aKI e2 <| aKI l1 <| aKI l2 <| aKI g2 <| aKI s1 <| aKI s2 <| aKI s3 <| c1
   have lx1 := w'
   refine eH ?_
   refine fK ?_; rfl
  ·have g2 : bC Tryd.prog .eql 3 false (I6 (l.getD i 0)) (I6 (l.getD (i - 1) 0)) = some (.bool false) := fU hne
   have ih := wA hn hk d (i + 1) f l (by omega) (by omega) hl (by omega)
   have st : cC (aB.l4 G k H.length self) (f + 1) [dS p n, .nils, Nn i] (TO H p l) = cC (aB.l4 G k H.length self) f [dS p n, .nils, Nn (i + 1 : Nat)] (TO H p l) := by
    generalize hgen : cC (aB.l4 G k H.length self) f [dS p n, .nils, Nn (i + 1 : Nat)] (TO H p l) = rr
    rw [aR, aB.l4]
    refine eM ?_
    refine eC hc ?_
    clear hne ih
    generalize l.getD i 0 = y1 at *
    generalize l.getD (i - 1) 0 = y2 at *
    have fx := aKI ln <| aKI g1 <| aKI d1 <| aKI d2 <| aKI e1 <| aKI e2 <| aKI l1 <| aKI l2 <| g2
    refine eH ?_
    exact hgen
   rw [st, l4F, if_neg hne]; exact ih
include hS in
theorem cpt_spec (hn : n ≤ 1000) (hk : n < k) (l : List Int) (hl : l.length = n) :
  dG (aB.f G (k + 1)) [dS p n] (TO H p l) = some (.sl p n 0 (cpF l).1 1, TO H p (cpF l).2) ∧ (cpF l).1 ≤ n ∧ (cpF l).2.length = n := by
 have hlen := mU H p l
 have ln : cB (dS p n) = some (Nn n) := rfl
 have hp : decide (p < H.length) = true := decide_eq_true hS.hp
 have fin : ∀ (m : Nat) (l' : List Int), cS [.sl p n 0 m 1] H.length (TO H p l') = some (.ret, [.sl p n 0 m 1], TO H p l') := fun m l' => by
  unfold cS
  rw [TO_cut hS.hb l' _ (by simp only [bG, aV, hp, Bool.and_self])]
  have e : lO (TO H p l') H.length 6 (iQ [.sl p n 0 m 1]) = some (.sl p n 0 m 1) := by
   simp only [iQ, lO, aV, hp]
  simp only [e]
 by_cases h2 : n < 2
 ·have g1 : bC Tryd.prog .lss 3 true (Nn n) (.int .i64 2) = some (.bool true) := dU (by omega)
  have e : cpF l = (n, l) := by unfold cpF; rw [if_pos (by omega), hl]
  rw [e]
  refine ⟨sM ?_, Nat.le_refl _, hl⟩
  have fin' := fin n l
  rw [aB.step]
  unfold aB.c
  rw [← hlen] at fin'
  refine fC ?_
  have fx := aKI ln <| g1
  refine eH ?_
  exact oF fin'
 ·have g1 : bC Tryd.prog .lss 3 true (Nn n) (.int .i64 2) = some (.bool false) := dR (by omega)
  rcases wA G k (aB.f G k) hS hn hk (n - 1) 1 k l (by omega) (by omega) hl (by omega) with ⟨e4, w⟩ | ⟨z, m, l', e4, w, r1, r2⟩
  ·have w' : cC (aB.l4 G k (TO H p l).length (aB.f G k)) k [dS p n, .nils, .int .i64 1] (TO H p l) = some (.exit 0, [dS p n, .nils, Nn n], TO H p l) := by
    rw [hlen]; exact w
   have e : cpF l = (n, l) := by unfold cpF; rw [if_neg (by omega), hl, e4]
   rw [e]
   refine ⟨sM ?_, Nat.le_refl _, hl⟩
   have fin' := fin n l
   rw [aB.step]
   unfold aB.c
   rw [← hlen] at fin'
   refine fC ?_
   have fx := aKI ln <| g1
   have lx1 := w'
   refine eH ?_
   exact oF fin'
  ·have w' : cC (aB.l4 G k (TO H p l).length (aB.f G k)) k [dS p n, .nils, .int .i64 1] (TO H p l) = some (.ret, [dS p n, .sl p n 0 m 1, z], TO H p l') := by
    rw [hlen]; exact w
   have e : cpF l = (m, l') := by unfold cpF; rw [if_neg (by omega), hl, e4]
   rw [e]
   refine ⟨sM ?_, r1, r2⟩
   have fin' := fin m l'
   rw [aB.step]
   unfold aB.c
   rw [← hlen] at fin'
   refine fC ?_
   have fx := aKI ln <| g1
   have lx1 := w'
   refine eH ?_
   exact oF fin'
end
theorem cpF_sorted (l : List Int) (h : l.length ≤ 3) (hs : l.Pairwise (· ≤ ·)) : ((cpF l).2.take (cpF l).1).Pairwise (· < ·) ∧ ∀ x, x ∈ (cpF l).2.take (cpF l).1 ↔ x ∈ l := by
 match l, h, hs with
 | [], _, _ => simp [cpF]
 | [a], _, _ => simp [cpF]
 | [a, b], _, hs =>
  simp only [List.pairwise_cons, List.mem_cons, List.not_mem_nil, or_false, forall_eq, false_implies, implies_true, and_true, List.Pairwise.nil] at hs
  simp only [cpF, List.length_cons, List.length_nil, Nat.zero_add, Nat.reduceAdd, Nat.reduceSub, Nat.reduceLT, if_false, l4F, tT, List.getD_cons_zero, List.getD_cons_succ]
  by_cases h1 : b = a
  ·subst h1
   simp
  ·rw [if_neg h1]
   refine ⟨?_, fun x => by simp⟩
   simp; omega
 | [a, b, c], _, hs =>
  simp only [List.pairwise_cons, List.mem_cons, List.not_mem_nil, or_false, forall_eq, false_implies, implies_true, and_true, List.Pairwise.nil, forall_eq_or_imp] at hs
  simp only [cpF, List.length_cons, List.length_nil, Nat.zero_add, Nat.reduceAdd, Nat.reduceSub, Nat.reduceLT, if_false, l4F, tT, List.getD_cons_zero, List.getD_cons_succ]
  by_cases h1 : b = a
  ·subst h1
   by_cases h2 : c = b
   ·subst h2; simp
   ·simp [h2]; omega
  ·by_cases h2 : c = b
   ·subst h2; simp [h1]; omega
   ·simp [h1, h2]; omega
end Go.Proofs.YtlkgkfgkiidhdaaDoor.Mir.I3
namespace Go.Proofs.YtlkgkfgkiidhdaaDoor.Mir
open Go
set_option linter.unusedSimpArgs false
set_option linter.unusedVariables false
set_option maxHeartbeats 8000000
set_option maxRecDepth 20000
structure LY where
 slot : List Nat
 word : List Nat
 M : Nat
def LY.sl (L : LY) (r : Int) : Nat := L.slot.getD r.toNat 0
def LY.wd (L : LY) (r : Int) : Nat := L.word.getD r.toNat 0
def LY.rdC (L : LY) (r into : Int) : List WI := if L.sl r = 0 then [⟨15, into, 0, 0, 0, L.wd r⟩] else []
def LY.rdR (L : LY) (r into : Int) : Int := if L.sl r = 0 then into else L.sl r
def LY.wrR (L : LY) (r : Int) : Int := if L.sl r = 0 then 1 else L.sl r
def LY.wrC (L : LY) (r : Int) : List WI := if L.sl r = 0 then [⟨16, 0, 0, 1, 0, L.wd r⟩] else []
def LY.adC (L : LY) (i : WI) : List WI := L.rdC i.a 1 ++ [⟨1, 2, 0, 0, 0, i.k⟩, ⟨3, 2, L.rdR i.a 1, 2, 0, 0⟩, ⟨1, 3, 0, 0, 0, (L.M : Int)⟩, ⟨13, 3, 2, 3, 0, 0⟩, ⟨18, 0, 3, 0, 0, -1⟩]
def LY.rC (L : LY) (f : Bool) (r into : Int) : List WI := if f = true then L.rdC r into else []
def LY.rR (L : LY) (f : Bool) (r into : Int) : Int := if f = true then L.rdR r into else r
def LY.rds (L : LY) (i : WI) : List WI := L.rC (dD i.op).a i.a 1 ++ (L.rC (dD i.op).b i.b 2 ++ L.rC (dD i.op).c i.c 3)
def LY.ins (L : LY) (i : WI) : WI := ⟨i.op, if (dD i.op).d = true then L.wrR i.d else i.d, L.rR (dD i.op).a i.a 1, L.rR (dD i.op).b i.b 2, L.rR (dD i.op).c i.c 3, i.k⟩
def LY.wrs (L : LY) (i : WI) : List WI := if (dD i.op).d = true then L.wrC i.d else []
def LY.one (L : LY) (i : WI) : List WI :=
 if i.op = 15 then L.adC i ++ ([⟨15, L.wrR i.d, 2, 0, 0, 0⟩] ++ L.wrC i.d)
 else if i.op = 16 then L.adC i ++ (L.rdC i.b 1 ++ [⟨16, 0, 2, L.rdR i.b 1, 0, 0⟩])
 else L.rds i ++ ([L.ins i] ++ L.wrs i)
def LY.flat (L : LY) : List WI → List WI
 | [] => []
 | w :: ws => L.one w ++ L.flat ws
def LY.at_ (L : LY) (ws : List WI) (j : Nat) : Nat := (L.flat (ws.take j)).length
def LY.pos (L : LY) (b : Nat) : List WI → List Nat
 | [] => []
 | w :: ws => b :: L.pos (b + (L.one w).length) ws
def LY.place (L : LY) (ws : List WI) : List Nat := L.pos 0 ws ++ [(L.flat ws).length]
def aJc (P : List Nat) (n : Nat) (i : WI) : WI := if i.op = 17 ∨ i.op = 18 ∨ i.op = 19 then (if i.k = -1 then { i with k := n } else { i with k := (P.getD i.k.toNat 0 : Nat) }) else i
def LY.out (L : LY) (ws : List WI) : List WI := (L.flat ws).map (aJc (L.place ws) (L.flat ws).length)
structure AX where
 bor : Bool
 ws : List WI
 R : Nat
 L : LY
 us : List Int
 o : List Nat
structure LS where
 out : List WI
 place : List Nat
def LS.put (s : LS) (l : List WI) : LS := { s with out := s.out ++ l }
def AX.cv (A : AX) : AV := cV A.bor A.ws A.R A.L.M
def AX.box (A : AX) (s : LS) : AV := .agg [.ro A.bor (cJ A.ws), Nn A.R, Nn A.L.M, .sl 6 A.R 0 A.R 1, .sl 7 A.R 0 A.R 1, .sl 8 s.out.length 0 s.out.length 6, .sl 9 s.place.length 0 s.place.length 1]
def AX.hp (A : AX) (s : LS) (T : aA) : aA :=
 ⟨27, 3, [A.cv]⟩ :: ⟨27, 3, [.agg [.nils, .int .i64 0, .int .i64 0]]⟩ :: ⟨86, 7, [A.box s]⟩ :: ⟨3, 1, A.us.map fun u => I6 u⟩ :: ⟨49, 1, [.sl 3 A.R 0 A.R 1]⟩ :: ⟨3, 1, bV A.o⟩ :: ⟨3, 1, bV A.L.slot⟩ :: ⟨3, 1, bV A.L.word⟩ :: ⟨29, 6, cJ s.out⟩ :: ⟨3, 1, bV s.place⟩ :: T
structure AX.W (A : AX) : Prop where
 sl : A.L.slot.length = A.R
 wd : A.L.word.length = A.R
theorem intsI_below (n : Nat) (l : List Int) : bG n (l.map fun u => I6 u) = true := jR n _ (fun _ => rfl) l
section
variable (A : AX) (s : LS) (T : aA)
variable (G : aC) (k : Nat)
end
theorem iF (l : List Nat) (i j x : Nat) (hi : i < l.length) : (l.set i x).getD j 0 = if i = j then x else l.getD j 0 := by
 rw [List.getD_eq_getElem?_getD, List.getD_eq_getElem?_getD, List.getElem?_set]
 by_cases h : i = j
 ·rw [if_pos h, if_pos h, if_pos hi]; rfl
 ·rw [if_neg h, if_neg h]
section
variable {r : List Nat} {p : Nat} {cd : Int} {mem : List Nat} {lk : List (Int × Int)} {st : Nat} {d a b c k op : Int} {y : Nat}
end
def At (cs : List WI) (p : Nat) (i : WI) : Prop := cs[p]? = some i
def aBF (cs : List WI) (fuel : Int) (q : MS) (m : Nat) (q2 : MS) : Prop := ∀ f, aIg cs fuel (f + m) q = aIg cs fuel f q2
def aJJ (cs : List WI) (fuel : Int) (q : MS) (m : Nat) (q2 : MS) : Prop := ∀ f, aIg cs fuel (f + m) q = some q2
section
variable {cs : List WI} {fuel : Int} {r : List Nat} {p : Nat} {cd : Int} {mem : List Nat} {lk : List (Int × Int)} {st : Nat} {d a b c k op : Int} {y : Nat} {q q2 q3 : MS} {m n : Nat}
theorem aBF.refl : aBF cs fuel q 0 q := fun f => rfl
theorem aBF.trans (h : aBF cs fuel q m q2) (h2 : aBF cs fuel q2 n q3) : aBF cs fuel q (m + n) q3 := fun f => by
 rw [show f + (m + n) = f + n + m by omega, h, h2]
theorem aBF.ends (h : aBF cs fuel q m q2) (h2 : aJJ cs fuel q2 n q3) : aJJ cs fuel q (m + n) q3 := fun f => by
 rw [show f + (m + n) = f + n + m by omega, h, h2]
theorem At.lt {i : WI} (h : At cs p i) : p < cs.length ∧ cs.getD p default = i := by
 unfold At at h
 refine ⟨(List.getElem?_eq_some_iff.1 h).1, ?_⟩
 rw [List.getD_eq_getElem?_getD, h]; rfl
end
structure LY.Ok (L : LY) (R S N : Nat) : Prop where
 s6 : 6 ≤ S
 n : N ≤ 65536
 mn : L.M ≤ N
 sl : ∀ r, r < R → L.slot.getD r 0 ≠ 0 → 4 ≤ L.slot.getD r 0 ∧ L.slot.getD r 0 < S
 wd : ∀ r, r < R → L.slot.getD r 0 = 0 → L.M ≤ L.word.getD r 0 ∧ L.word.getD r 0 < N
 slI : ∀ r t, r < R → t < R → r ≠ t → L.slot.getD r 0 ≠ 0 → L.slot.getD t 0 ≠ L.slot.getD r 0
 wdI : ∀ r t, r < R → t < R → r ≠ t → L.slot.getD r 0 = 0 → L.slot.getD t 0 = 0 → L.word.getD t 0 ≠ L.word.getD r 0
structure RelA (L : LY) (R S N : Nat) (sr sm qr qm : List Nat) : Prop where
 sl : sr.length = R
 ql : qr.length = S
 z : qr.getD 0 0 = 0
 sml : sm.length = L.M
 qml : qm.length = N
 rs : ∀ r, r < R → L.slot.getD r 0 ≠ 0 → qr.getD (L.slot.getD r 0) 0 = sr.getD r 0
 rm : ∀ r, r < R → L.slot.getD r 0 = 0 → qm.getD (L.word.getD r 0) 0 = sr.getD r 0
 mem : ∀ j, j < L.M → qm.getD j 0 = sm.getD j 0
section
variable {L : LY} {R S N : Nat} {sr sm qr qm qr2 : List Nat}
theorem RelA.scr (hL : L.Ok R S N) (h : RelA L R S N sr sm qr qm) (hl : qr2.length = S) (he : ∀ j, j = 0 ∨ 4 ≤ j → qr2.getD j 0 = qr.getD j 0) : RelA L R S N sr sm qr2 qm :=
 ⟨h.sl, hl, by rw [he 0 (.inl rfl)]; exact h.z, h.sml, h.qml, fun r hr h0 => by rw [he _ (.inr (hL.sl r hr h0).1)]; exact h.rs r hr h0, h.rm, h.mem⟩
theorem RelA.set (hL : L.Ok R S N) (h : RelA L R S N sr sm qr qm) {t x : Nat} (ht : 1 ≤ t ∧ t ≤ 3) : RelA L R S N sr sm (qr.set t x) qm := by
 have := hL.s6
 refine h.scr hL (by rw [List.length_set]; exact h.ql) (fun j hj => ?_)
 rw [iF _ _ _ _ (by rw [h.ql]; omega), if_neg (by omega)]
theorem RelA.slot (hL : L.Ok R S N) (h : RelA L R S N sr sm qr qm) {d : Int} (hd : 0 ≤ d ∧ d < R) (h0 : L.sl d ≠ 0) (x : Nat) : RelA L R S N (sr.set d.toNat x) sm (qr.set (L.sl d) x) qm := by
 have hb := hL.sl d.toNat (by omega) h0
 have hlt : L.sl d < qr.length := by rw [h.ql]; exact hb.2
 refine ⟨by rw [List.length_set]; exact h.sl, by rw [List.length_set]; exact h.ql, ?_, h.sml, h.qml, fun r hr hr0 => ?_, fun r hr hr0 => ?_, h.mem⟩
 ·have hb4 : 4 ≤ L.sl d := hb.1
  rw [iF _ _ _ _ hlt, if_neg (by omega)]; exact h.z
 ·rw [iF _ _ _ _ hlt, iF _ _ _ _ (by rw [h.sl]; omega)]
  by_cases e : d.toNat = r
  ·subst e; rw [if_pos (show L.sl d = L.slot.getD d.toNat 0 from rfl), if_pos rfl]
  ·have hne : ¬ L.sl d = L.slot.getD r 0 := hL.slI r d.toNat hr (by omega) (by omega) hr0
   rw [if_neg hne, if_neg e]; exact h.rs r hr hr0
 ·have e : ¬ d.toNat = r := fun e => h0 (by unfold LY.sl; rw [e]; exact hr0)
  rw [iF _ _ _ _ (by rw [h.sl]; omega), if_neg e]; exact h.rm r hr hr0
theorem RelA.word (hL : L.Ok R S N) (h : RelA L R S N sr sm qr qm) {d : Int} (hd : 0 ≤ d ∧ d < R) (h0 : L.sl d = 0) (x : Nat) : RelA L R S N (sr.set d.toNat x) sm qr (qm.set (L.wd d) x) := by
 have hb := hL.wd d.toNat (by omega) h0
 have hlt : L.wd d < qm.length := by rw [h.qml]; exact hb.2
 refine ⟨by rw [List.length_set]; exact h.sl, h.ql, h.z, h.sml, by rw [List.length_set]; exact h.qml, fun r hr hr0 => ?_, fun r hr hr0 => ?_, fun j hj => ?_⟩
 ·have e : ¬ d.toNat = r := fun e => hr0 (by rw [← e]; exact h0)
  rw [iF _ _ _ _ (by rw [h.sl]; omega), if_neg e]; exact h.rs r hr hr0
 ·rw [iF _ _ _ _ hlt, iF _ _ _ _ (by rw [h.sl]; omega)]
  by_cases e : d.toNat = r
  ·subst e; rw [if_pos (show L.wd d = L.word.getD d.toNat 0 from rfl), if_pos rfl]
  ·have hne : ¬ L.wd d = L.word.getD r 0 := hL.wdI r d.toNat hr (by omega) (by omega) hr0 h0
   rw [if_neg hne, if_neg e]; exact h.rm r hr hr0
 ·have hb1 : L.M ≤ L.wd d := hb.1
  rw [iF _ _ _ _ hlt, if_neg (by omega)]; exact h.mem j hj
theorem RelA.store (hL : L.Ok R S N) (h : RelA L R S N sr sm qr qm) {y x : Nat} (hy : y < L.M) : RelA L R S N sr (sm.set y x) qr (qm.set y x) := by
 have hn := hL.mn
 refine ⟨h.sl, h.ql, h.z, by rw [List.length_set]; exact h.sml, by rw [List.length_set]; exact h.qml, h.rs, fun r hr hr0 => ?_, fun j hj => ?_⟩
 ·have hb := hL.wd r hr hr0
  rw [iF _ _ _ _ (by rw [h.qml]; omega), if_neg (by omega)]; exact h.rm r hr hr0
 ·rw [iF _ _ _ _ (by rw [h.qml]; omega), iF _ _ _ _ (by rw [h.sml]; omega), h.mem j hj]
end
def AtC (cs : List WI) (P : List Nat) (p : Nat) (C : List WI) : Prop := ∀ t i, C[t]? = some i → At cs (p + t) (aJc P cs.length i)
theorem AtC.left {cs : List WI} {P : List Nat} {p : Nat} {A B : List WI} (h : AtC cs P p (A ++ B)) : AtC cs P p A := fun t i ht => h t i (by
 rw [List.getElem?_append_left (List.getElem?_eq_some_iff.1 ht).1]; exact ht)
theorem AtC.right {cs : List WI} {P : List Nat} {p : Nat} {A B : List WI} (h : AtC cs P p (A ++ B)) : AtC cs P (p + A.length) B := fun t i ht => by
 have := h (A.length + t) i (by rw [List.getElem?_append_right (by omega), show A.length + t - A.length = t by omega]; exact ht)
 rw [show p + A.length + t = p + (A.length + t) by omega]; exact this
theorem AtC.get {cs : List WI} {P : List Nat} {p : Nat} {C : List WI} (h : AtC cs P p C) (t : Nat) {i : WI} (ht : C[t]? = some i) (hb : ¬ (i.op = 17 ∨ i.op = 18 ∨ i.op = 19)) : At cs (p + t) i := by
 have := h t i ht
 unfold aJc at this
 rwa [if_neg hb] at this
theorem AtC.head {cs : List WI} {P : List Nat} {p : Nat} {i : WI} {C : List WI} (h : AtC cs P p (i :: C)) (hb : ¬ (i.op = 17 ∨ i.op = 18 ∨ i.op = 19)) : At cs p i := h.get 0 rfl hb
section
variable {L : LY} {R S N : Nat} {sr sm qr qm : List Nat} {cs : List WI} {P : List Nat} {fuel : Int} {p : Nat} {cd : Int} {lk : List (Int × Int)} {st : Nat}
end
structure WI.Good (i : WI) (R n : Nat) : Prop where
 ok2 : i.Ok2 R n
 mem : i.op = 15 ∨ i.op = 16 → 0 ≤ i.k ∧ i.k ≤ 65535
 halt : i.op = 20 → 0 ≤ i.k ∧ i.k ≤ 2
theorem aFA {i : WI} {R n : Int} (h : fZ i R n = none) (hR : 0 ≤ R) : i.Good R.toNat n.toNat := by
 refine ⟨aGE h hR, fun ho => ?_, fun ho => ?_⟩
 ·unfold fZ at h
  by_cases h0 : (gI i.op).isSome = false
  ·rw [if_pos h0] at h; cases h
  rw [if_neg h0] at h
  by_cases h1 : rX (dD i.op) i R = true
  ·rw [if_pos h1] at h; cases h
  rw [if_neg h1] at h
  by_cases h2 : rU (dD i.op) i = true
  ·rw [if_pos h2] at h; cases h
  rw [if_neg h2, if_neg (by omega), if_neg (by omega), if_pos ho] at h
  by_cases h3 : i.k < 0 ∨ 65535 < i.k
  ·rw [if_pos h3] at h; cases h
  ·omega
 ·unfold fZ at h
  by_cases h0 : (gI i.op).isSome = false
  ·rw [if_pos h0] at h; cases h
  rw [if_neg h0] at h
  by_cases h1 : rX (dD i.op) i R = true
  ·rw [if_pos h1] at h; cases h
  rw [if_neg h1] at h
  by_cases h2 : rU (dD i.op) i = true
  ·rw [if_pos h2] at h; cases h
  rw [if_neg h2, if_neg (by omega), if_pos ho] at h
  by_cases h3 : i.k < 0 ∨ 2 < i.k
  ·rw [if_pos h3] at h; cases h
  ·omega
theorem zH {R n : Int} (hR : 0 ≤ R) : ∀ {l : List WI} {j : Nat}, lJ R n l j = .ok → ∀ i ∈ l, i.Good R.toNat n.toNat
 | [], _, _, i, hi => by cases hi
 | x :: l, j, h, i, hi => by
  unfold lJ at h
  split at h
  ·cases h
  ·rename_i ho
   rcases List.mem_cons.1 hi with rfl | hi
   ·exact aFA ho hR
   ·exact zH hR h i hi
theorem oZ {cs : List WI} {R M : Int} (h : fA cs R M = .ok) : ∀ i ∈ cs, i.Good R.toNat cs.length := by
 have hb := (aAp h).1
 unfold fA at h
 rw [if_neg (by omega), if_neg (by omega)] at h
 have := zH hb.1 h
 simpa using this
theorem aHF {op : Int} (h : 1 ≤ op ∧ op ≤ 20) : ((dD op).a = true → op ≠ 17 ∧ op ≠ 20) ∧ ((dD op).b = true → op ≤ 16) ∧ ((dD op).c = true → op ≤ 16) := by
 rcases aCy h with rfl | rfl | rfl | rfl | rfl | rfl | rfl | rfl | rfl | rfl | rfl | rfl | rfl | rfl | rfl | rfl | rfl | rfl | rfl | rfl <;> simp [dD, gI]
theorem aGo {i : WI} {R n : Nat} (h : i.Good R n) : ((dD i.op).a = true → 0 ≤ i.a ∧ i.a < R) ∧ ((dD i.op).b = true → 0 ≤ i.b ∧ i.b < R) ∧ ((dD i.op).c = true → 0 ≤ i.c ∧ i.c < R) := by
 obtain ⟨h1, h2, h3⟩ := aHF h.ok2.ok.op
 exact ⟨fun f => h.ok2.ok.a (h1 f).1 (h1 f).2, fun f => h.ok2.ok.b (h2 f), fun f => h.ok2.ok.c (h3 f)⟩
section
variable {L : LY} {R S N : Nat} {sr sm qr qm : List Nat} {ws : List WI} {fuel : Int} {sa : Nat} {sc cd : Int} {slk lk : List (Int × Int)} {sst st : Nat} {i : WI}
end
section
variable (A : AX) (s : LS) (G : aC) (k : Nat)
end
def H0R (w : WI) (f : Frm) : aA := [⟨100, 6, [gB (dM w.op) f]⟩, ⟨3, 1, []⟩]
theorem aIi (w : WI) (f : Frm) : SB (H0R w f) 1 := ⟨by show 1 < 2; decide, by simp [H0R, bS, bG, aV, gB]⟩
def flR (f : Frm) : AV := .ro false [.bool f.a, .bool f.b, .bool f.c]
def qP (w : WI) (f : Frm) (n j : Nat) : List AV := [.rp false w.v 0, .sl 1 n 0 n 1, flR f, .int .i64 3, Nn j]
def rgR (w : WI) (j : Nat) : Int := if j = 0 then w.a else if j = 1 then w.b else w.c
def fgR (f : Frm) (j : Nat) : Bool := if j = 0 then f.a else if j = 1 then f.b else f.c
section
variable (G : aC) (k : Nat) (self : cK) (w : WI) (f : Frm)
theorem yM (n j : Nat) : bG 2 (qP w f n j) = true := by simp [qP, flR, bG, aV, WI.v]
theorem tX (l : List Nat) : fW (bV l) = true := iN _ (fun _ => rfl) l
theorem aCv (l : List Nat) : jB 1 (bV l) = true := sK 1 _ (fun _ => rfl) l
theorem nZ (op d a b c kk : Int) (H : aA) : cT.f G (k + 6) [WI.v ⟨op, d, a, b, c, kk⟩] [] = some (.tup [I6 (if (dD op).d = true then d else 0), .bool (dD op).d], []) := by
 rw [cT.step]
 unfold cT.c
 have r0 : ∀ H, aJ (dX.f G (k + 5)) [I6 op] H = _ := fun H => aZ (H := H) (tE G (k + 1) op) rfl rfl
 have b0 := aIo (⟨op, d, a, b, c, kk⟩ : WI)
 have f0 := gi0 (⟨op, d, a, b, c, kk⟩ : WI)
 have f1 := gi1 (⟨op, d, a, b, c, kk⟩ : WI)
 have v0 := aEZ G (⟨op, d, a, b, c, kk⟩ : WI)
 have v1 := aIP G (⟨op, d, a, b, c, kk⟩ : WI)
 have b1 : gD 100 (.agg [(.str ⟨#[]⟩), (.bool false), (.bool false), (.bool false), (.bool false), (.bool false)]) [] = some (.ptr 0 1 0 0, [⟨100, 6, [(.agg [(.str ⟨#[]⟩), (.bool false), (.bool false), (.bool false), (.bool false), (.bool false)])]⟩]) := rfl
 obtain ⟨F, hF⟩ : ∃ F, dD op = F := ⟨_, rfl⟩
 rw [hF] at r0 ⊢
 have st : hX (cH 6 (.ptr 0 1 0 0) (gB (dM op) F) [⟨100, 6, [(.agg [(.str ⟨#[]⟩), (.bool false), (.bool false), (.bool false), (.bool false), (.bool false)])]⟩]) = some (.tup [], [⟨100, 6, [gB (dM op) F]⟩]) := rfl
 have ff : aF 1 (.ptr 0 1 0 0) = some (.ptr 0 1 0 1) := rfl
 have vf : aH G false 1 (.ptr 0 1 0 1) [⟨100, 6, [gB (dM op) F]⟩] = some (.bool F.d) := rfl
 have fin : ∀ (x : Int) (b : Bool), cS [I6 x, .bool b] 0 [⟨100, 6, [gB (dM op) F]⟩] = some (.ret, [.tup [I6 x, .bool b]], []) := fun x b => rfl
 have fin1 := fin d true
 have fin2 := fin 0 false
 cases hd : F.d with
 | true =>
  rw [hd] at vf
  rw [if_pos rfl]
  generalize WI.v ⟨op, d, a, b, c, kk⟩ = wv at *
  generalize gB (dM op) F = fv at *
  refine fC ?_
  have fx := aKI r0 <| aKI b0 <| aKI f0 <| aKI f1 <| aKI v0 <| aKI v1 <| aKI b1 <| aKI st <| aKI ff <| vf
  refine eH ?_
  exact oF fin1
 | false =>
  rw [hd] at vf
  rw [if_neg (by decide)]
  generalize WI.v ⟨op, d, a, b, c, kk⟩ = wv at *
  generalize gB (dM op) F = fv at *
  refine fC ?_
  have fx := aKI r0 <| aKI b0 <| aKI f0 <| aKI f1 <| aKI v0 <| aKI v1 <| aKI b1 <| aKI st <| aKI ff <| vf
  refine eH ?_
  exact oF fin2
end
end Go.Proofs.YtlkgkfgkiidhdaaDoor.Mir
