/- Part 8 of the proof: what these functions do. -/
import Derived.Test.YtdfglgnflldkpaaDoorVf7
import Derived.Test.YtdfglgnflldkpaaDoorRows
import Derived.KernelRfl
import Derived.SizedLaws
namespace Go.Proofs.YtdfglgnflldkpaaDoor
open Go Go.ChangeShapes Go.WideShapes Go.RowKit Mir
set_option linter.unusedVariables false
set_option linter.unusedSimpArgs false
namespace Rk
theorem own : ownKnob Tryd.prog.godebug = none := by kernel_rfl
theorem laidOut : laidOutB Tryd.prog = true := by kernel_rfl
theorem aOp : "*" ++ "errors.errorString" = "*errors.errorString" := by decide
theorem row (u : TypeId) (h : Tryd.prog.typeName? 3 u = some "*errors.errorString") : u = 180 :=
 typeName_ptr_named (nm := "errors.errorString") (by rw [aOp]; kernel_rfl) (by kernel_rfl) (by decide) u (by rw [aOp]; exact h)
noncomputable def low : Nat := (World.holding Tryd.prog default ⟨#[], #[], []⟩).heap.size
end Rk
end Go.Proofs.YtdfglgnflldkpaaDoor
namespace Go.Proofs.YtdfglgnflldkpaaDoor.Mir
open Go
set_option linter.unusedSimpArgs false
set_option linter.unusedVariables false
set_option maxHeartbeats 8000000
set_option maxRecDepth 20000
abbrev I6 (n : Int) : AV := .int .i64 n
abbrev Nn (n : Nat) : AV := .int .i64 (n : Int)
abbrev Un (n : Nat) : AV := .int .u64 (n : Int)
abbrev dF (n : Int) : AV := .int .u32 n
structure MI where
 op : Int
 d : Int
 n : Int
 m : Int
 a : Int
 imm : Int
abbrev mV (op d n m a imm : Int) : AV := .agg [I6 op, I6 d, I6 n, I6 m, I6 a, I6 imm]
def MI.v (i : MI) : AV := mV i.op i.d i.n i.m i.a i.imm
structure Form where
 nm : ByteArray
 w : Int
 d : Bool
 n : Bool
 m : Bool
 a : Bool
 b : Int
def Form.v (f : Form) : AV := .agg [.str f.nm, dF f.w, .bool f.d, .bool f.n, .bool f.m, .bool f.a, I6 f.b]
def aO (op : Int) : Form :=
 if op = 1 then ⟨⟨#[109, 111, 118, 122]⟩, 3531603968, true, false, false, true, 16⟩ else
 if op = 2 then ⟨⟨#[109, 111, 118, 107]⟩, 4068474880, true, false, false, true, 16⟩ else
 if op = 3 then ⟨⟨#[97, 100, 100]⟩, 2332033024, true, true, true, false, 0⟩ else
 if op = 4 then ⟨⟨#[115, 117, 98]⟩, 3405774848, true, true, true, false, 0⟩ else
 if op = 5 then ⟨⟨#[97, 110, 100]⟩, 2315255808, true, true, true, false, 0⟩ else
 if op = 6 then ⟨⟨#[111, 114, 114]⟩, 2852126720, true, true, true, false, 0⟩ else
 if op = 7 then ⟨⟨#[101, 111, 114]⟩, 3388997632, true, true, true, false, 0⟩ else
 if op = 8 then ⟨⟨#[109, 97, 100, 100]⟩, 2600468480, true, true, true, true, 0⟩ else
 if op = 9 then ⟨⟨#[117, 109, 117, 108, 104]⟩, 2613083136, true, true, true, false, 0⟩ else
 if op = 10 then ⟨⟨#[97, 100, 100, 105]⟩, 2432696320, true, true, false, false, 12⟩ else
 if op = 11 then ⟨⟨#[115, 117, 98, 105]⟩, 3506438144, true, true, false, false, 12⟩ else
 if op = 12 then ⟨⟨#[108, 115, 108]⟩, 3544186880, true, true, false, false, 6⟩ else
 if op = 13 then ⟨⟨#[108, 115, 114]⟩, 3544186880, true, true, false, false, 6⟩ else
 if op = 14 then ⟨⟨#[97, 115, 114]⟩, 2470509568, true, true, false, false, 6⟩ else
 if op = 15 then ⟨⟨#[99, 109, 112]⟩, 3942645791, false, true, true, false, 0⟩ else
 if op = 16 then ⟨⟨#[99, 115, 101, 108]⟩, 2592079872, true, true, true, true, 0⟩ else
 if op = 17 then ⟨⟨#[99, 115, 101, 116]⟩, 2594113504, true, false, false, true, 0⟩ else
 if op = 18 then ⟨⟨#[108, 100, 114]⟩, 4181721088, true, true, false, false, 12⟩ else
 if op = 19 then ⟨⟨#[115, 116, 114]⟩, 4177526784, true, true, false, false, 12⟩ else
 if op = 20 then ⟨⟨#[98]⟩, 335544320, false, false, false, false, 26⟩ else
 if op = 21 then ⟨⟨#[98, 99, 99]⟩, 1409286144, false, false, false, true, 19⟩ else
 if op = 22 then ⟨⟨#[99, 98, 122]⟩, 3019898880, true, false, false, false, 19⟩ else
 if op = 23 then ⟨⟨#[99, 98, 110, 122]⟩, 3036676096, true, false, false, false, 19⟩ else
 if op = 24 then ⟨⟨#[104, 108, 116]⟩, 3560964096, false, false, false, false, 16⟩ else
 ⟨⟨#[]⟩, 0, false, false, false, false, 0⟩
def kG (op : Int) : Bool := decide (1 ≤ op ∧ op ≤ 24)
theorem yF {op : Int} (h : 1 ≤ op ∧ op ≤ 24) : op = 1 ∨ op = 2 ∨ op = 3 ∨ op = 4 ∨ op = 5 ∨ op = 6 ∨ op = 7 ∨ op = 8 ∨ op = 9 ∨ op = 10 ∨ op = 11 ∨ op = 12 ∨ op = 13 ∨ op = 14 ∨ op = 15 ∨ op = 16 ∨ op = 17 ∨ op = 18 ∨ op = 19 ∨ op = 20 ∨ op = 21 ∨ op = 22 ∨ op = 23 ∨ op = 24 := by omega
theorem pX {op : Int} (h : ¬ (1 ≤ op ∧ op ≤ 24)) : aO op = ⟨⟨#[]⟩, 0, false, false, false, false, 0⟩ := by
 unfold aO
 simp (disch := omega) only [if_neg]
theorem gG (op : Int) : (aO op).b = 0 ∨ (aO op).b = 6 ∨ (aO op).b = 12 ∨ (aO op).b = 16 ∨ (aO op).b = 19 ∨ (aO op).b = 26 := by
 by_cases h : 1 ≤ op ∧ op ≤ 24
 ·rcases yF h with rfl | rfl | rfl | rfl | rfl | rfl | rfl | rfl | rfl | rfl | rfl | rfl | rfl | rfl | rfl | rfl | rfl | rfl | rfl | rfl | rfl | rfl | rfl | rfl <;> simp [aO]
 ·rw [pX h]; simp
theorem aKd (G : aG) (k : Nat) (op : Int) (h : ¬ (1 ≤ op ∧ op ≤ 24)) : fN.f G (k + 4) [I6 op] [] = some (.tup [.agg [.str ⟨#[]⟩, dF 0, .bool false, .bool false, .bool false, .bool false, I6 0], .bool false], []) := by
 have pl : fV.f G (k + 3) [I6 op] [] = some (.tup [.agg [.str ⟨#[]⟩, dF 0, .bool false, .bool false, .bool false, .bool false, I6 0], .bool false], []) := by
  rw [fV.step]
  unfold fV.c
  refine eO ?_
  have fx := True.intro
  refine gI ?_
  all_goals first | omega | (refine oF ?_; rfl)
 rw [fN.step]
 unfold fN.c
 have r : ∀ H, aE (fV.f G (k + 3)) [I6 op] H = _ := fun H => aD (H := H) pl rfl rfl
 refine eO ?_
 have fx := r
 refine gI ?_
 all_goals first | omega | (refine oF ?_; rfl)
theorem iM (G : aG) (k : Nat) (op : Int) : fN.f G (k + 4) [I6 op] [] = some (.tup [(aO op).v, .bool (kG op)], []) := by
 by_cases h : 1 ≤ op ∧ op ≤ 24
 ·rcases yF h with rfl | rfl | rfl | rfl | rfl | rfl | rfl | rfl | rfl | rfl | rfl | rfl | rfl | rfl | rfl | rfl | rfl | rfl | rfl | rfl | rfl | rfl | rfl | rfl <;> (clear h; show _ = _; kernel_rfl)
 ·have e : kG op = false := decide_eq_false h
  rw [pX h, e]
  exact aKd G k op h
def gC (r : Int) (is : Bool) : Bool := decide (r = 0 ∨ (is = true ∧ 0 < r ∧ r ≤ 31))
theorem aAR (G : aG) (k : Nat) (r : Int) (is : Bool) : dZ.f G (k + 1) [I6 r, .bool is] [] = some (.bool (gC r is), []) := by
 rw [dZ.step]
 unfold dZ.c gC
 refine eO ?_
 cases is
 all_goals (
  repeat' first
   | (with_reducible first | refine eT ?_ | refine eN ?_ | refine eS ?_ | refine eXn ?_ | refine eXr ?_ | refine eX ?_ | refine eI ?_ | refine eK ?_ | refine eV0 ?_ | refine sL ?_ | refine sO ?_ | refine sI ?_ | refine sN ?_ | refine sJ ?_ | refine sK ?_)
   | ((with_reducible apply eCn); (simp only [dX, dW]; first | done | (with_reducible exact rfl)))
   | ((with_reducible apply eJ); (rfl))
   | ((with_reducible apply sM); (first | rfl | (simp only [dX, dW]; rfl)))
   | ((with_reducible apply eB); (first | (with_reducible exact rfl) | (simp (disch := omega) only [qa, jP, AV.cells, fH, bA, kX, fK, fM, kL, Nat.reduceLeDiff, Nat.reduceLT, Nat.reduceAdd, ↓reduceIte]; first | done | (with_reducible exact rfl) | (with_reducible exact ⟨rfl, rfl⟩))))
   | ((with_reducible apply eR); (simp only [dX, dW]; (with_reducible exact rfl)))
   | ((with_reducible first | refine tG ?_ ?_ | refine tL ?_ ?_ | refine tK ?_ ?_ | refine tJ ?_ ?_ | refine tI ?_ ?_ | refine tH ?_ ?_ | refine tM ?_ ?_ | refine oG ?_ ?_ | refine sGd ?_ ?_ | refine nY ?_ ?_) <;> intro hq <;> try subst hq)
  all_goals (refine qT ?_; simp; try omega))
def dL (op a : Int) : Bool :=
 if op = 1 ∨ op = 2 then decide (0 ≤ a ∧ a ≤ 3)
 else if op = 16 ∨ op = 17 ∨ op = 21 then decide ((0 ≤ a ∧ a ≤ 3) ∨ a = 8 ∨ a = 9)
 else decide (0 ≤ a ∧ a ≤ 31)
theorem aEA (G : aG) (k : Nat) (op d n m a imm : Int) : fU.f G (k + 1) [mV op d n m a imm] [] = some (.bool (dL op a), []) := by
 rw [fU.step]
 unfold fU.c dL
 refine eO ?_
 by_cases h1 : op = 1 ∨ op = 2
 ·rw [if_pos h1]
  have fx := True.intro
  exact wkC
 rw [if_neg h1]
 by_cases h2 : op = 16 ∨ op = 17 ∨ op = 21
 ·rw [if_pos h2]
  have fx := True.intro
  exact wkC
 rw [if_neg h2]
 have fx := True.intro
 exact wkC
def dM (op d n : Int) : Bool := decide (((op = 10 ∨ op = 11) ∧ (d = 31 ∨ n = 31)) ∨ ((op = 18 ∨ op = 19) ∧ n = 31))
theorem aFi (G : aG) (k : Nat) (op d n m a imm : Int) : fW.f G (k + 1) [mV op d n m a imm] [] = some (.bool (dM op d n), []) := by
 rw [fW.step]
 unfold fW.c dM
 refine eO ?_
 have fx := True.intro
 exact wkC
theorem aEd (G : aG) (k : Nat) (op : Int) : fG.f G (k + 1) [I6 op] [] = some (.bool (decide (20 ≤ op ∧ op ≤ 23)), []) := by
 rw [fG.step]
 unfold fG.c
 refine eO ?_
 have fx := True.intro
 exact wkC
def eU (b : Int) : Int := if b = 6 then 32 else if b = 12 then 2048 else if b = 16 then 32768 else if b = 19 then 262144 else 33554432
def gL (op imm b : Int) : Bool :=
 if b = 0 then decide (imm = 0)
 else if 20 ≤ op ∧ op ≤ 23 then decide (-(eU b) ≤ imm ∧ imm < eU b)
 else decide (0 ≤ imm ∧ imm < 2 * eU b)
theorem aHK (G : aG) (k : Nat) (op d n m a imm b : Int) (hb : b = 0 ∨ b = 6 ∨ b = 12 ∨ b = 16 ∨ b = 19 ∨ b = 26) : hU.f G (k + 2) [mV op d n m a imm, I6 b] [] = some (.bool (gL op imm b), []) := by
 rw [hU.step]
 unfold hU.c gL
 have r : ∀ H, aE (fG.f G (k + 1)) [I6 op] H = _ := fun H => aD (H := H) (aEd G k op) rfl rfl
 refine eO ?_
 by_cases h0 : b = 0
 ·rw [if_pos h0]
  have fx := True.intro
  exact wkC
 rw [if_neg h0]
 have hb' : b = 6 ∨ b = 12 ∨ b = 16 ∨ b = 19 ∨ b = 26 := by omega
 obtain ⟨z, hz, s1, s2, s3, s4⟩ : ∃ z : Int, eU b = z ∧ aQ Tryd.prog .sub 3 true (I6 b) (.int .i64 1) = some (I6 (b - 1)) ∧ aQ Tryd.prog .shl 3 true (.int .i64 1) (I6 (b - 1)) = some (I6 z) ∧ un .neg (I6 z) = some (I6 (-z)) ∧ aQ Tryd.prog .shl 3 true (.int .i64 1) (I6 b) = some (I6 (2 * z)) := by
  clear hb h0 r
  rcases hb' with rfl | rfl | rfl | rfl | rfl
  ·exact ⟨32, rfl, by kernel_rfl, by kernel_rfl, by kernel_rfl, by kernel_rfl⟩
  ·exact ⟨2048, rfl, by kernel_rfl, by kernel_rfl, by kernel_rfl, by kernel_rfl⟩
  ·exact ⟨32768, rfl, by kernel_rfl, by kernel_rfl, by kernel_rfl, by kernel_rfl⟩
  ·exact ⟨262144, rfl, by kernel_rfl, by kernel_rfl, by kernel_rfl, by kernel_rfl⟩
  ·exact ⟨33554432, rfl, by kernel_rfl, by kernel_rfl, by kernel_rfl, by kernel_rfl⟩
 rw [hz]
 clear hz hb hb'
 by_cases hs : 20 ≤ op ∧ op ≤ 23
 ·rw [if_pos hs]
  rw [decide_eq_true hs] at r
  have fx := aPt r <| aPt s1 <| aPt s2 <| aPt s3 <| s4
  exact wkC
 ·rw [if_neg hs]
  rw [decide_eq_false hs] at r
  have fx := aPt r <| aPt s1 <| aPt s2 <| aPt s3 <| s4
  exact wkC
def eQ (i : MI) (f : Form) : Bool :=
 gC i.d f.d && gC i.n f.n && gC i.m f.m && (if f.a = true then dL i.op i.a else decide (i.a = 0)) && gL i.op i.imm f.b && !dM i.op i.d i.n
theorem gF (G : aG) (k : Nat) (op d n m a imm : Int) (f : Form) (hb : f.b = 0 ∨ f.b = 6 ∨ f.b = 12 ∨ f.b = 16 ∨ f.b = 19 ∨ f.b = 26) : dV.f G (k + 3) [mV op d n m a imm, f.v] [] = some (.bool (eQ ⟨op, d, n, m, a, imm⟩ f), []) := by
 obtain ⟨nm, w, fd, fn, fm, fa, fb⟩ := f
 rw [dV.step]
 unfold dV.c eQ Form.v
 have r1 : ∀ r is H, aE (dZ.f G (k + 2)) [I6 r, .bool is] H = _ := fun r is H => aD (H := H) (aAR G (k + 1) r is) rfl rfl
 have r2 : ∀ H, aE (fU.f G (k + 2)) [mV op d n m a imm] H = _ := fun H => aD (H := H) (aEA G (k + 1) op d n m a imm) rfl rfl
 have r3 : ∀ H, aE (hU.f G (k + 2)) [mV op d n m a imm, I6 fb] H = _ := fun H => aD (H := H) (aHK G k op d n m a imm fb hb) rfl rfl
 have r4 : ∀ H, aE (fW.f G (k + 2)) [mV op d n m a imm] H = _ := fun H => aD (H := H) (aFi G (k + 1) op d n m a imm) rfl rfl
 simp only
 generalize gL op imm fb = g3 at *
 generalize dL op a = g2 at *
 generalize dM op d n = g4 at *
 have c1 := r1 d fd
 have c2 := r1 n fn
 have c3 := r1 m fm
 generalize gC d fd = t1 at *
 generalize gC n fn = t2 at *
 generalize gC m fm = t3 at *
 clear r1
 refine eO ?_
 cases t1
 ·have fx := aPt c1 <| aPt c2 <| aPt c3 <| aPt r2 <| aPt r3 <| r4
  refine gI ?_
  exact qT (by simp)
 cases t2
 ·have fx := aPt c1 <| aPt c2 <| aPt c3 <| aPt r2 <| aPt r3 <| r4
  refine gI ?_
  exact qT (by simp)
 cases t3
 ·have fx := aPt c1 <| aPt c2 <| aPt c3 <| aPt r2 <| aPt r3 <| r4
  refine gI ?_
  exact qT (by simp)
 cases fa
 ·by_cases ha : a = 0
  ·subst ha
   cases g3
   ·have fx := aPt c1 <| aPt c2 <| aPt c3 <| aPt r2 <| aPt r3 <| r4
    refine gI ?_
    exact qT (by simp)
   ·cases g4
    ·have fx := aPt c1 <| aPt c2 <| aPt c3 <| aPt r2 <| aPt r3 <| r4
     refine gI ?_
     exact qT (by simp)
    ·have fx := aPt c1 <| aPt c2 <| aPt c3 <| aPt r2 <| aPt r3 <| r4
     refine gI ?_
     exact qT (by simp)
  ·have fx := aPt c1 <| aPt c2 <| aPt c3 <| aPt r2 <| aPt r3 <| r4
   refine gI ?_
   exact qT (by simp [ha])
 ·cases g2
  ·have fx := aPt c1 <| aPt c2 <| aPt c3 <| aPt r2 <| aPt r3 <| r4
   refine gI ?_
   exact qT (by simp)
  ·cases g3
   ·have fx := aPt c1 <| aPt c2 <| aPt c3 <| aPt r2 <| aPt r3 <| r4
    refine gI ?_
    exact qT (by simp)
   ·cases g4
    ·have fx := aPt c1 <| aPt c2 <| aPt c3 <| aPt r2 <| aPt r3 <| r4
     refine gI ?_
     exact qT (by simp)
    ·have fx := aPt c1 <| aPt c2 <| aPt c3 <| aPt r2 <| aPt r3 <| r4
     refine gI ?_
     exact qT (by simp)
def aU (i : MI) : Bool := kG i.op && eQ i (aO i.op)
theorem aOA (x : Int) : aJ .u32 (I6 x) = some (dF (IntKind.u32.wrap x)) := eW ..
theorem rW (a : Nat) (h : a < 4294967296) : (BitVec.ofInt 32 (a : Int)).toNat = a := by
 rw [BitVec.toNat_ofInt]
 omega
theorem aNb (a b : Nat) (ha : a < 4294967296) (hb : b < 4294967296) : IntKind.u32.wrap ((BitVec.ofInt 32 (a : Int) ||| BitVec.ofInt 32 (b : Int)).toNat : Int) = ((a ||| b : Nat) : Int) := by
 have hx : a ||| b < 2 ^ 32 := Nat.or_lt_two_pow (by omega) (by omega)
 rw [BitVec.toNat_or, rW a ha, rW b hb, nF (by omega) (by omega)]
theorem aKK (a b : Nat) (ha : a < 4294967296) (hb : b < 4294967296) : bits .and .u32 (a : Int) (b : Int) = ((a &&& b : Nat) : Int) := by
 have hx : a &&& b ≤ a := Nat.and_le_left
 show IntKind.u32.wrap ((BitVec.ofInt 32 (a : Int) &&& BitVec.ofInt 32 (b : Int)).toNat : Int) = _
 rw [BitVec.toNat_and, rW a ha, rW b hb, nF (by omega) (by omega)]
theorem aId {x y : Nat} (h : x &&& y = 0) (hb : x + y < 2 ^ 64) : x ||| y = x + y := by
 have e : (BitVec.ofNat 64 x &&& BitVec.ofNat 64 y) = 0#64 := by
  apply BitVec.eq_of_toNat_eq
  rw [BitVec.toNat_and, BitVec.toNat_ofNat, BitVec.toNat_ofNat, Nat.mod_eq_of_lt (by omega), Nat.mod_eq_of_lt (by omega), h]
  rfl
 have h2 := BitVec.add_eq_or_of_and_eq_zero _ _ e
 have h3 := congrArg BitVec.toNat h2
 rw [BitVec.toNat_add, BitVec.toNat_or, BitVec.toNat_ofNat, BitVec.toNat_ofNat, Nat.mod_eq_of_lt (show x < 2 ^ 64 by omega), Nat.mod_eq_of_lt (show y < 2 ^ 64 by omega), Nat.mod_eq_of_lt hb] at h3
 exact h3.symm
def dj (x y : Int) : Prop := 0 ≤ x ∧ 0 ≤ y ∧ x.toNat &&& y.toNat = 0
theorem gJ {x v p q : Int} (s w : Nat) (hp : p = ((2 ^ s : Nat) : Int)) (hq : q = ((2 ^ w : Nat) : Int)) (x0 : 0 ≤ x) (v0 : 0 ≤ v) (v1 : v < q) (hz : x / p % q = 0) : dj x (v * p) := by
 obtain ⟨X, rfl⟩ : ∃ X : Nat, x = X := ⟨x.toNat, by omega⟩
 obtain ⟨V, rfl⟩ : ∃ V : Nat, v = V := ⟨v.toNat, by omega⟩
 subst hp; subst hq
 have hV : V < 2 ^ w := by exact_mod_cast v1
 have hZ : X / 2 ^ s % 2 ^ w = 0 := by exact_mod_cast hz
 refine ⟨x0, by exact_mod_cast Nat.zero_le (V * 2 ^ s), ?_⟩
 have e : ((V : Int) * ((2 ^ s : Nat) : Int)).toNat = V * 2 ^ s := by rw [← Int.natCast_mul]; rfl
 rw [e, Int.toNat_natCast]
 apply Nat.eq_of_testBit_eq
 intro j
 rw [Nat.testBit_and, Nat.testBit_mul_two_pow, Nat.zero_testBit]
 by_cases hs : s ≤ j
 ·by_cases hw : j - s < w
  ·have h1 : (X / 2 ^ s % 2 ^ w).testBit (j - s) = X.testBit j := by
    rw [Nat.testBit_mod_two_pow, Nat.testBit_div_two_pow, Nat.sub_add_cancel hs]; simp [hw]
   rw [hZ, Nat.zero_testBit] at h1
   rw [← h1]; rfl
  ·have h1 : V.testBit (j - s) = false := Nat.testBit_lt_two_pow (Nat.lt_of_lt_of_le hV (Nat.pow_le_pow_right (by decide) (by omega)))
   rw [h1]; simp
 ·simp [hs]
theorem zL {x y z : Int} (h1 : dj x y) (h2 : dj x z) (h3 : dj y z) (hb : y + z < 18446744073709551616) : dj x (y + z) := by
 obtain ⟨x0, y0, h1⟩ := h1
 obtain ⟨_, z0, h2⟩ := h2
 obtain ⟨_, _, h3⟩ := h3
 refine ⟨x0, by omega, ?_⟩
 have e : (y + z).toNat = y.toNat + z.toNat := by omega
 rw [e, ← aId h3 (by omega), Nat.and_or_distrib_left, h1, h2]
 rfl
theorem kR (P : Program) (t : Nat) (c : Bool) {x y : Int} (h : dj x y) (hb : x + y < 4294967296) : aQ P .or t c (dF x) (dF y) = some (dF (x + y)) := by
 obtain ⟨x0, y0, h⟩ := h
 obtain ⟨X, rfl⟩ : ∃ X : Nat, x = X := ⟨x.toNat, by omega⟩
 obtain ⟨Y, rfl⟩ : ∃ Y : Nat, y = Y := ⟨y.toNat, by omega⟩
 rw [Int.toNat_natCast, Int.toNat_natCast] at h
 rw [aBU]
 show some (AV.int .u32 (IntKind.u32.wrap ((BitVec.ofInt 32 (X : Int) ||| BitVec.ofInt 32 (Y : Int)).toNat : Int))) = _
 rw [aNb X Y (by omega) (by omega), aId h (by omega)]
 rfl
theorem dG (P : Program) (t : Nat) (c : Bool) {x v p q : Int} (s w : Nat) (hp : p = ((2 ^ s : Nat) : Int)) (hq : q = ((2 ^ w : Nat) : Int)) (x0 : 0 ≤ x) (v0 : 0 ≤ v) (v1 : v < q) (hz : x / p % q = 0) (hb : x + v * p < 4294967296) :
  aQ P .or t c (dF x) (dF (v * p)) = some (dF (x + v * p)) := kR P t c (gJ s w hp hq x0 v0 v1 hz) hb
theorem gT (P : Program) (t : Nat) (c : Bool) {x v q : Int} (w : Nat) (hq : q = ((2 ^ w : Nat) : Int)) (x0 : 0 ≤ x) (v0 : 0 ≤ v) (v1 : v < q) (hz : x % q = 0) (hb : x + v < 4294967296) :
  aQ P .or t c (dF x) (dF v) = some (dF (x + v)) := by
 have h := gJ (x := x) (v := v) (p := 1) 0 w rfl hq x0 v0 v1 (by rw [Int.ediv_one]; exact hz)
 rw [Int.mul_one] at h
 exact kR P t c h hb
theorem jC (P : Program) (t : Nat) (c : Bool) {x q : Int} (w : Nat) (hw : w ≤ 31) (hq : q = ((2 ^ w - 1 : Nat) : Int)) (x0 : 0 ≤ x) (x1 : x < 4294967296) : aQ P .and t c (dF x) (dF q) = some (dF (x % (q + 1))) := by
 obtain ⟨X, rfl⟩ : ∃ X : Nat, x = X := ⟨x.toNat, by omega⟩
 have hl : 2 ^ w ≤ 2 ^ 31 := Nat.pow_le_pow_right (by decide) hw
 have hl' : 0 < 2 ^ w := Nat.two_pow_pos w
 rw [oR, hq, aKK X _ (by omega) (by omega), Nat.and_two_pow_sub_one_eq_mod]
 congr 2
 have e : ((2 ^ w - 1 : Nat) : Int) + 1 = ((2 ^ w : Nat) : Int) := by omega
 rw [e]; rfl
theorem cW (P : Program) (t : Nat) (c : Bool) {v p b : Int} (s : Nat) (hb : b = (s : Int)) (hs : s ≤ 32) (hp : p = ((2 ^ s : Nat) : Int)) (h0 : 0 ≤ v * p) (h1 : v * p < 4294967296) : aQ P .shl t c (dF v) (.int .u64 b) = some (dF (v * p)) := by
 subst hb
 rw [aFB _ _ _ _ _ _ _ (Int.natCast_nonneg s), Int.toNat_natCast]
 have e : min s IntKind.u32.bits = s := Nat.min_eq_left hs
 have e2 : ((2 : Int) ^ s) = p := by rw [hp]; exact_mod_cast rfl
 rw [e, e2, nF h0 h1]
def fC (op a imm : Int) : Int :=
 if op = 1 ∨ op = 2 then a * 2097152 + imm * 32
 else if op = 8 then a * 1024
 else if op = 16 then a * 4096
 else if op = 17 then (if a % 2 = 0 then a + 1 else a - 1) * 4096
 else if op = 10 ∨ op = 11 ∨ op = 18 ∨ op = 19 then imm * 1024
 else if op = 12 then (64 - imm) % 64 * 65536 + (63 - imm) * 1024
 else if op = 13 then imm * 65536 + 64512
 else if op = 14 then imm * 65536
 else if op = 20 then imm % 67108864
 else if op = 21 then a + imm % 524288 * 32
 else if op = 22 ∨ op = 23 then imm % 524288 * 32
 else if op = 24 then imm * 32
 else 0
def cS (i : MI) : Int := (aO i.op).w + i.d + i.n * 32 + i.m * 65536 + fC i.op i.a i.imm
theorem aOS (P : Program) (t : Nat) (c : Bool) {a : Int} (h0 : 0 ≤ a) (h1 : a ≤ 9) : aQ P .xor t c (dF a) (.int .u32 1) = some (dF (if a % 2 = 0 then a + 1 else a - 1)) := by
 have h : a = 0 ∨ a = 1 ∨ a = 2 ∨ a = 3 ∨ a = 4 ∨ a = 5 ∨ a = 6 ∨ a = 7 ∨ a = 8 ∨ a = 9 := by omega
 rcases h with rfl | rfl | rfl | rfl | rfl | rfl | rfl | rfl | rfl | rfl <;> (clear h0 h1; show _ = _; kernel_rfl)
theorem aLD (P : Program) (t : Nat) (c : Bool) {a : Int} (h0 : 0 ≤ a) : aQ P .rem t c (dF a) (.int .u32 64) = some (dF (a % 64)) := by
 rw [aBV _ _ _ _ _ _ (by decide), Int.tmod_eq_emod_of_nonneg h0]
theorem aGz (P : Program) (t : Nat) (c : Bool) {a b : Int} (h0 : b ≤ a) (h1 : 0 ≤ b) (h2 : a < 4294967296) : aQ P .sub t c (dF a) (dF b) = some (dF (a - b)) := by
 rw [yJ, nF (by omega) (by omega)]
theorem cvM (x : Int) : aJ .u32 (I6 x) = some (dF (x % 4294967296)) := by rw [aOA, aEn]
theorem fJ (G : aG) (k : Nat) (i : MI) (h : aU i = true) : cP.f G (k + 1) [i.v] [] = some (dF (fC i.op i.a i.imm), []) := by
 obtain ⟨op, d, n, m, a, imm⟩ := i
 show cP.f G (k + 1) [mV op d n m a imm] [] = _
 unfold aU at h
 rw [Bool.and_eq_true] at h
 have h24 : 1 ≤ op ∧ op ≤ 24 := of_decide_eq_true h.1
 obtain ⟨_, h⟩ := h
 rw [cP.step]
 unfold cP.c
 simp only
 refine eO ?_
 rcases yF h24 with rfl | rfl | rfl | rfl | rfl | rfl | rfl | rfl | rfl | rfl | rfl | rfl | rfl | rfl | rfl | rfl | rfl | rfl | rfl | rfl | rfl | rfl | rfl | rfl
 all_goals (simp [aO, eQ, gC, dL, gL, eU, dM] at h)
 ·
  have s1 := cW Tryd.prog 71 true (v := a) (p := 2097152) (b := 21) 21 rfl (by decide) rfl (by omega) (by omega)
  have s2 := cW Tryd.prog 71 true (v := imm) (p := 32) (b := 5) 5 rfl (by decide) rfl (by omega) (by omega)
  have s3 := dG Tryd.prog 71 false (x := a * 2097152) (v := imm) (p := 32) (q := 65536) 5 16 rfl rfl (by omega) (by omega) (by omega) (by omega) (by omega)
  have fx := aPt s1 <| aPt s2 <| s3
  refine gI ?_
  exact tP rfl
 ·
  have s1 := cW Tryd.prog 71 true (v := a) (p := 2097152) (b := 21) 21 rfl (by decide) rfl (by omega) (by omega)
  have s2 := cW Tryd.prog 71 true (v := imm) (p := 32) (b := 5) 5 rfl (by decide) rfl (by omega) (by omega)
  have s3 := dG Tryd.prog 71 false (x := a * 2097152) (v := imm) (p := 32) (q := 65536) 5 16 rfl rfl (by omega) (by omega) (by omega) (by omega) (by omega)
  have fx := aPt s1 <| aPt s2 <| s3
  refine gI ?_
  exact tP rfl
 ·
  have fx := True.intro
  refine gI ?_
  exact tP rfl
 ·
  have fx := True.intro
  refine gI ?_
  exact tP rfl
 ·
  have fx := True.intro
  refine gI ?_
  exact tP rfl
 ·
  have fx := True.intro
  refine gI ?_
  exact tP rfl
 ·
  have fx := True.intro
  refine gI ?_
  exact tP rfl
 ·
  have s1 := cW Tryd.prog 71 true (v := a) (p := 1024) (b := 10) 10 rfl (by decide) rfl (by omega) (by omega)
  have fx := s1
  refine gI ?_
  exact tP rfl
 ·
  have fx := True.intro
  refine gI ?_
  exact tP rfl
 ·
  have s1 := cW Tryd.prog 71 true (v := imm) (p := 1024) (b := 10) 10 rfl (by decide) rfl (by omega) (by omega)
  have fx := s1
  refine gI ?_
  exact tP rfl
 ·
  have s1 := cW Tryd.prog 71 true (v := imm) (p := 1024) (b := 10) 10 rfl (by decide) rfl (by omega) (by omega)
  have fx := s1
  refine gI ?_
  exact tP rfl
 ·
  have s0 := aGz Tryd.prog 71 true (a := 64) (b := imm) (by omega) (by omega) (by omega)
  have s1 := aLD Tryd.prog 71 true (a := 64 - imm) (by omega)
  have s2 := cW Tryd.prog 71 true (v := (64 - imm) % 64) (p := 65536) (b := 16) 16 rfl (by decide) rfl (by omega) (by omega)
  have s3 := aGz Tryd.prog 71 true (a := 63) (b := imm) (by omega) (by omega) (by omega)
  have s4 := cW Tryd.prog 71 true (v := 63 - imm) (p := 1024) (b := 10) 10 rfl (by decide) rfl (by omega) (by omega)
  have s5 := dG Tryd.prog 71 false (x := (64 - imm) % 64 * 65536) (v := 63 - imm) (p := 1024) (q := 64) 10 6 rfl rfl (by omega) (by omega) (by omega) (by omega) (by omega)
  have fx := aPt s0 <| aPt s1 <| aPt s2 <| aPt s3 <| aPt s4 <| s5
  refine gI ?_
  exact tP rfl
 ·
  have s1 := cW Tryd.prog 71 true (v := imm) (p := 65536) (b := 16) 16 rfl (by decide) rfl (by omega) (by omega)
  have s2 : aQ Tryd.prog .or 71 true (dF (imm * 65536)) (.int .u32 64512) = some (dF (imm * 65536 + 64512)) := dG Tryd.prog 71 true (x := imm * 65536) (v := 63) (p := 1024) (q := 64) 10 6 rfl rfl (by omega) (by omega) (by omega) (by omega) (by omega)
  have fx := aPt s1 <| s2
  refine gI ?_
  exact tP rfl
 ·
  have s1 := cW Tryd.prog 71 true (v := imm) (p := 65536) (b := 16) 16 rfl (by decide) rfl (by omega) (by omega)
  have fx := s1
  refine gI ?_
  exact tP rfl
 ·
  have fx := True.intro
  refine gI ?_
  exact tP rfl
 ·
  have s1 := cW Tryd.prog 71 true (v := a) (p := 4096) (b := 12) 12 rfl (by decide) rfl (by omega) (by omega)
  have fx := s1
  refine gI ?_
  exact tP rfl
 ·
  have s0 := aOS Tryd.prog 71 true (a := a) (by omega) (by omega)
  have s1 := cW Tryd.prog 71 true (v := (if a % 2 = 0 then a + 1 else a - 1)) (p := 4096) (b := 12) 12 rfl (by decide) rfl (by split <;> omega) (by split <;> omega)
  have fx := aPt s0 <| s1
  refine gI ?_
  exact tP rfl
 ·
  have s1 := cW Tryd.prog 71 true (v := imm) (p := 1024) (b := 10) 10 rfl (by decide) rfl (by omega) (by omega)
  have fx := s1
  refine gI ?_
  exact tP rfl
 ·
  have s1 := cW Tryd.prog 71 true (v := imm) (p := 1024) (b := 10) 10 rfl (by decide) rfl (by omega) (by omega)
  have fx := s1
  refine gI ?_
  exact tP rfl
 ·
  have s1 : aQ Tryd.prog .and 71 true (dF (imm % 4294967296)) (.int .u32 67108863) = some (dF (imm % 67108864)) := by
   have := jC Tryd.prog 71 true (x := imm % 4294967296) (q := 67108863) 26 (by decide) rfl (by omega) (by omega)
   rw [this]; congr 2; omega
  have fx := aPt cvM <| s1
  refine gI ?_
  exact tP rfl
 ·
  have s1 : aQ Tryd.prog .and 71 true (dF (imm % 4294967296)) (.int .u32 524287) = some (dF (imm % 524288)) := by
   have := jC Tryd.prog 71 true (x := imm % 4294967296) (q := 524287) 19 (by decide) rfl (by omega) (by omega)
   rw [this]; congr 2; omega
  have s2 := cW Tryd.prog 71 true (v := imm % 524288) (p := 32) (b := 5) 5 rfl (by decide) rfl (by omega) (by omega)
  have s3 := dG Tryd.prog 71 false (x := a) (v := imm % 524288) (p := 32) (q := 524288) 5 19 rfl rfl (by omega) (by omega) (by omega) (by omega) (by omega)
  have s4 : aJ .u32 (I6 a) = some (dF a) := bD (by omega) (by omega)
  have fx := aPt s4 <| aPt cvM <| aPt s1 <| aPt s2 <| s3
  refine gI ?_
  exact tP rfl
 ·
  have s1 : aQ Tryd.prog .and 71 true (dF (imm % 4294967296)) (.int .u32 524287) = some (dF (imm % 524288)) := by
   have := jC Tryd.prog 71 true (x := imm % 4294967296) (q := 524287) 19 (by decide) rfl (by omega) (by omega)
   rw [this]; congr 2; omega
  have s2 := cW Tryd.prog 71 true (v := imm % 524288) (p := 32) (b := 5) 5 rfl (by decide) rfl (by omega) (by omega)
  have s3 : aQ Tryd.prog .or 71 false (.int .u32 0) (dF (imm % 524288 * 32)) = some (dF (0 + imm % 524288 * 32)) := dG Tryd.prog 71 false (x := 0) (v := imm % 524288) (p := 32) (q := 524288) 5 19 rfl rfl (by omega) (by omega) (by omega) (by omega) (by omega)
  have s4 : aJ .u32 (I6 a) = some (.int .u32 0) := by rw [show a = 0 by omega]; rfl
  have fx := aPt s4 <| aPt cvM <| aPt s1 <| aPt s2 <| s3
  refine gI ?_
  exact tP (Int.zero_add _)
 ·
  have s1 : aQ Tryd.prog .and 71 true (dF (imm % 4294967296)) (.int .u32 524287) = some (dF (imm % 524288)) := by
   have := jC Tryd.prog 71 true (x := imm % 4294967296) (q := 524287) 19 (by decide) rfl (by omega) (by omega)
   rw [this]; congr 2; omega
  have s2 := cW Tryd.prog 71 true (v := imm % 524288) (p := 32) (b := 5) 5 rfl (by decide) rfl (by omega) (by omega)
  have s3 : aQ Tryd.prog .or 71 false (.int .u32 0) (dF (imm % 524288 * 32)) = some (dF (0 + imm % 524288 * 32)) := dG Tryd.prog 71 false (x := 0) (v := imm % 524288) (p := 32) (q := 524288) 5 19 rfl rfl (by omega) (by omega) (by omega) (by omega) (by omega)
  have s4 : aJ .u32 (I6 a) = some (.int .u32 0) := by rw [show a = 0 by omega]; rfl
  have fx := aPt s4 <| aPt cvM <| aPt s1 <| aPt s2 <| s3
  refine gI ?_
  exact tP (Int.zero_add _)
 ·
  have s1 := cW Tryd.prog 71 true (v := imm) (p := 32) (b := 5) 5 rfl (by decide) rfl (by omega) (by omega)
  have fx := s1
  refine gI ?_
  exact tP rfl
theorem pW {x : Int} (h : 0 ≤ x) : dj x 0 := ⟨h, by decide, by simp⟩
def oO (i : MI) : Int := if aU i = true then cS i else 0
theorem aNl (G : aG) (k : Nat) (d n m a imm : Int) (h : aU ⟨1, d, n, m, a, imm⟩ = true) : bB.f G (k + 5) [mV 1 d n m a imm] [] = some (.tup [dF (cS ⟨1, d, n, m, a, imm⟩), .bool true], []) := by
 have r1 : ∀ H, aE (fN.f G (k + 4)) [.int .i64 1] H = _ := fun H => aD (H := H) (iM G k 1) rfl rfl
 have r2 : ∀ H, aE (dV.f G (k + 4)) [mV 1 d n m a imm, (aO 1).v] H = _ := fun H => aD (H := H) (gF G (k + 1) 1 d n m a imm (aO 1) (gG 1)) rfl rfl
 have r3 : ∀ H, aE (cP.f G (k + 4)) [mV 1 d n m a imm] H = _ := fun H => aD (H := H) (fJ G (k + 3) ⟨1, d, n, m, a, imm⟩ h) rfl rfl
 unfold aU at h
 rw [Bool.and_eq_true] at h
 obtain ⟨_, h⟩ := h
 simp only at h
 rw [h] at r2
 simp [aO, eQ, gC, dL, gL, eU, dM] at h
 have c1 : aJ .u32 (I6 d) = some (dF d) := bD (by omega) (by omega)
 have c2 : aJ .u32 (I6 n) = some (dF n) := bD (by omega) (by omega)
 have c3 : aJ .u32 (I6 m) = some (dF m) := bD (by omega) (by omega)
 have s1 := cW Tryd.prog 71 true (v := n) (p := 32) (b := 5) 5 rfl (by decide) rfl (by omega) (by omega)
 have s2 := cW Tryd.prog 71 true (v := m) (p := 65536) (b := 16) 16 rfl (by decide) rfl (by omega) (by omega)
 have o1 := gT Tryd.prog 71 false (x := 3531603968) (v := d) (q := 32) 5 rfl (by omega) (by omega) (by omega) (by omega) (by omega)
 have o2 := dG Tryd.prog 71 false (x := 3531603968 + d) (v := n) (p := 32) (q := 1) 5 0 rfl rfl (by omega) (by omega) (by omega) (by omega) (by omega)
 have o3 := dG Tryd.prog 71 false (x := 3531603968 + d + n * 32) (v := m) (p := 65536) (q := 1) 16 0 rfl rfl (by omega) (by omega) (by omega) (by omega) (by omega)
 have e4 : fC 1 a imm = a * 2097152 + imm * 32 := rfl
 have o4 : aQ Tryd.prog .or 71 false (dF (3531603968 + d + n * 32 + m * 65536)) (dF (fC 1 a imm)) = some (dF (3531603968 + d + n * 32 + m * 65536 + fC 1 a imm)) := by
  rw [e4]
  exact kR Tryd.prog 71 false (zL (gJ (x := 3531603968 + d + n * 32 + m * 65536) (v := a) (p := 2097152) (q := 4) 21 2 rfl rfl (by omega) (by omega) (by omega) (by omega)) (gJ (x := 3531603968 + d + n * 32 + m * 65536) (v := imm) (p := 32) (q := 65536) 5 16 rfl rfl (by omega) (by omega) (by omega) (by omega)) (gJ (x := a * 2097152) (v := imm) (p := 32) (q := 65536) 5 16 rfl rfl (by omega) (by omega) (by omega) (by omega)) (by omega)) (by omega)
 have ef : aO 1 = ⟨(aO 1).nm, 3531603968, true, false, false, (aO 1).a, (aO 1).b⟩ := rfl
 have eo : kG 1 = true := rfl
 have ew : cS ⟨1, d, n, m, a, imm⟩ = 3531603968 + d + n * 32 + m * 65536 + fC 1 a imm := rfl
 rw [ew]
 rw [eo, ef] at r1
 rw [ef] at r2
 rw [bB.step]
 unfold bB.c
 unfold Form.v at r1 r2
 clear e4 ef eo h ew
 generalize (aO 1).nm = nm at *
 generalize (aO 1).a = fa at *
 generalize (aO 1).b = fb at *
 generalize fC 1 a imm = z at *
 refine eO ?_
 have fx := aPt r1 <| aPt r2 <| aPt r3 <| aPt c1 <| aPt c2 <| aPt c3 <| aPt s1 <| aPt s2 <| aPt o1 <| aPt o2 <| aPt o3 <| o4
 refine gI ?_
 exact w2 rfl rfl rfl
theorem aNm (G : aG) (k : Nat) (d n m a imm : Int) (h : aU ⟨2, d, n, m, a, imm⟩ = true) : bB.f G (k + 5) [mV 2 d n m a imm] [] = some (.tup [dF (cS ⟨2, d, n, m, a, imm⟩), .bool true], []) := by
 have r1 : ∀ H, aE (fN.f G (k + 4)) [.int .i64 2] H = _ := fun H => aD (H := H) (iM G k 2) rfl rfl
 have r2 : ∀ H, aE (dV.f G (k + 4)) [mV 2 d n m a imm, (aO 2).v] H = _ := fun H => aD (H := H) (gF G (k + 1) 2 d n m a imm (aO 2) (gG 2)) rfl rfl
 have r3 : ∀ H, aE (cP.f G (k + 4)) [mV 2 d n m a imm] H = _ := fun H => aD (H := H) (fJ G (k + 3) ⟨2, d, n, m, a, imm⟩ h) rfl rfl
 unfold aU at h
 rw [Bool.and_eq_true] at h
 obtain ⟨_, h⟩ := h
 simp only at h
 rw [h] at r2
 simp [aO, eQ, gC, dL, gL, eU, dM] at h
 have c1 : aJ .u32 (I6 d) = some (dF d) := bD (by omega) (by omega)
 have c2 : aJ .u32 (I6 n) = some (dF n) := bD (by omega) (by omega)
 have c3 : aJ .u32 (I6 m) = some (dF m) := bD (by omega) (by omega)
 have s1 := cW Tryd.prog 71 true (v := n) (p := 32) (b := 5) 5 rfl (by decide) rfl (by omega) (by omega)
 have s2 := cW Tryd.prog 71 true (v := m) (p := 65536) (b := 16) 16 rfl (by decide) rfl (by omega) (by omega)
 have o1 := gT Tryd.prog 71 false (x := 4068474880) (v := d) (q := 32) 5 rfl (by omega) (by omega) (by omega) (by omega) (by omega)
 have o2 := dG Tryd.prog 71 false (x := 4068474880 + d) (v := n) (p := 32) (q := 1) 5 0 rfl rfl (by omega) (by omega) (by omega) (by omega) (by omega)
 have o3 := dG Tryd.prog 71 false (x := 4068474880 + d + n * 32) (v := m) (p := 65536) (q := 1) 16 0 rfl rfl (by omega) (by omega) (by omega) (by omega) (by omega)
 have e4 : fC 2 a imm = a * 2097152 + imm * 32 := rfl
 have o4 : aQ Tryd.prog .or 71 false (dF (4068474880 + d + n * 32 + m * 65536)) (dF (fC 2 a imm)) = some (dF (4068474880 + d + n * 32 + m * 65536 + fC 2 a imm)) := by
  rw [e4]
  exact kR Tryd.prog 71 false (zL (gJ (x := 4068474880 + d + n * 32 + m * 65536) (v := a) (p := 2097152) (q := 4) 21 2 rfl rfl (by omega) (by omega) (by omega) (by omega)) (gJ (x := 4068474880 + d + n * 32 + m * 65536) (v := imm) (p := 32) (q := 65536) 5 16 rfl rfl (by omega) (by omega) (by omega) (by omega)) (gJ (x := a * 2097152) (v := imm) (p := 32) (q := 65536) 5 16 rfl rfl (by omega) (by omega) (by omega) (by omega)) (by omega)) (by omega)
 have ef : aO 2 = ⟨(aO 2).nm, 4068474880, true, false, false, (aO 2).a, (aO 2).b⟩ := rfl
 have eo : kG 2 = true := rfl
 have ew : cS ⟨2, d, n, m, a, imm⟩ = 4068474880 + d + n * 32 + m * 65536 + fC 2 a imm := rfl
 rw [ew]
 rw [eo, ef] at r1
 rw [ef] at r2
 rw [bB.step]
 unfold bB.c
 unfold Form.v at r1 r2
 clear e4 ef eo h ew
 generalize (aO 2).nm = nm at *
 generalize (aO 2).a = fa at *
 generalize (aO 2).b = fb at *
 generalize fC 2 a imm = z at *
 refine eO ?_
 have fx := aPt r1 <| aPt r2 <| aPt r3 <| aPt c1 <| aPt c2 <| aPt c3 <| aPt s1 <| aPt s2 <| aPt o1 <| aPt o2 <| aPt o3 <| o4
 refine gI ?_
 exact w2 rfl rfl rfl
theorem aNn (G : aG) (k : Nat) (d n m a imm : Int) (h : aU ⟨3, d, n, m, a, imm⟩ = true) : bB.f G (k + 5) [mV 3 d n m a imm] [] = some (.tup [dF (cS ⟨3, d, n, m, a, imm⟩), .bool true], []) := by
 have r1 : ∀ H, aE (fN.f G (k + 4)) [.int .i64 3] H = _ := fun H => aD (H := H) (iM G k 3) rfl rfl
 have r2 : ∀ H, aE (dV.f G (k + 4)) [mV 3 d n m a imm, (aO 3).v] H = _ := fun H => aD (H := H) (gF G (k + 1) 3 d n m a imm (aO 3) (gG 3)) rfl rfl
 have r3 : ∀ H, aE (cP.f G (k + 4)) [mV 3 d n m a imm] H = _ := fun H => aD (H := H) (fJ G (k + 3) ⟨3, d, n, m, a, imm⟩ h) rfl rfl
 unfold aU at h
 rw [Bool.and_eq_true] at h
 obtain ⟨_, h⟩ := h
 simp only at h
 rw [h] at r2
 simp [aO, eQ, gC, dL, gL, eU, dM] at h
 have c1 : aJ .u32 (I6 d) = some (dF d) := bD (by omega) (by omega)
 have c2 : aJ .u32 (I6 n) = some (dF n) := bD (by omega) (by omega)
 have c3 : aJ .u32 (I6 m) = some (dF m) := bD (by omega) (by omega)
 have s1 := cW Tryd.prog 71 true (v := n) (p := 32) (b := 5) 5 rfl (by decide) rfl (by omega) (by omega)
 have s2 := cW Tryd.prog 71 true (v := m) (p := 65536) (b := 16) 16 rfl (by decide) rfl (by omega) (by omega)
 have o1 := gT Tryd.prog 71 false (x := 2332033024) (v := d) (q := 32) 5 rfl (by omega) (by omega) (by omega) (by omega) (by omega)
 have o2 := dG Tryd.prog 71 false (x := 2332033024 + d) (v := n) (p := 32) (q := 32) 5 5 rfl rfl (by omega) (by omega) (by omega) (by omega) (by omega)
 have o3 := dG Tryd.prog 71 false (x := 2332033024 + d + n * 32) (v := m) (p := 65536) (q := 32) 16 5 rfl rfl (by omega) (by omega) (by omega) (by omega) (by omega)
 have e4 : fC 3 a imm = 0 := rfl
 have o4 : aQ Tryd.prog .or 71 false (dF (2332033024 + d + n * 32 + m * 65536)) (dF (fC 3 a imm)) = some (dF (2332033024 + d + n * 32 + m * 65536 + fC 3 a imm)) := by
  rw [e4]
  exact kR Tryd.prog 71 false (pW (x := 2332033024 + d + n * 32 + m * 65536) (by omega)) (by omega)
 have ef : aO 3 = ⟨(aO 3).nm, 2332033024, true, true, true, (aO 3).a, (aO 3).b⟩ := rfl
 have eo : kG 3 = true := rfl
 have ew : cS ⟨3, d, n, m, a, imm⟩ = 2332033024 + d + n * 32 + m * 65536 + fC 3 a imm := rfl
 rw [ew]
 rw [eo, ef] at r1
 rw [ef] at r2
 rw [bB.step]
 unfold bB.c
 unfold Form.v at r1 r2
 clear e4 ef eo h ew
 generalize (aO 3).nm = nm at *
 generalize (aO 3).a = fa at *
 generalize (aO 3).b = fb at *
 generalize fC 3 a imm = z at *
 refine eO ?_
 have fx := aPt r1 <| aPt r2 <| aPt r3 <| aPt c1 <| aPt c2 <| aPt c3 <| aPt s1 <| aPt s2 <| aPt o1 <| aPt o2 <| aPt o3 <| o4
 refine gI ?_
 exact w2 rfl rfl rfl
theorem aNo (G : aG) (k : Nat) (d n m a imm : Int) (h : aU ⟨4, d, n, m, a, imm⟩ = true) : bB.f G (k + 5) [mV 4 d n m a imm] [] = some (.tup [dF (cS ⟨4, d, n, m, a, imm⟩), .bool true], []) := by
 have r1 : ∀ H, aE (fN.f G (k + 4)) [.int .i64 4] H = _ := fun H => aD (H := H) (iM G k 4) rfl rfl
 have r2 : ∀ H, aE (dV.f G (k + 4)) [mV 4 d n m a imm, (aO 4).v] H = _ := fun H => aD (H := H) (gF G (k + 1) 4 d n m a imm (aO 4) (gG 4)) rfl rfl
 have r3 : ∀ H, aE (cP.f G (k + 4)) [mV 4 d n m a imm] H = _ := fun H => aD (H := H) (fJ G (k + 3) ⟨4, d, n, m, a, imm⟩ h) rfl rfl
 unfold aU at h
 rw [Bool.and_eq_true] at h
 obtain ⟨_, h⟩ := h
 simp only at h
 rw [h] at r2
 simp [aO, eQ, gC, dL, gL, eU, dM] at h
 have c1 : aJ .u32 (I6 d) = some (dF d) := bD (by omega) (by omega)
 have c2 : aJ .u32 (I6 n) = some (dF n) := bD (by omega) (by omega)
 have c3 : aJ .u32 (I6 m) = some (dF m) := bD (by omega) (by omega)
 have s1 := cW Tryd.prog 71 true (v := n) (p := 32) (b := 5) 5 rfl (by decide) rfl (by omega) (by omega)
 have s2 := cW Tryd.prog 71 true (v := m) (p := 65536) (b := 16) 16 rfl (by decide) rfl (by omega) (by omega)
 have o1 := gT Tryd.prog 71 false (x := 3405774848) (v := d) (q := 32) 5 rfl (by omega) (by omega) (by omega) (by omega) (by omega)
 have o2 := dG Tryd.prog 71 false (x := 3405774848 + d) (v := n) (p := 32) (q := 32) 5 5 rfl rfl (by omega) (by omega) (by omega) (by omega) (by omega)
 have o3 := dG Tryd.prog 71 false (x := 3405774848 + d + n * 32) (v := m) (p := 65536) (q := 32) 16 5 rfl rfl (by omega) (by omega) (by omega) (by omega) (by omega)
 have e4 : fC 4 a imm = 0 := rfl
 have o4 : aQ Tryd.prog .or 71 false (dF (3405774848 + d + n * 32 + m * 65536)) (dF (fC 4 a imm)) = some (dF (3405774848 + d + n * 32 + m * 65536 + fC 4 a imm)) := by
  rw [e4]
  exact kR Tryd.prog 71 false (pW (x := 3405774848 + d + n * 32 + m * 65536) (by omega)) (by omega)
 have ef : aO 4 = ⟨(aO 4).nm, 3405774848, true, true, true, (aO 4).a, (aO 4).b⟩ := rfl
 have eo : kG 4 = true := rfl
 have ew : cS ⟨4, d, n, m, a, imm⟩ = 3405774848 + d + n * 32 + m * 65536 + fC 4 a imm := rfl
 rw [ew]
 rw [eo, ef] at r1
 rw [ef] at r2
 rw [bB.step]
 unfold bB.c
 unfold Form.v at r1 r2
 clear e4 ef eo h ew
 generalize (aO 4).nm = nm at *
 generalize (aO 4).a = fa at *
 generalize (aO 4).b = fb at *
 generalize fC 4 a imm = z at *
 refine eO ?_
 have fx := aPt r1 <| aPt r2 <| aPt r3 <| aPt c1 <| aPt c2 <| aPt c3 <| aPt s1 <| aPt s2 <| aPt o1 <| aPt o2 <| aPt o3 <| o4
 refine gI ?_
 exact w2 rfl rfl rfl
theorem aNp (G : aG) (k : Nat) (d n m a imm : Int) (h : aU ⟨5, d, n, m, a, imm⟩ = true) : bB.f G (k + 5) [mV 5 d n m a imm] [] = some (.tup [dF (cS ⟨5, d, n, m, a, imm⟩), .bool true], []) := by
 have r1 : ∀ H, aE (fN.f G (k + 4)) [.int .i64 5] H = _ := fun H => aD (H := H) (iM G k 5) rfl rfl
 have r2 : ∀ H, aE (dV.f G (k + 4)) [mV 5 d n m a imm, (aO 5).v] H = _ := fun H => aD (H := H) (gF G (k + 1) 5 d n m a imm (aO 5) (gG 5)) rfl rfl
 have r3 : ∀ H, aE (cP.f G (k + 4)) [mV 5 d n m a imm] H = _ := fun H => aD (H := H) (fJ G (k + 3) ⟨5, d, n, m, a, imm⟩ h) rfl rfl
 unfold aU at h
 rw [Bool.and_eq_true] at h
 obtain ⟨_, h⟩ := h
 simp only at h
 rw [h] at r2
 simp [aO, eQ, gC, dL, gL, eU, dM] at h
 have c1 : aJ .u32 (I6 d) = some (dF d) := bD (by omega) (by omega)
 have c2 : aJ .u32 (I6 n) = some (dF n) := bD (by omega) (by omega)
 have c3 : aJ .u32 (I6 m) = some (dF m) := bD (by omega) (by omega)
 have s1 := cW Tryd.prog 71 true (v := n) (p := 32) (b := 5) 5 rfl (by decide) rfl (by omega) (by omega)
 have s2 := cW Tryd.prog 71 true (v := m) (p := 65536) (b := 16) 16 rfl (by decide) rfl (by omega) (by omega)
 have o1 := gT Tryd.prog 71 false (x := 2315255808) (v := d) (q := 32) 5 rfl (by omega) (by omega) (by omega) (by omega) (by omega)
 have o2 := dG Tryd.prog 71 false (x := 2315255808 + d) (v := n) (p := 32) (q := 32) 5 5 rfl rfl (by omega) (by omega) (by omega) (by omega) (by omega)
 have o3 := dG Tryd.prog 71 false (x := 2315255808 + d + n * 32) (v := m) (p := 65536) (q := 32) 16 5 rfl rfl (by omega) (by omega) (by omega) (by omega) (by omega)
 have e4 : fC 5 a imm = 0 := rfl
 have o4 : aQ Tryd.prog .or 71 false (dF (2315255808 + d + n * 32 + m * 65536)) (dF (fC 5 a imm)) = some (dF (2315255808 + d + n * 32 + m * 65536 + fC 5 a imm)) := by
  rw [e4]
  exact kR Tryd.prog 71 false (pW (x := 2315255808 + d + n * 32 + m * 65536) (by omega)) (by omega)
 have ef : aO 5 = ⟨(aO 5).nm, 2315255808, true, true, true, (aO 5).a, (aO 5).b⟩ := rfl
 have eo : kG 5 = true := rfl
 have ew : cS ⟨5, d, n, m, a, imm⟩ = 2315255808 + d + n * 32 + m * 65536 + fC 5 a imm := rfl
 rw [ew]
 rw [eo, ef] at r1
 rw [ef] at r2
 rw [bB.step]
 unfold bB.c
 unfold Form.v at r1 r2
 clear e4 ef eo h ew
 generalize (aO 5).nm = nm at *
 generalize (aO 5).a = fa at *
 generalize (aO 5).b = fb at *
 generalize fC 5 a imm = z at *
 refine eO ?_
 have fx := aPt r1 <| aPt r2 <| aPt r3 <| aPt c1 <| aPt c2 <| aPt c3 <| aPt s1 <| aPt s2 <| aPt o1 <| aPt o2 <| aPt o3 <| o4
 refine gI ?_
 exact w2 rfl rfl rfl
theorem aNq (G : aG) (k : Nat) (d n m a imm : Int) (h : aU ⟨6, d, n, m, a, imm⟩ = true) : bB.f G (k + 5) [mV 6 d n m a imm] [] = some (.tup [dF (cS ⟨6, d, n, m, a, imm⟩), .bool true], []) := by
 have r1 : ∀ H, aE (fN.f G (k + 4)) [.int .i64 6] H = _ := fun H => aD (H := H) (iM G k 6) rfl rfl
 have r2 : ∀ H, aE (dV.f G (k + 4)) [mV 6 d n m a imm, (aO 6).v] H = _ := fun H => aD (H := H) (gF G (k + 1) 6 d n m a imm (aO 6) (gG 6)) rfl rfl
 have r3 : ∀ H, aE (cP.f G (k + 4)) [mV 6 d n m a imm] H = _ := fun H => aD (H := H) (fJ G (k + 3) ⟨6, d, n, m, a, imm⟩ h) rfl rfl
 unfold aU at h
 rw [Bool.and_eq_true] at h
 obtain ⟨_, h⟩ := h
 simp only at h
 rw [h] at r2
 simp [aO, eQ, gC, dL, gL, eU, dM] at h
 have c1 : aJ .u32 (I6 d) = some (dF d) := bD (by omega) (by omega)
 have c2 : aJ .u32 (I6 n) = some (dF n) := bD (by omega) (by omega)
 have c3 : aJ .u32 (I6 m) = some (dF m) := bD (by omega) (by omega)
 have s1 := cW Tryd.prog 71 true (v := n) (p := 32) (b := 5) 5 rfl (by decide) rfl (by omega) (by omega)
 have s2 := cW Tryd.prog 71 true (v := m) (p := 65536) (b := 16) 16 rfl (by decide) rfl (by omega) (by omega)
 have o1 := gT Tryd.prog 71 false (x := 2852126720) (v := d) (q := 32) 5 rfl (by omega) (by omega) (by omega) (by omega) (by omega)
 have o2 := dG Tryd.prog 71 false (x := 2852126720 + d) (v := n) (p := 32) (q := 32) 5 5 rfl rfl (by omega) (by omega) (by omega) (by omega) (by omega)
 have o3 := dG Tryd.prog 71 false (x := 2852126720 + d + n * 32) (v := m) (p := 65536) (q := 32) 16 5 rfl rfl (by omega) (by omega) (by omega) (by omega) (by omega)
 have e4 : fC 6 a imm = 0 := rfl
 have o4 : aQ Tryd.prog .or 71 false (dF (2852126720 + d + n * 32 + m * 65536)) (dF (fC 6 a imm)) = some (dF (2852126720 + d + n * 32 + m * 65536 + fC 6 a imm)) := by
  rw [e4]
  exact kR Tryd.prog 71 false (pW (x := 2852126720 + d + n * 32 + m * 65536) (by omega)) (by omega)
 have ef : aO 6 = ⟨(aO 6).nm, 2852126720, true, true, true, (aO 6).a, (aO 6).b⟩ := rfl
 have eo : kG 6 = true := rfl
 have ew : cS ⟨6, d, n, m, a, imm⟩ = 2852126720 + d + n * 32 + m * 65536 + fC 6 a imm := rfl
 rw [ew]
 rw [eo, ef] at r1
 rw [ef] at r2
 rw [bB.step]
 unfold bB.c
 unfold Form.v at r1 r2
 clear e4 ef eo h ew
 generalize (aO 6).nm = nm at *
 generalize (aO 6).a = fa at *
 generalize (aO 6).b = fb at *
 generalize fC 6 a imm = z at *
 refine eO ?_
 have fx := aPt r1 <| aPt r2 <| aPt r3 <| aPt c1 <| aPt c2 <| aPt c3 <| aPt s1 <| aPt s2 <| aPt o1 <| aPt o2 <| aPt o3 <| o4
 refine gI ?_
 exact w2 rfl rfl rfl
theorem aNr (G : aG) (k : Nat) (d n m a imm : Int) (h : aU ⟨7, d, n, m, a, imm⟩ = true) : bB.f G (k + 5) [mV 7 d n m a imm] [] = some (.tup [dF (cS ⟨7, d, n, m, a, imm⟩), .bool true], []) := by
 have r1 : ∀ H, aE (fN.f G (k + 4)) [.int .i64 7] H = _ := fun H => aD (H := H) (iM G k 7) rfl rfl
 have r2 : ∀ H, aE (dV.f G (k + 4)) [mV 7 d n m a imm, (aO 7).v] H = _ := fun H => aD (H := H) (gF G (k + 1) 7 d n m a imm (aO 7) (gG 7)) rfl rfl
 have r3 : ∀ H, aE (cP.f G (k + 4)) [mV 7 d n m a imm] H = _ := fun H => aD (H := H) (fJ G (k + 3) ⟨7, d, n, m, a, imm⟩ h) rfl rfl
 unfold aU at h
 rw [Bool.and_eq_true] at h
 obtain ⟨_, h⟩ := h
 simp only at h
 rw [h] at r2
 simp [aO, eQ, gC, dL, gL, eU, dM] at h
 have c1 : aJ .u32 (I6 d) = some (dF d) := bD (by omega) (by omega)
 have c2 : aJ .u32 (I6 n) = some (dF n) := bD (by omega) (by omega)
 have c3 : aJ .u32 (I6 m) = some (dF m) := bD (by omega) (by omega)
 have s1 := cW Tryd.prog 71 true (v := n) (p := 32) (b := 5) 5 rfl (by decide) rfl (by omega) (by omega)
 have s2 := cW Tryd.prog 71 true (v := m) (p := 65536) (b := 16) 16 rfl (by decide) rfl (by omega) (by omega)
 have o1 := gT Tryd.prog 71 false (x := 3388997632) (v := d) (q := 32) 5 rfl (by omega) (by omega) (by omega) (by omega) (by omega)
 have o2 := dG Tryd.prog 71 false (x := 3388997632 + d) (v := n) (p := 32) (q := 32) 5 5 rfl rfl (by omega) (by omega) (by omega) (by omega) (by omega)
 have o3 := dG Tryd.prog 71 false (x := 3388997632 + d + n * 32) (v := m) (p := 65536) (q := 32) 16 5 rfl rfl (by omega) (by omega) (by omega) (by omega) (by omega)
 have e4 : fC 7 a imm = 0 := rfl
 have o4 : aQ Tryd.prog .or 71 false (dF (3388997632 + d + n * 32 + m * 65536)) (dF (fC 7 a imm)) = some (dF (3388997632 + d + n * 32 + m * 65536 + fC 7 a imm)) := by
  rw [e4]
  exact kR Tryd.prog 71 false (pW (x := 3388997632 + d + n * 32 + m * 65536) (by omega)) (by omega)
 have ef : aO 7 = ⟨(aO 7).nm, 3388997632, true, true, true, (aO 7).a, (aO 7).b⟩ := rfl
 have eo : kG 7 = true := rfl
 have ew : cS ⟨7, d, n, m, a, imm⟩ = 3388997632 + d + n * 32 + m * 65536 + fC 7 a imm := rfl
 rw [ew]
 rw [eo, ef] at r1
 rw [ef] at r2
 rw [bB.step]
 unfold bB.c
 unfold Form.v at r1 r2
 clear e4 ef eo h ew
 generalize (aO 7).nm = nm at *
 generalize (aO 7).a = fa at *
 generalize (aO 7).b = fb at *
 generalize fC 7 a imm = z at *
 refine eO ?_
 have fx := aPt r1 <| aPt r2 <| aPt r3 <| aPt c1 <| aPt c2 <| aPt c3 <| aPt s1 <| aPt s2 <| aPt o1 <| aPt o2 <| aPt o3 <| o4
 refine gI ?_
 exact w2 rfl rfl rfl
theorem aNs (G : aG) (k : Nat) (d n m a imm : Int) (h : aU ⟨8, d, n, m, a, imm⟩ = true) : bB.f G (k + 5) [mV 8 d n m a imm] [] = some (.tup [dF (cS ⟨8, d, n, m, a, imm⟩), .bool true], []) := by
 have r1 : ∀ H, aE (fN.f G (k + 4)) [.int .i64 8] H = _ := fun H => aD (H := H) (iM G k 8) rfl rfl
 have r2 : ∀ H, aE (dV.f G (k + 4)) [mV 8 d n m a imm, (aO 8).v] H = _ := fun H => aD (H := H) (gF G (k + 1) 8 d n m a imm (aO 8) (gG 8)) rfl rfl
 have r3 : ∀ H, aE (cP.f G (k + 4)) [mV 8 d n m a imm] H = _ := fun H => aD (H := H) (fJ G (k + 3) ⟨8, d, n, m, a, imm⟩ h) rfl rfl
 unfold aU at h
 rw [Bool.and_eq_true] at h
 obtain ⟨_, h⟩ := h
 simp only at h
 rw [h] at r2
 simp [aO, eQ, gC, dL, gL, eU, dM] at h
 have c1 : aJ .u32 (I6 d) = some (dF d) := bD (by omega) (by omega)
 have c2 : aJ .u32 (I6 n) = some (dF n) := bD (by omega) (by omega)
 have c3 : aJ .u32 (I6 m) = some (dF m) := bD (by omega) (by omega)
 have s1 := cW Tryd.prog 71 true (v := n) (p := 32) (b := 5) 5 rfl (by decide) rfl (by omega) (by omega)
 have s2 := cW Tryd.prog 71 true (v := m) (p := 65536) (b := 16) 16 rfl (by decide) rfl (by omega) (by omega)
 have o1 := gT Tryd.prog 71 false (x := 2600468480) (v := d) (q := 32) 5 rfl (by omega) (by omega) (by omega) (by omega) (by omega)
 have o2 := dG Tryd.prog 71 false (x := 2600468480 + d) (v := n) (p := 32) (q := 32) 5 5 rfl rfl (by omega) (by omega) (by omega) (by omega) (by omega)
 have o3 := dG Tryd.prog 71 false (x := 2600468480 + d + n * 32) (v := m) (p := 65536) (q := 32) 16 5 rfl rfl (by omega) (by omega) (by omega) (by omega) (by omega)
 have e4 : fC 8 a imm = a * 1024 := rfl
 have o4 : aQ Tryd.prog .or 71 false (dF (2600468480 + d + n * 32 + m * 65536)) (dF (fC 8 a imm)) = some (dF (2600468480 + d + n * 32 + m * 65536 + fC 8 a imm)) := by
  rw [e4]
  exact kR Tryd.prog 71 false ((gJ (x := 2600468480 + d + n * 32 + m * 65536) (v := a) (p := 1024) (q := 32) 10 5 rfl rfl (by omega) (by omega) (by omega) (by omega))) (by omega)
 have ef : aO 8 = ⟨(aO 8).nm, 2600468480, true, true, true, (aO 8).a, (aO 8).b⟩ := rfl
 have eo : kG 8 = true := rfl
 have ew : cS ⟨8, d, n, m, a, imm⟩ = 2600468480 + d + n * 32 + m * 65536 + fC 8 a imm := rfl
 rw [ew]
 rw [eo, ef] at r1
 rw [ef] at r2
 rw [bB.step]
 unfold bB.c
 unfold Form.v at r1 r2
 clear e4 ef eo h ew
 generalize (aO 8).nm = nm at *
 generalize (aO 8).a = fa at *
 generalize (aO 8).b = fb at *
 generalize fC 8 a imm = z at *
 refine eO ?_
 have fx := aPt r1 <| aPt r2 <| aPt r3 <| aPt c1 <| aPt c2 <| aPt c3 <| aPt s1 <| aPt s2 <| aPt o1 <| aPt o2 <| aPt o3 <| o4
 refine gI ?_
 exact w2 rfl rfl rfl
theorem aNt (G : aG) (k : Nat) (d n m a imm : Int) (h : aU ⟨9, d, n, m, a, imm⟩ = true) : bB.f G (k + 5) [mV 9 d n m a imm] [] = some (.tup [dF (cS ⟨9, d, n, m, a, imm⟩), .bool true], []) := by
 have r1 : ∀ H, aE (fN.f G (k + 4)) [.int .i64 9] H = _ := fun H => aD (H := H) (iM G k 9) rfl rfl
 have r2 : ∀ H, aE (dV.f G (k + 4)) [mV 9 d n m a imm, (aO 9).v] H = _ := fun H => aD (H := H) (gF G (k + 1) 9 d n m a imm (aO 9) (gG 9)) rfl rfl
 have r3 : ∀ H, aE (cP.f G (k + 4)) [mV 9 d n m a imm] H = _ := fun H => aD (H := H) (fJ G (k + 3) ⟨9, d, n, m, a, imm⟩ h) rfl rfl
 unfold aU at h
 rw [Bool.and_eq_true] at h
 obtain ⟨_, h⟩ := h
 simp only at h
 rw [h] at r2
 simp [aO, eQ, gC, dL, gL, eU, dM] at h
 have c1 : aJ .u32 (I6 d) = some (dF d) := bD (by omega) (by omega)
 have c2 : aJ .u32 (I6 n) = some (dF n) := bD (by omega) (by omega)
 have c3 : aJ .u32 (I6 m) = some (dF m) := bD (by omega) (by omega)
 have s1 := cW Tryd.prog 71 true (v := n) (p := 32) (b := 5) 5 rfl (by decide) rfl (by omega) (by omega)
 have s2 := cW Tryd.prog 71 true (v := m) (p := 65536) (b := 16) 16 rfl (by decide) rfl (by omega) (by omega)
 have o1 := gT Tryd.prog 71 false (x := 2613083136) (v := d) (q := 32) 5 rfl (by omega) (by omega) (by omega) (by omega) (by omega)
 have o2 := dG Tryd.prog 71 false (x := 2613083136 + d) (v := n) (p := 32) (q := 32) 5 5 rfl rfl (by omega) (by omega) (by omega) (by omega) (by omega)
 have o3 := dG Tryd.prog 71 false (x := 2613083136 + d + n * 32) (v := m) (p := 65536) (q := 32) 16 5 rfl rfl (by omega) (by omega) (by omega) (by omega) (by omega)
 have e4 : fC 9 a imm = 0 := rfl
 have o4 : aQ Tryd.prog .or 71 false (dF (2613083136 + d + n * 32 + m * 65536)) (dF (fC 9 a imm)) = some (dF (2613083136 + d + n * 32 + m * 65536 + fC 9 a imm)) := by
  rw [e4]
  exact kR Tryd.prog 71 false (pW (x := 2613083136 + d + n * 32 + m * 65536) (by omega)) (by omega)
 have ef : aO 9 = ⟨(aO 9).nm, 2613083136, true, true, true, (aO 9).a, (aO 9).b⟩ := rfl
 have eo : kG 9 = true := rfl
 have ew : cS ⟨9, d, n, m, a, imm⟩ = 2613083136 + d + n * 32 + m * 65536 + fC 9 a imm := rfl
 rw [ew]
 rw [eo, ef] at r1
 rw [ef] at r2
 rw [bB.step]
 unfold bB.c
 unfold Form.v at r1 r2
 clear e4 ef eo h ew
 generalize (aO 9).nm = nm at *
 generalize (aO 9).a = fa at *
 generalize (aO 9).b = fb at *
 generalize fC 9 a imm = z at *
 refine eO ?_
 have fx := aPt r1 <| aPt r2 <| aPt r3 <| aPt c1 <| aPt c2 <| aPt c3 <| aPt s1 <| aPt s2 <| aPt o1 <| aPt o2 <| aPt o3 <| o4
 refine gI ?_
 exact w2 rfl rfl rfl
theorem aKT (G : aG) (k : Nat) (d n m a imm : Int) (h : aU ⟨10, d, n, m, a, imm⟩ = true) : bB.f G (k + 5) [mV 10 d n m a imm] [] = some (.tup [dF (cS ⟨10, d, n, m, a, imm⟩), .bool true], []) := by
 have r1 : ∀ H, aE (fN.f G (k + 4)) [.int .i64 10] H = _ := fun H => aD (H := H) (iM G k 10) rfl rfl
 have r2 : ∀ H, aE (dV.f G (k + 4)) [mV 10 d n m a imm, (aO 10).v] H = _ := fun H => aD (H := H) (gF G (k + 1) 10 d n m a imm (aO 10) (gG 10)) rfl rfl
 have r3 : ∀ H, aE (cP.f G (k + 4)) [mV 10 d n m a imm] H = _ := fun H => aD (H := H) (fJ G (k + 3) ⟨10, d, n, m, a, imm⟩ h) rfl rfl
 unfold aU at h
 rw [Bool.and_eq_true] at h
 obtain ⟨_, h⟩ := h
 simp only at h
 rw [h] at r2
 simp [aO, eQ, gC, dL, gL, eU, dM] at h
 have c1 : aJ .u32 (I6 d) = some (dF d) := bD (by omega) (by omega)
 have c2 : aJ .u32 (I6 n) = some (dF n) := bD (by omega) (by omega)
 have c3 : aJ .u32 (I6 m) = some (dF m) := bD (by omega) (by omega)
 have s1 := cW Tryd.prog 71 true (v := n) (p := 32) (b := 5) 5 rfl (by decide) rfl (by omega) (by omega)
 have s2 := cW Tryd.prog 71 true (v := m) (p := 65536) (b := 16) 16 rfl (by decide) rfl (by omega) (by omega)
 have o1 := gT Tryd.prog 71 false (x := 2432696320) (v := d) (q := 32) 5 rfl (by omega) (by omega) (by omega) (by omega) (by omega)
 have o2 := dG Tryd.prog 71 false (x := 2432696320 + d) (v := n) (p := 32) (q := 32) 5 5 rfl rfl (by omega) (by omega) (by omega) (by omega) (by omega)
 have o3 := dG Tryd.prog 71 false (x := 2432696320 + d + n * 32) (v := m) (p := 65536) (q := 1) 16 0 rfl rfl (by omega) (by omega) (by omega) (by omega) (by omega)
 have e4 : fC 10 a imm = imm * 1024 := rfl
 have o4 : aQ Tryd.prog .or 71 false (dF (2432696320 + d + n * 32 + m * 65536)) (dF (fC 10 a imm)) = some (dF (2432696320 + d + n * 32 + m * 65536 + fC 10 a imm)) := by
  rw [e4]
  exact kR Tryd.prog 71 false ((gJ (x := 2432696320 + d + n * 32 + m * 65536) (v := imm) (p := 1024) (q := 4096) 10 12 rfl rfl (by omega) (by omega) (by omega) (by omega))) (by omega)
 have ef : aO 10 = ⟨(aO 10).nm, 2432696320, true, true, false, (aO 10).a, (aO 10).b⟩ := rfl
 have eo : kG 10 = true := rfl
 have ew : cS ⟨10, d, n, m, a, imm⟩ = 2432696320 + d + n * 32 + m * 65536 + fC 10 a imm := rfl
 rw [ew]
 rw [eo, ef] at r1
 rw [ef] at r2
 rw [bB.step]
 unfold bB.c
 unfold Form.v at r1 r2
 clear e4 ef eo h ew
 generalize (aO 10).nm = nm at *
 generalize (aO 10).a = fa at *
 generalize (aO 10).b = fb at *
 generalize fC 10 a imm = z at *
 refine eO ?_
 have fx := aPt r1 <| aPt r2 <| aPt r3 <| aPt c1 <| aPt c2 <| aPt c3 <| aPt s1 <| aPt s2 <| aPt o1 <| aPt o2 <| aPt o3 <| o4
 refine gI ?_
 exact w2 rfl rfl rfl
theorem aKU (G : aG) (k : Nat) (d n m a imm : Int) (h : aU ⟨11, d, n, m, a, imm⟩ = true) : bB.f G (k + 5) [mV 11 d n m a imm] [] = some (.tup [dF (cS ⟨11, d, n, m, a, imm⟩), .bool true], []) := by
 have r1 : ∀ H, aE (fN.f G (k + 4)) [.int .i64 11] H = _ := fun H => aD (H := H) (iM G k 11) rfl rfl
 have r2 : ∀ H, aE (dV.f G (k + 4)) [mV 11 d n m a imm, (aO 11).v] H = _ := fun H => aD (H := H) (gF G (k + 1) 11 d n m a imm (aO 11) (gG 11)) rfl rfl
 have r3 : ∀ H, aE (cP.f G (k + 4)) [mV 11 d n m a imm] H = _ := fun H => aD (H := H) (fJ G (k + 3) ⟨11, d, n, m, a, imm⟩ h) rfl rfl
 unfold aU at h
 rw [Bool.and_eq_true] at h
 obtain ⟨_, h⟩ := h
 simp only at h
 rw [h] at r2
 simp [aO, eQ, gC, dL, gL, eU, dM] at h
 have c1 : aJ .u32 (I6 d) = some (dF d) := bD (by omega) (by omega)
 have c2 : aJ .u32 (I6 n) = some (dF n) := bD (by omega) (by omega)
 have c3 : aJ .u32 (I6 m) = some (dF m) := bD (by omega) (by omega)
 have s1 := cW Tryd.prog 71 true (v := n) (p := 32) (b := 5) 5 rfl (by decide) rfl (by omega) (by omega)
 have s2 := cW Tryd.prog 71 true (v := m) (p := 65536) (b := 16) 16 rfl (by decide) rfl (by omega) (by omega)
 have o1 := gT Tryd.prog 71 false (x := 3506438144) (v := d) (q := 32) 5 rfl (by omega) (by omega) (by omega) (by omega) (by omega)
 have o2 := dG Tryd.prog 71 false (x := 3506438144 + d) (v := n) (p := 32) (q := 32) 5 5 rfl rfl (by omega) (by omega) (by omega) (by omega) (by omega)
 have o3 := dG Tryd.prog 71 false (x := 3506438144 + d + n * 32) (v := m) (p := 65536) (q := 1) 16 0 rfl rfl (by omega) (by omega) (by omega) (by omega) (by omega)
 have e4 : fC 11 a imm = imm * 1024 := rfl
 have o4 : aQ Tryd.prog .or 71 false (dF (3506438144 + d + n * 32 + m * 65536)) (dF (fC 11 a imm)) = some (dF (3506438144 + d + n * 32 + m * 65536 + fC 11 a imm)) := by
  rw [e4]
  exact kR Tryd.prog 71 false ((gJ (x := 3506438144 + d + n * 32 + m * 65536) (v := imm) (p := 1024) (q := 4096) 10 12 rfl rfl (by omega) (by omega) (by omega) (by omega))) (by omega)
 have ef : aO 11 = ⟨(aO 11).nm, 3506438144, true, true, false, (aO 11).a, (aO 11).b⟩ := rfl
 have eo : kG 11 = true := rfl
 have ew : cS ⟨11, d, n, m, a, imm⟩ = 3506438144 + d + n * 32 + m * 65536 + fC 11 a imm := rfl
 rw [ew]
 rw [eo, ef] at r1
 rw [ef] at r2
 rw [bB.step]
 unfold bB.c
 unfold Form.v at r1 r2
 clear e4 ef eo h ew
 generalize (aO 11).nm = nm at *
 generalize (aO 11).a = fa at *
 generalize (aO 11).b = fb at *
 generalize fC 11 a imm = z at *
 refine eO ?_
 have fx := aPt r1 <| aPt r2 <| aPt r3 <| aPt c1 <| aPt c2 <| aPt c3 <| aPt s1 <| aPt s2 <| aPt o1 <| aPt o2 <| aPt o3 <| o4
 refine gI ?_
 exact w2 rfl rfl rfl
theorem aKV (G : aG) (k : Nat) (d n m a imm : Int) (h : aU ⟨12, d, n, m, a, imm⟩ = true) : bB.f G (k + 5) [mV 12 d n m a imm] [] = some (.tup [dF (cS ⟨12, d, n, m, a, imm⟩), .bool true], []) := by
 have r1 : ∀ H, aE (fN.f G (k + 4)) [.int .i64 12] H = _ := fun H => aD (H := H) (iM G k 12) rfl rfl
 have r2 : ∀ H, aE (dV.f G (k + 4)) [mV 12 d n m a imm, (aO 12).v] H = _ := fun H => aD (H := H) (gF G (k + 1) 12 d n m a imm (aO 12) (gG 12)) rfl rfl
 have r3 : ∀ H, aE (cP.f G (k + 4)) [mV 12 d n m a imm] H = _ := fun H => aD (H := H) (fJ G (k + 3) ⟨12, d, n, m, a, imm⟩ h) rfl rfl
 unfold aU at h
 rw [Bool.and_eq_true] at h
 obtain ⟨_, h⟩ := h
 simp only at h
 rw [h] at r2
 simp [aO, eQ, gC, dL, gL, eU, dM] at h
 have c1 : aJ .u32 (I6 d) = some (dF d) := bD (by omega) (by omega)
 have c2 : aJ .u32 (I6 n) = some (dF n) := bD (by omega) (by omega)
 have c3 : aJ .u32 (I6 m) = some (dF m) := bD (by omega) (by omega)
 have s1 := cW Tryd.prog 71 true (v := n) (p := 32) (b := 5) 5 rfl (by decide) rfl (by omega) (by omega)
 have s2 := cW Tryd.prog 71 true (v := m) (p := 65536) (b := 16) 16 rfl (by decide) rfl (by omega) (by omega)
 have o1 := gT Tryd.prog 71 false (x := 3544186880) (v := d) (q := 32) 5 rfl (by omega) (by omega) (by omega) (by omega) (by omega)
 have o2 := dG Tryd.prog 71 false (x := 3544186880 + d) (v := n) (p := 32) (q := 32) 5 5 rfl rfl (by omega) (by omega) (by omega) (by omega) (by omega)
 have o3 := dG Tryd.prog 71 false (x := 3544186880 + d + n * 32) (v := m) (p := 65536) (q := 1) 16 0 rfl rfl (by omega) (by omega) (by omega) (by omega) (by omega)
 have e4 : fC 12 a imm = (64 - imm) % 64 * 65536 + (63 - imm) * 1024 := rfl
 have o4 : aQ Tryd.prog .or 71 false (dF (3544186880 + d + n * 32 + m * 65536)) (dF (fC 12 a imm)) = some (dF (3544186880 + d + n * 32 + m * 65536 + fC 12 a imm)) := by
  rw [e4]
  exact kR Tryd.prog 71 false (zL (gJ (x := 3544186880 + d + n * 32 + m * 65536) (v := (64 - imm) % 64) (p := 65536) (q := 64) 16 6 rfl rfl (by omega) (by omega) (by omega) (by omega)) (gJ (x := 3544186880 + d + n * 32 + m * 65536) (v := (63 - imm)) (p := 1024) (q := 64) 10 6 rfl rfl (by omega) (by omega) (by omega) (by omega)) (gJ (x := (64 - imm) % 64 * 65536) (v := (63 - imm)) (p := 1024) (q := 64) 10 6 rfl rfl (by omega) (by omega) (by omega) (by omega)) (by omega)) (by omega)
 have ef : aO 12 = ⟨(aO 12).nm, 3544186880, true, true, false, (aO 12).a, (aO 12).b⟩ := rfl
 have eo : kG 12 = true := rfl
 have ew : cS ⟨12, d, n, m, a, imm⟩ = 3544186880 + d + n * 32 + m * 65536 + fC 12 a imm := rfl
 rw [ew]
 rw [eo, ef] at r1
 rw [ef] at r2
 rw [bB.step]
 unfold bB.c
 unfold Form.v at r1 r2
 clear e4 ef eo h ew
 generalize (aO 12).nm = nm at *
 generalize (aO 12).a = fa at *
 generalize (aO 12).b = fb at *
 generalize fC 12 a imm = z at *
 refine eO ?_
 have fx := aPt r1 <| aPt r2 <| aPt r3 <| aPt c1 <| aPt c2 <| aPt c3 <| aPt s1 <| aPt s2 <| aPt o1 <| aPt o2 <| aPt o3 <| o4
 refine gI ?_
 exact w2 rfl rfl rfl
theorem aKW (G : aG) (k : Nat) (d n m a imm : Int) (h : aU ⟨13, d, n, m, a, imm⟩ = true) : bB.f G (k + 5) [mV 13 d n m a imm] [] = some (.tup [dF (cS ⟨13, d, n, m, a, imm⟩), .bool true], []) := by
 have r1 : ∀ H, aE (fN.f G (k + 4)) [.int .i64 13] H = _ := fun H => aD (H := H) (iM G k 13) rfl rfl
 have r2 : ∀ H, aE (dV.f G (k + 4)) [mV 13 d n m a imm, (aO 13).v] H = _ := fun H => aD (H := H) (gF G (k + 1) 13 d n m a imm (aO 13) (gG 13)) rfl rfl
 have r3 : ∀ H, aE (cP.f G (k + 4)) [mV 13 d n m a imm] H = _ := fun H => aD (H := H) (fJ G (k + 3) ⟨13, d, n, m, a, imm⟩ h) rfl rfl
 unfold aU at h
 rw [Bool.and_eq_true] at h
 obtain ⟨_, h⟩ := h
 simp only at h
 rw [h] at r2
 simp [aO, eQ, gC, dL, gL, eU, dM] at h
 have c1 : aJ .u32 (I6 d) = some (dF d) := bD (by omega) (by omega)
 have c2 : aJ .u32 (I6 n) = some (dF n) := bD (by omega) (by omega)
 have c3 : aJ .u32 (I6 m) = some (dF m) := bD (by omega) (by omega)
 have s1 := cW Tryd.prog 71 true (v := n) (p := 32) (b := 5) 5 rfl (by decide) rfl (by omega) (by omega)
 have s2 := cW Tryd.prog 71 true (v := m) (p := 65536) (b := 16) 16 rfl (by decide) rfl (by omega) (by omega)
 have o1 := gT Tryd.prog 71 false (x := 3544186880) (v := d) (q := 32) 5 rfl (by omega) (by omega) (by omega) (by omega) (by omega)
 have o2 := dG Tryd.prog 71 false (x := 3544186880 + d) (v := n) (p := 32) (q := 32) 5 5 rfl rfl (by omega) (by omega) (by omega) (by omega) (by omega)
 have o3 := dG Tryd.prog 71 false (x := 3544186880 + d + n * 32) (v := m) (p := 65536) (q := 1) 16 0 rfl rfl (by omega) (by omega) (by omega) (by omega) (by omega)
 have e4 : fC 13 a imm = imm * 65536 + 63 * 1024 := rfl
 have o4 : aQ Tryd.prog .or 71 false (dF (3544186880 + d + n * 32 + m * 65536)) (dF (fC 13 a imm)) = some (dF (3544186880 + d + n * 32 + m * 65536 + fC 13 a imm)) := by
  rw [e4]
  exact kR Tryd.prog 71 false (zL (gJ (x := 3544186880 + d + n * 32 + m * 65536) (v := imm) (p := 65536) (q := 64) 16 6 rfl rfl (by omega) (by omega) (by omega) (by omega)) (gJ (x := 3544186880 + d + n * 32 + m * 65536) (v := 63) (p := 1024) (q := 64) 10 6 rfl rfl (by omega) (by omega) (by omega) (by omega)) (gJ (x := imm * 65536) (v := 63) (p := 1024) (q := 64) 10 6 rfl rfl (by omega) (by omega) (by omega) (by omega)) (by omega)) (by omega)
 have ef : aO 13 = ⟨(aO 13).nm, 3544186880, true, true, false, (aO 13).a, (aO 13).b⟩ := rfl
 have eo : kG 13 = true := rfl
 have ew : cS ⟨13, d, n, m, a, imm⟩ = 3544186880 + d + n * 32 + m * 65536 + fC 13 a imm := rfl
 rw [ew]
 rw [eo, ef] at r1
 rw [ef] at r2
 rw [bB.step]
 unfold bB.c
 unfold Form.v at r1 r2
 clear e4 ef eo h ew
 generalize (aO 13).nm = nm at *
 generalize (aO 13).a = fa at *
 generalize (aO 13).b = fb at *
 generalize fC 13 a imm = z at *
 refine eO ?_
 have fx := aPt r1 <| aPt r2 <| aPt r3 <| aPt c1 <| aPt c2 <| aPt c3 <| aPt s1 <| aPt s2 <| aPt o1 <| aPt o2 <| aPt o3 <| o4
 refine gI ?_
 exact w2 rfl rfl rfl
theorem aKX (G : aG) (k : Nat) (d n m a imm : Int) (h : aU ⟨14, d, n, m, a, imm⟩ = true) : bB.f G (k + 5) [mV 14 d n m a imm] [] = some (.tup [dF (cS ⟨14, d, n, m, a, imm⟩), .bool true], []) := by
 have r1 : ∀ H, aE (fN.f G (k + 4)) [.int .i64 14] H = _ := fun H => aD (H := H) (iM G k 14) rfl rfl
 have r2 : ∀ H, aE (dV.f G (k + 4)) [mV 14 d n m a imm, (aO 14).v] H = _ := fun H => aD (H := H) (gF G (k + 1) 14 d n m a imm (aO 14) (gG 14)) rfl rfl
 have r3 : ∀ H, aE (cP.f G (k + 4)) [mV 14 d n m a imm] H = _ := fun H => aD (H := H) (fJ G (k + 3) ⟨14, d, n, m, a, imm⟩ h) rfl rfl
 unfold aU at h
 rw [Bool.and_eq_true] at h
 obtain ⟨_, h⟩ := h
 simp only at h
 rw [h] at r2
 simp [aO, eQ, gC, dL, gL, eU, dM] at h
 have c1 : aJ .u32 (I6 d) = some (dF d) := bD (by omega) (by omega)
 have c2 : aJ .u32 (I6 n) = some (dF n) := bD (by omega) (by omega)
 have c3 : aJ .u32 (I6 m) = some (dF m) := bD (by omega) (by omega)
 have s1 := cW Tryd.prog 71 true (v := n) (p := 32) (b := 5) 5 rfl (by decide) rfl (by omega) (by omega)
 have s2 := cW Tryd.prog 71 true (v := m) (p := 65536) (b := 16) 16 rfl (by decide) rfl (by omega) (by omega)
 have o1 := gT Tryd.prog 71 false (x := 2470509568) (v := d) (q := 32) 5 rfl (by omega) (by omega) (by omega) (by omega) (by omega)
 have o2 := dG Tryd.prog 71 false (x := 2470509568 + d) (v := n) (p := 32) (q := 32) 5 5 rfl rfl (by omega) (by omega) (by omega) (by omega) (by omega)
 have o3 := dG Tryd.prog 71 false (x := 2470509568 + d + n * 32) (v := m) (p := 65536) (q := 1) 16 0 rfl rfl (by omega) (by omega) (by omega) (by omega) (by omega)
 have e4 : fC 14 a imm = imm * 65536 := rfl
 have o4 : aQ Tryd.prog .or 71 false (dF (2470509568 + d + n * 32 + m * 65536)) (dF (fC 14 a imm)) = some (dF (2470509568 + d + n * 32 + m * 65536 + fC 14 a imm)) := by
  rw [e4]
  exact kR Tryd.prog 71 false ((gJ (x := 2470509568 + d + n * 32 + m * 65536) (v := imm) (p := 65536) (q := 64) 16 6 rfl rfl (by omega) (by omega) (by omega) (by omega))) (by omega)
 have ef : aO 14 = ⟨(aO 14).nm, 2470509568, true, true, false, (aO 14).a, (aO 14).b⟩ := rfl
 have eo : kG 14 = true := rfl
 have ew : cS ⟨14, d, n, m, a, imm⟩ = 2470509568 + d + n * 32 + m * 65536 + fC 14 a imm := rfl
 rw [ew]
 rw [eo, ef] at r1
 rw [ef] at r2
 rw [bB.step]
 unfold bB.c
 unfold Form.v at r1 r2
 clear e4 ef eo h ew
 generalize (aO 14).nm = nm at *
 generalize (aO 14).a = fa at *
 generalize (aO 14).b = fb at *
 generalize fC 14 a imm = z at *
 refine eO ?_
 have fx := aPt r1 <| aPt r2 <| aPt r3 <| aPt c1 <| aPt c2 <| aPt c3 <| aPt s1 <| aPt s2 <| aPt o1 <| aPt o2 <| aPt o3 <| o4
 refine gI ?_
 exact w2 rfl rfl rfl
theorem aKY (G : aG) (k : Nat) (d n m a imm : Int) (h : aU ⟨15, d, n, m, a, imm⟩ = true) : bB.f G (k + 5) [mV 15 d n m a imm] [] = some (.tup [dF (cS ⟨15, d, n, m, a, imm⟩), .bool true], []) := by
 have r1 : ∀ H, aE (fN.f G (k + 4)) [.int .i64 15] H = _ := fun H => aD (H := H) (iM G k 15) rfl rfl
 have r2 : ∀ H, aE (dV.f G (k + 4)) [mV 15 d n m a imm, (aO 15).v] H = _ := fun H => aD (H := H) (gF G (k + 1) 15 d n m a imm (aO 15) (gG 15)) rfl rfl
 have r3 : ∀ H, aE (cP.f G (k + 4)) [mV 15 d n m a imm] H = _ := fun H => aD (H := H) (fJ G (k + 3) ⟨15, d, n, m, a, imm⟩ h) rfl rfl
 unfold aU at h
 rw [Bool.and_eq_true] at h
 obtain ⟨_, h⟩ := h
 simp only at h
 rw [h] at r2
 simp [aO, eQ, gC, dL, gL, eU, dM] at h
 have c1 : aJ .u32 (I6 d) = some (dF d) := bD (by omega) (by omega)
 have c2 : aJ .u32 (I6 n) = some (dF n) := bD (by omega) (by omega)
 have c3 : aJ .u32 (I6 m) = some (dF m) := bD (by omega) (by omega)
 have s1 := cW Tryd.prog 71 true (v := n) (p := 32) (b := 5) 5 rfl (by decide) rfl (by omega) (by omega)
 have s2 := cW Tryd.prog 71 true (v := m) (p := 65536) (b := 16) 16 rfl (by decide) rfl (by omega) (by omega)
 have o1 := gT Tryd.prog 71 false (x := 3942645791) (v := d) (q := 1) 0 rfl (by omega) (by omega) (by omega) (by omega) (by omega)
 have o2 := dG Tryd.prog 71 false (x := 3942645791 + d) (v := n) (p := 32) (q := 32) 5 5 rfl rfl (by omega) (by omega) (by omega) (by omega) (by omega)
 have o3 := dG Tryd.prog 71 false (x := 3942645791 + d + n * 32) (v := m) (p := 65536) (q := 32) 16 5 rfl rfl (by omega) (by omega) (by omega) (by omega) (by omega)
 have e4 : fC 15 a imm = 0 := rfl
 have o4 : aQ Tryd.prog .or 71 false (dF (3942645791 + d + n * 32 + m * 65536)) (dF (fC 15 a imm)) = some (dF (3942645791 + d + n * 32 + m * 65536 + fC 15 a imm)) := by
  rw [e4]
  exact kR Tryd.prog 71 false (pW (x := 3942645791 + d + n * 32 + m * 65536) (by omega)) (by omega)
 have ef : aO 15 = ⟨(aO 15).nm, 3942645791, false, true, true, (aO 15).a, (aO 15).b⟩ := rfl
 have eo : kG 15 = true := rfl
 have ew : cS ⟨15, d, n, m, a, imm⟩ = 3942645791 + d + n * 32 + m * 65536 + fC 15 a imm := rfl
 rw [ew]
 rw [eo, ef] at r1
 rw [ef] at r2
 rw [bB.step]
 unfold bB.c
 unfold Form.v at r1 r2
 clear e4 ef eo h ew
 generalize (aO 15).nm = nm at *
 generalize (aO 15).a = fa at *
 generalize (aO 15).b = fb at *
 generalize fC 15 a imm = z at *
 refine eO ?_
 have fx := aPt r1 <| aPt r2 <| aPt r3 <| aPt c1 <| aPt c2 <| aPt c3 <| aPt s1 <| aPt s2 <| aPt o1 <| aPt o2 <| aPt o3 <| o4
 refine gI ?_
 exact w2 rfl rfl rfl
theorem aKZ (G : aG) (k : Nat) (d n m a imm : Int) (h : aU ⟨16, d, n, m, a, imm⟩ = true) : bB.f G (k + 5) [mV 16 d n m a imm] [] = some (.tup [dF (cS ⟨16, d, n, m, a, imm⟩), .bool true], []) := by
 have r1 : ∀ H, aE (fN.f G (k + 4)) [.int .i64 16] H = _ := fun H => aD (H := H) (iM G k 16) rfl rfl
 have r2 : ∀ H, aE (dV.f G (k + 4)) [mV 16 d n m a imm, (aO 16).v] H = _ := fun H => aD (H := H) (gF G (k + 1) 16 d n m a imm (aO 16) (gG 16)) rfl rfl
 have r3 : ∀ H, aE (cP.f G (k + 4)) [mV 16 d n m a imm] H = _ := fun H => aD (H := H) (fJ G (k + 3) ⟨16, d, n, m, a, imm⟩ h) rfl rfl
 unfold aU at h
 rw [Bool.and_eq_true] at h
 obtain ⟨_, h⟩ := h
 simp only at h
 rw [h] at r2
 simp [aO, eQ, gC, dL, gL, eU, dM] at h
 have c1 : aJ .u32 (I6 d) = some (dF d) := bD (by omega) (by omega)
 have c2 : aJ .u32 (I6 n) = some (dF n) := bD (by omega) (by omega)
 have c3 : aJ .u32 (I6 m) = some (dF m) := bD (by omega) (by omega)
 have s1 := cW Tryd.prog 71 true (v := n) (p := 32) (b := 5) 5 rfl (by decide) rfl (by omega) (by omega)
 have s2 := cW Tryd.prog 71 true (v := m) (p := 65536) (b := 16) 16 rfl (by decide) rfl (by omega) (by omega)
 have o1 := gT Tryd.prog 71 false (x := 2592079872) (v := d) (q := 32) 5 rfl (by omega) (by omega) (by omega) (by omega) (by omega)
 have o2 := dG Tryd.prog 71 false (x := 2592079872 + d) (v := n) (p := 32) (q := 32) 5 5 rfl rfl (by omega) (by omega) (by omega) (by omega) (by omega)
 have o3 := dG Tryd.prog 71 false (x := 2592079872 + d + n * 32) (v := m) (p := 65536) (q := 32) 16 5 rfl rfl (by omega) (by omega) (by omega) (by omega) (by omega)
 have e4 : fC 16 a imm = a * 4096 := rfl
 have o4 : aQ Tryd.prog .or 71 false (dF (2592079872 + d + n * 32 + m * 65536)) (dF (fC 16 a imm)) = some (dF (2592079872 + d + n * 32 + m * 65536 + fC 16 a imm)) := by
  rw [e4]
  exact kR Tryd.prog 71 false ((gJ (x := 2592079872 + d + n * 32 + m * 65536) (v := a) (p := 4096) (q := 16) 12 4 rfl rfl (by omega) (by omega) (by omega) (by omega))) (by omega)
 have ef : aO 16 = ⟨(aO 16).nm, 2592079872, true, true, true, (aO 16).a, (aO 16).b⟩ := rfl
 have eo : kG 16 = true := rfl
 have ew : cS ⟨16, d, n, m, a, imm⟩ = 2592079872 + d + n * 32 + m * 65536 + fC 16 a imm := rfl
 rw [ew]
 rw [eo, ef] at r1
 rw [ef] at r2
 rw [bB.step]
 unfold bB.c
 unfold Form.v at r1 r2
 clear e4 ef eo h ew
 generalize (aO 16).nm = nm at *
 generalize (aO 16).a = fa at *
 generalize (aO 16).b = fb at *
 generalize fC 16 a imm = z at *
 refine eO ?_
 have fx := aPt r1 <| aPt r2 <| aPt r3 <| aPt c1 <| aPt c2 <| aPt c3 <| aPt s1 <| aPt s2 <| aPt o1 <| aPt o2 <| aPt o3 <| o4
 refine gI ?_
 exact w2 rfl rfl rfl
theorem aLa (G : aG) (k : Nat) (d n m a imm : Int) (h : aU ⟨17, d, n, m, a, imm⟩ = true) : bB.f G (k + 5) [mV 17 d n m a imm] [] = some (.tup [dF (cS ⟨17, d, n, m, a, imm⟩), .bool true], []) := by
 have r1 : ∀ H, aE (fN.f G (k + 4)) [.int .i64 17] H = _ := fun H => aD (H := H) (iM G k 17) rfl rfl
 have r2 : ∀ H, aE (dV.f G (k + 4)) [mV 17 d n m a imm, (aO 17).v] H = _ := fun H => aD (H := H) (gF G (k + 1) 17 d n m a imm (aO 17) (gG 17)) rfl rfl
 have r3 : ∀ H, aE (cP.f G (k + 4)) [mV 17 d n m a imm] H = _ := fun H => aD (H := H) (fJ G (k + 3) ⟨17, d, n, m, a, imm⟩ h) rfl rfl
 unfold aU at h
 rw [Bool.and_eq_true] at h
 obtain ⟨_, h⟩ := h
 simp only at h
 rw [h] at r2
 simp [aO, eQ, gC, dL, gL, eU, dM] at h
 have c1 : aJ .u32 (I6 d) = some (dF d) := bD (by omega) (by omega)
 have c2 : aJ .u32 (I6 n) = some (dF n) := bD (by omega) (by omega)
 have c3 : aJ .u32 (I6 m) = some (dF m) := bD (by omega) (by omega)
 have s1 := cW Tryd.prog 71 true (v := n) (p := 32) (b := 5) 5 rfl (by decide) rfl (by omega) (by omega)
 have s2 := cW Tryd.prog 71 true (v := m) (p := 65536) (b := 16) 16 rfl (by decide) rfl (by omega) (by omega)
 have o1 := gT Tryd.prog 71 false (x := 2594113504) (v := d) (q := 32) 5 rfl (by omega) (by omega) (by omega) (by omega) (by omega)
 have o2 := dG Tryd.prog 71 false (x := 2594113504 + d) (v := n) (p := 32) (q := 1) 5 0 rfl rfl (by omega) (by omega) (by omega) (by omega) (by omega)
 have o3 := dG Tryd.prog 71 false (x := 2594113504 + d + n * 32) (v := m) (p := 65536) (q := 1) 16 0 rfl rfl (by omega) (by omega) (by omega) (by omega) (by omega)
 have e4 : fC 17 a imm = (if a % 2 = 0 then a + 1 else a - 1) * 4096 := rfl
 have o4 : aQ Tryd.prog .or 71 false (dF (2594113504 + d + n * 32 + m * 65536)) (dF (fC 17 a imm)) = some (dF (2594113504 + d + n * 32 + m * 65536 + fC 17 a imm)) := by
  rw [e4]
  exact kR Tryd.prog 71 false ((gJ (x := 2594113504 + d + n * 32 + m * 65536) (v := (if a % 2 = 0 then a + 1 else a - 1)) (p := 4096) (q := 16) 12 4 rfl rfl (by omega) (by split <;> omega) (by split <;> omega) (by omega))) (by split <;> omega)
 have ef : aO 17 = ⟨(aO 17).nm, 2594113504, true, false, false, (aO 17).a, (aO 17).b⟩ := rfl
 have eo : kG 17 = true := rfl
 have ew : cS ⟨17, d, n, m, a, imm⟩ = 2594113504 + d + n * 32 + m * 65536 + fC 17 a imm := rfl
 rw [ew]
 rw [eo, ef] at r1
 rw [ef] at r2
 rw [bB.step]
 unfold bB.c
 unfold Form.v at r1 r2
 clear e4 ef eo h ew
 generalize (aO 17).nm = nm at *
 generalize (aO 17).a = fa at *
 generalize (aO 17).b = fb at *
 generalize fC 17 a imm = z at *
 refine eO ?_
 have fx := aPt r1 <| aPt r2 <| aPt r3 <| aPt c1 <| aPt c2 <| aPt c3 <| aPt s1 <| aPt s2 <| aPt o1 <| aPt o2 <| aPt o3 <| o4
 refine gI ?_
 exact w2 rfl rfl rfl
theorem aLb (G : aG) (k : Nat) (d n m a imm : Int) (h : aU ⟨18, d, n, m, a, imm⟩ = true) : bB.f G (k + 5) [mV 18 d n m a imm] [] = some (.tup [dF (cS ⟨18, d, n, m, a, imm⟩), .bool true], []) := by
 have r1 : ∀ H, aE (fN.f G (k + 4)) [.int .i64 18] H = _ := fun H => aD (H := H) (iM G k 18) rfl rfl
 have r2 : ∀ H, aE (dV.f G (k + 4)) [mV 18 d n m a imm, (aO 18).v] H = _ := fun H => aD (H := H) (gF G (k + 1) 18 d n m a imm (aO 18) (gG 18)) rfl rfl
 have r3 : ∀ H, aE (cP.f G (k + 4)) [mV 18 d n m a imm] H = _ := fun H => aD (H := H) (fJ G (k + 3) ⟨18, d, n, m, a, imm⟩ h) rfl rfl
 unfold aU at h
 rw [Bool.and_eq_true] at h
 obtain ⟨_, h⟩ := h
 simp only at h
 rw [h] at r2
 simp [aO, eQ, gC, dL, gL, eU, dM] at h
 have c1 : aJ .u32 (I6 d) = some (dF d) := bD (by omega) (by omega)
 have c2 : aJ .u32 (I6 n) = some (dF n) := bD (by omega) (by omega)
 have c3 : aJ .u32 (I6 m) = some (dF m) := bD (by omega) (by omega)
 have s1 := cW Tryd.prog 71 true (v := n) (p := 32) (b := 5) 5 rfl (by decide) rfl (by omega) (by omega)
 have s2 := cW Tryd.prog 71 true (v := m) (p := 65536) (b := 16) 16 rfl (by decide) rfl (by omega) (by omega)
 have o1 := gT Tryd.prog 71 false (x := 4181721088) (v := d) (q := 32) 5 rfl (by omega) (by omega) (by omega) (by omega) (by omega)
 have o2 := dG Tryd.prog 71 false (x := 4181721088 + d) (v := n) (p := 32) (q := 32) 5 5 rfl rfl (by omega) (by omega) (by omega) (by omega) (by omega)
 have o3 := dG Tryd.prog 71 false (x := 4181721088 + d + n * 32) (v := m) (p := 65536) (q := 1) 16 0 rfl rfl (by omega) (by omega) (by omega) (by omega) (by omega)
 have e4 : fC 18 a imm = imm * 1024 := rfl
 have o4 : aQ Tryd.prog .or 71 false (dF (4181721088 + d + n * 32 + m * 65536)) (dF (fC 18 a imm)) = some (dF (4181721088 + d + n * 32 + m * 65536 + fC 18 a imm)) := by
  rw [e4]
  exact kR Tryd.prog 71 false ((gJ (x := 4181721088 + d + n * 32 + m * 65536) (v := imm) (p := 1024) (q := 4096) 10 12 rfl rfl (by omega) (by omega) (by omega) (by omega))) (by omega)
 have ef : aO 18 = ⟨(aO 18).nm, 4181721088, true, true, false, (aO 18).a, (aO 18).b⟩ := rfl
 have eo : kG 18 = true := rfl
 have ew : cS ⟨18, d, n, m, a, imm⟩ = 4181721088 + d + n * 32 + m * 65536 + fC 18 a imm := rfl
 rw [ew]
 rw [eo, ef] at r1
 rw [ef] at r2
 rw [bB.step]
 unfold bB.c
 unfold Form.v at r1 r2
 clear e4 ef eo h ew
 generalize (aO 18).nm = nm at *
 generalize (aO 18).a = fa at *
 generalize (aO 18).b = fb at *
 generalize fC 18 a imm = z at *
 refine eO ?_
 have fx := aPt r1 <| aPt r2 <| aPt r3 <| aPt c1 <| aPt c2 <| aPt c3 <| aPt s1 <| aPt s2 <| aPt o1 <| aPt o2 <| aPt o3 <| o4
 refine gI ?_
 exact w2 rfl rfl rfl
theorem aLc (G : aG) (k : Nat) (d n m a imm : Int) (h : aU ⟨19, d, n, m, a, imm⟩ = true) : bB.f G (k + 5) [mV 19 d n m a imm] [] = some (.tup [dF (cS ⟨19, d, n, m, a, imm⟩), .bool true], []) := by
 have r1 : ∀ H, aE (fN.f G (k + 4)) [.int .i64 19] H = _ := fun H => aD (H := H) (iM G k 19) rfl rfl
 have r2 : ∀ H, aE (dV.f G (k + 4)) [mV 19 d n m a imm, (aO 19).v] H = _ := fun H => aD (H := H) (gF G (k + 1) 19 d n m a imm (aO 19) (gG 19)) rfl rfl
 have r3 : ∀ H, aE (cP.f G (k + 4)) [mV 19 d n m a imm] H = _ := fun H => aD (H := H) (fJ G (k + 3) ⟨19, d, n, m, a, imm⟩ h) rfl rfl
 unfold aU at h
 rw [Bool.and_eq_true] at h
 obtain ⟨_, h⟩ := h
 simp only at h
 rw [h] at r2
 simp [aO, eQ, gC, dL, gL, eU, dM] at h
 have c1 : aJ .u32 (I6 d) = some (dF d) := bD (by omega) (by omega)
 have c2 : aJ .u32 (I6 n) = some (dF n) := bD (by omega) (by omega)
 have c3 : aJ .u32 (I6 m) = some (dF m) := bD (by omega) (by omega)
 have s1 := cW Tryd.prog 71 true (v := n) (p := 32) (b := 5) 5 rfl (by decide) rfl (by omega) (by omega)
 have s2 := cW Tryd.prog 71 true (v := m) (p := 65536) (b := 16) 16 rfl (by decide) rfl (by omega) (by omega)
 have o1 := gT Tryd.prog 71 false (x := 4177526784) (v := d) (q := 32) 5 rfl (by omega) (by omega) (by omega) (by omega) (by omega)
 have o2 := dG Tryd.prog 71 false (x := 4177526784 + d) (v := n) (p := 32) (q := 32) 5 5 rfl rfl (by omega) (by omega) (by omega) (by omega) (by omega)
 have o3 := dG Tryd.prog 71 false (x := 4177526784 + d + n * 32) (v := m) (p := 65536) (q := 1) 16 0 rfl rfl (by omega) (by omega) (by omega) (by omega) (by omega)
 have e4 : fC 19 a imm = imm * 1024 := rfl
 have o4 : aQ Tryd.prog .or 71 false (dF (4177526784 + d + n * 32 + m * 65536)) (dF (fC 19 a imm)) = some (dF (4177526784 + d + n * 32 + m * 65536 + fC 19 a imm)) := by
  rw [e4]
  exact kR Tryd.prog 71 false ((gJ (x := 4177526784 + d + n * 32 + m * 65536) (v := imm) (p := 1024) (q := 4096) 10 12 rfl rfl (by omega) (by omega) (by omega) (by omega))) (by omega)
 have ef : aO 19 = ⟨(aO 19).nm, 4177526784, true, true, false, (aO 19).a, (aO 19).b⟩ := rfl
 have eo : kG 19 = true := rfl
 have ew : cS ⟨19, d, n, m, a, imm⟩ = 4177526784 + d + n * 32 + m * 65536 + fC 19 a imm := rfl
 rw [ew]
 rw [eo, ef] at r1
 rw [ef] at r2
 rw [bB.step]
 unfold bB.c
 unfold Form.v at r1 r2
 clear e4 ef eo h ew
 generalize (aO 19).nm = nm at *
 generalize (aO 19).a = fa at *
 generalize (aO 19).b = fb at *
 generalize fC 19 a imm = z at *
 refine eO ?_
 have fx := aPt r1 <| aPt r2 <| aPt r3 <| aPt c1 <| aPt c2 <| aPt c3 <| aPt s1 <| aPt s2 <| aPt o1 <| aPt o2 <| aPt o3 <| o4
 refine gI ?_
 exact w2 rfl rfl rfl
theorem aLd (G : aG) (k : Nat) (d n m a imm : Int) (h : aU ⟨20, d, n, m, a, imm⟩ = true) : bB.f G (k + 5) [mV 20 d n m a imm] [] = some (.tup [dF (cS ⟨20, d, n, m, a, imm⟩), .bool true], []) := by
 have r1 : ∀ H, aE (fN.f G (k + 4)) [.int .i64 20] H = _ := fun H => aD (H := H) (iM G k 20) rfl rfl
 have r2 : ∀ H, aE (dV.f G (k + 4)) [mV 20 d n m a imm, (aO 20).v] H = _ := fun H => aD (H := H) (gF G (k + 1) 20 d n m a imm (aO 20) (gG 20)) rfl rfl
 have r3 : ∀ H, aE (cP.f G (k + 4)) [mV 20 d n m a imm] H = _ := fun H => aD (H := H) (fJ G (k + 3) ⟨20, d, n, m, a, imm⟩ h) rfl rfl
 unfold aU at h
 rw [Bool.and_eq_true] at h
 obtain ⟨_, h⟩ := h
 simp only at h
 rw [h] at r2
 simp [aO, eQ, gC, dL, gL, eU, dM] at h
 have c1 : aJ .u32 (I6 d) = some (dF d) := bD (by omega) (by omega)
 have c2 : aJ .u32 (I6 n) = some (dF n) := bD (by omega) (by omega)
 have c3 : aJ .u32 (I6 m) = some (dF m) := bD (by omega) (by omega)
 have s1 := cW Tryd.prog 71 true (v := n) (p := 32) (b := 5) 5 rfl (by decide) rfl (by omega) (by omega)
 have s2 := cW Tryd.prog 71 true (v := m) (p := 65536) (b := 16) 16 rfl (by decide) rfl (by omega) (by omega)
 have o1 := gT Tryd.prog 71 false (x := 335544320) (v := d) (q := 1) 0 rfl (by omega) (by omega) (by omega) (by omega) (by omega)
 have o2 := dG Tryd.prog 71 false (x := 335544320 + d) (v := n) (p := 32) (q := 1) 5 0 rfl rfl (by omega) (by omega) (by omega) (by omega) (by omega)
 have o3 := dG Tryd.prog 71 false (x := 335544320 + d + n * 32) (v := m) (p := 65536) (q := 1) 16 0 rfl rfl (by omega) (by omega) (by omega) (by omega) (by omega)
 have e4 : fC 20 a imm = imm % 67108864 := rfl
 have o4 : aQ Tryd.prog .or 71 false (dF (335544320 + d + n * 32 + m * 65536)) (dF (fC 20 a imm)) = some (dF (335544320 + d + n * 32 + m * 65536 + fC 20 a imm)) := by
  rw [e4]
  exact kR Tryd.prog 71 false ((by have := gJ (x := 335544320 + d + n * 32 + m * 65536) (v := imm % 67108864) (p := 1) (q := 67108864) 0 26 rfl rfl (by omega) (by omega) (by omega) (by omega); rwa [Int.mul_one] at this)) (by omega)
 have ef : aO 20 = ⟨(aO 20).nm, 335544320, false, false, false, (aO 20).a, (aO 20).b⟩ := rfl
 have eo : kG 20 = true := rfl
 have ew : cS ⟨20, d, n, m, a, imm⟩ = 335544320 + d + n * 32 + m * 65536 + fC 20 a imm := rfl
 rw [ew]
 rw [eo, ef] at r1
 rw [ef] at r2
 rw [bB.step]
 unfold bB.c
 unfold Form.v at r1 r2
 clear e4 ef eo h ew
 generalize (aO 20).nm = nm at *
 generalize (aO 20).a = fa at *
 generalize (aO 20).b = fb at *
 generalize fC 20 a imm = z at *
 refine eO ?_
 have fx := aPt r1 <| aPt r2 <| aPt r3 <| aPt c1 <| aPt c2 <| aPt c3 <| aPt s1 <| aPt s2 <| aPt o1 <| aPt o2 <| aPt o3 <| o4
 refine gI ?_
 exact w2 rfl rfl rfl
theorem aLe (G : aG) (k : Nat) (d n m a imm : Int) (h : aU ⟨21, d, n, m, a, imm⟩ = true) : bB.f G (k + 5) [mV 21 d n m a imm] [] = some (.tup [dF (cS ⟨21, d, n, m, a, imm⟩), .bool true], []) := by
 have r1 : ∀ H, aE (fN.f G (k + 4)) [.int .i64 21] H = _ := fun H => aD (H := H) (iM G k 21) rfl rfl
 have r2 : ∀ H, aE (dV.f G (k + 4)) [mV 21 d n m a imm, (aO 21).v] H = _ := fun H => aD (H := H) (gF G (k + 1) 21 d n m a imm (aO 21) (gG 21)) rfl rfl
 have r3 : ∀ H, aE (cP.f G (k + 4)) [mV 21 d n m a imm] H = _ := fun H => aD (H := H) (fJ G (k + 3) ⟨21, d, n, m, a, imm⟩ h) rfl rfl
 unfold aU at h
 rw [Bool.and_eq_true] at h
 obtain ⟨_, h⟩ := h
 simp only at h
 rw [h] at r2
 simp [aO, eQ, gC, dL, gL, eU, dM] at h
 have c1 : aJ .u32 (I6 d) = some (dF d) := bD (by omega) (by omega)
 have c2 : aJ .u32 (I6 n) = some (dF n) := bD (by omega) (by omega)
 have c3 : aJ .u32 (I6 m) = some (dF m) := bD (by omega) (by omega)
 have s1 := cW Tryd.prog 71 true (v := n) (p := 32) (b := 5) 5 rfl (by decide) rfl (by omega) (by omega)
 have s2 := cW Tryd.prog 71 true (v := m) (p := 65536) (b := 16) 16 rfl (by decide) rfl (by omega) (by omega)
 have o1 := gT Tryd.prog 71 false (x := 1409286144) (v := d) (q := 1) 0 rfl (by omega) (by omega) (by omega) (by omega) (by omega)
 have o2 := dG Tryd.prog 71 false (x := 1409286144 + d) (v := n) (p := 32) (q := 1) 5 0 rfl rfl (by omega) (by omega) (by omega) (by omega) (by omega)
 have o3 := dG Tryd.prog 71 false (x := 1409286144 + d + n * 32) (v := m) (p := 65536) (q := 1) 16 0 rfl rfl (by omega) (by omega) (by omega) (by omega) (by omega)
 have e4 : fC 21 a imm = a + imm % 524288 * 32 := rfl
 have o4 : aQ Tryd.prog .or 71 false (dF (1409286144 + d + n * 32 + m * 65536)) (dF (fC 21 a imm)) = some (dF (1409286144 + d + n * 32 + m * 65536 + fC 21 a imm)) := by
  rw [e4]
  exact kR Tryd.prog 71 false (zL (by have := gJ (x := 1409286144 + d + n * 32 + m * 65536) (v := a) (p := 1) (q := 16) 0 4 rfl rfl (by omega) (by omega) (by omega) (by omega); rwa [Int.mul_one] at this) (gJ (x := 1409286144 + d + n * 32 + m * 65536) (v := imm % 524288) (p := 32) (q := 524288) 5 19 rfl rfl (by omega) (by omega) (by omega) (by omega)) (gJ (x := a) (v := imm % 524288) (p := 32) (q := 524288) 5 19 rfl rfl (by omega) (by omega) (by omega) (by omega)) (by omega)) (by omega)
 have ef : aO 21 = ⟨(aO 21).nm, 1409286144, false, false, false, (aO 21).a, (aO 21).b⟩ := rfl
 have eo : kG 21 = true := rfl
 have ew : cS ⟨21, d, n, m, a, imm⟩ = 1409286144 + d + n * 32 + m * 65536 + fC 21 a imm := rfl
 rw [ew]
 rw [eo, ef] at r1
 rw [ef] at r2
 rw [bB.step]
 unfold bB.c
 unfold Form.v at r1 r2
 clear e4 ef eo h ew
 generalize (aO 21).nm = nm at *
 generalize (aO 21).a = fa at *
 generalize (aO 21).b = fb at *
 generalize fC 21 a imm = z at *
 refine eO ?_
 have fx := aPt r1 <| aPt r2 <| aPt r3 <| aPt c1 <| aPt c2 <| aPt c3 <| aPt s1 <| aPt s2 <| aPt o1 <| aPt o2 <| aPt o3 <| o4
 refine gI ?_
 exact w2 rfl rfl rfl
theorem aLf (G : aG) (k : Nat) (d n m a imm : Int) (h : aU ⟨22, d, n, m, a, imm⟩ = true) : bB.f G (k + 5) [mV 22 d n m a imm] [] = some (.tup [dF (cS ⟨22, d, n, m, a, imm⟩), .bool true], []) := by
 have r1 : ∀ H, aE (fN.f G (k + 4)) [.int .i64 22] H = _ := fun H => aD (H := H) (iM G k 22) rfl rfl
 have r2 : ∀ H, aE (dV.f G (k + 4)) [mV 22 d n m a imm, (aO 22).v] H = _ := fun H => aD (H := H) (gF G (k + 1) 22 d n m a imm (aO 22) (gG 22)) rfl rfl
 have r3 : ∀ H, aE (cP.f G (k + 4)) [mV 22 d n m a imm] H = _ := fun H => aD (H := H) (fJ G (k + 3) ⟨22, d, n, m, a, imm⟩ h) rfl rfl
 unfold aU at h
 rw [Bool.and_eq_true] at h
 obtain ⟨_, h⟩ := h
 simp only at h
 rw [h] at r2
 simp [aO, eQ, gC, dL, gL, eU, dM] at h
 have c1 : aJ .u32 (I6 d) = some (dF d) := bD (by omega) (by omega)
 have c2 : aJ .u32 (I6 n) = some (dF n) := bD (by omega) (by omega)
 have c3 : aJ .u32 (I6 m) = some (dF m) := bD (by omega) (by omega)
 have s1 := cW Tryd.prog 71 true (v := n) (p := 32) (b := 5) 5 rfl (by decide) rfl (by omega) (by omega)
 have s2 := cW Tryd.prog 71 true (v := m) (p := 65536) (b := 16) 16 rfl (by decide) rfl (by omega) (by omega)
 have o1 := gT Tryd.prog 71 false (x := 3019898880) (v := d) (q := 32) 5 rfl (by omega) (by omega) (by omega) (by omega) (by omega)
 have o2 := dG Tryd.prog 71 false (x := 3019898880 + d) (v := n) (p := 32) (q := 1) 5 0 rfl rfl (by omega) (by omega) (by omega) (by omega) (by omega)
 have o3 := dG Tryd.prog 71 false (x := 3019898880 + d + n * 32) (v := m) (p := 65536) (q := 1) 16 0 rfl rfl (by omega) (by omega) (by omega) (by omega) (by omega)
 have e4 : fC 22 a imm = imm % 524288 * 32 := rfl
 have o4 : aQ Tryd.prog .or 71 false (dF (3019898880 + d + n * 32 + m * 65536)) (dF (fC 22 a imm)) = some (dF (3019898880 + d + n * 32 + m * 65536 + fC 22 a imm)) := by
  rw [e4]
  exact kR Tryd.prog 71 false ((gJ (x := 3019898880 + d + n * 32 + m * 65536) (v := imm % 524288) (p := 32) (q := 524288) 5 19 rfl rfl (by omega) (by omega) (by omega) (by omega))) (by omega)
 have ef : aO 22 = ⟨(aO 22).nm, 3019898880, true, false, false, (aO 22).a, (aO 22).b⟩ := rfl
 have eo : kG 22 = true := rfl
 have ew : cS ⟨22, d, n, m, a, imm⟩ = 3019898880 + d + n * 32 + m * 65536 + fC 22 a imm := rfl
 rw [ew]
 rw [eo, ef] at r1
 rw [ef] at r2
 rw [bB.step]
 unfold bB.c
 unfold Form.v at r1 r2
 clear e4 ef eo h ew
 generalize (aO 22).nm = nm at *
 generalize (aO 22).a = fa at *
 generalize (aO 22).b = fb at *
 generalize fC 22 a imm = z at *
 refine eO ?_
 have fx := aPt r1 <| aPt r2 <| aPt r3 <| aPt c1 <| aPt c2 <| aPt c3 <| aPt s1 <| aPt s2 <| aPt o1 <| aPt o2 <| aPt o3 <| o4
 refine gI ?_
 exact w2 rfl rfl rfl
theorem aLg (G : aG) (k : Nat) (d n m a imm : Int) (h : aU ⟨23, d, n, m, a, imm⟩ = true) : bB.f G (k + 5) [mV 23 d n m a imm] [] = some (.tup [dF (cS ⟨23, d, n, m, a, imm⟩), .bool true], []) := by
 have r1 : ∀ H, aE (fN.f G (k + 4)) [.int .i64 23] H = _ := fun H => aD (H := H) (iM G k 23) rfl rfl
 have r2 : ∀ H, aE (dV.f G (k + 4)) [mV 23 d n m a imm, (aO 23).v] H = _ := fun H => aD (H := H) (gF G (k + 1) 23 d n m a imm (aO 23) (gG 23)) rfl rfl
 have r3 : ∀ H, aE (cP.f G (k + 4)) [mV 23 d n m a imm] H = _ := fun H => aD (H := H) (fJ G (k + 3) ⟨23, d, n, m, a, imm⟩ h) rfl rfl
 unfold aU at h
 rw [Bool.and_eq_true] at h
 obtain ⟨_, h⟩ := h
 simp only at h
 rw [h] at r2
 simp [aO, eQ, gC, dL, gL, eU, dM] at h
 have c1 : aJ .u32 (I6 d) = some (dF d) := bD (by omega) (by omega)
 have c2 : aJ .u32 (I6 n) = some (dF n) := bD (by omega) (by omega)
 have c3 : aJ .u32 (I6 m) = some (dF m) := bD (by omega) (by omega)
 have s1 := cW Tryd.prog 71 true (v := n) (p := 32) (b := 5) 5 rfl (by decide) rfl (by omega) (by omega)
 have s2 := cW Tryd.prog 71 true (v := m) (p := 65536) (b := 16) 16 rfl (by decide) rfl (by omega) (by omega)
 have o1 := gT Tryd.prog 71 false (x := 3036676096) (v := d) (q := 32) 5 rfl (by omega) (by omega) (by omega) (by omega) (by omega)
 have o2 := dG Tryd.prog 71 false (x := 3036676096 + d) (v := n) (p := 32) (q := 1) 5 0 rfl rfl (by omega) (by omega) (by omega) (by omega) (by omega)
 have o3 := dG Tryd.prog 71 false (x := 3036676096 + d + n * 32) (v := m) (p := 65536) (q := 1) 16 0 rfl rfl (by omega) (by omega) (by omega) (by omega) (by omega)
 have e4 : fC 23 a imm = imm % 524288 * 32 := rfl
 have o4 : aQ Tryd.prog .or 71 false (dF (3036676096 + d + n * 32 + m * 65536)) (dF (fC 23 a imm)) = some (dF (3036676096 + d + n * 32 + m * 65536 + fC 23 a imm)) := by
  rw [e4]
  exact kR Tryd.prog 71 false ((gJ (x := 3036676096 + d + n * 32 + m * 65536) (v := imm % 524288) (p := 32) (q := 524288) 5 19 rfl rfl (by omega) (by omega) (by omega) (by omega))) (by omega)
 have ef : aO 23 = ⟨(aO 23).nm, 3036676096, true, false, false, (aO 23).a, (aO 23).b⟩ := rfl
 have eo : kG 23 = true := rfl
 have ew : cS ⟨23, d, n, m, a, imm⟩ = 3036676096 + d + n * 32 + m * 65536 + fC 23 a imm := rfl
 rw [ew]
 rw [eo, ef] at r1
 rw [ef] at r2
 rw [bB.step]
 unfold bB.c
 unfold Form.v at r1 r2
 clear e4 ef eo h ew
 generalize (aO 23).nm = nm at *
 generalize (aO 23).a = fa at *
 generalize (aO 23).b = fb at *
 generalize fC 23 a imm = z at *
 refine eO ?_
 have fx := aPt r1 <| aPt r2 <| aPt r3 <| aPt c1 <| aPt c2 <| aPt c3 <| aPt s1 <| aPt s2 <| aPt o1 <| aPt o2 <| aPt o3 <| o4
 refine gI ?_
 exact w2 rfl rfl rfl
theorem aLh (G : aG) (k : Nat) (d n m a imm : Int) (h : aU ⟨24, d, n, m, a, imm⟩ = true) : bB.f G (k + 5) [mV 24 d n m a imm] [] = some (.tup [dF (cS ⟨24, d, n, m, a, imm⟩), .bool true], []) := by
 have r1 : ∀ H, aE (fN.f G (k + 4)) [.int .i64 24] H = _ := fun H => aD (H := H) (iM G k 24) rfl rfl
 have r2 : ∀ H, aE (dV.f G (k + 4)) [mV 24 d n m a imm, (aO 24).v] H = _ := fun H => aD (H := H) (gF G (k + 1) 24 d n m a imm (aO 24) (gG 24)) rfl rfl
 have r3 : ∀ H, aE (cP.f G (k + 4)) [mV 24 d n m a imm] H = _ := fun H => aD (H := H) (fJ G (k + 3) ⟨24, d, n, m, a, imm⟩ h) rfl rfl
 unfold aU at h
 rw [Bool.and_eq_true] at h
 obtain ⟨_, h⟩ := h
 simp only at h
 rw [h] at r2
 simp [aO, eQ, gC, dL, gL, eU, dM] at h
 have c1 : aJ .u32 (I6 d) = some (dF d) := bD (by omega) (by omega)
 have c2 : aJ .u32 (I6 n) = some (dF n) := bD (by omega) (by omega)
 have c3 : aJ .u32 (I6 m) = some (dF m) := bD (by omega) (by omega)
 have s1 := cW Tryd.prog 71 true (v := n) (p := 32) (b := 5) 5 rfl (by decide) rfl (by omega) (by omega)
 have s2 := cW Tryd.prog 71 true (v := m) (p := 65536) (b := 16) 16 rfl (by decide) rfl (by omega) (by omega)
 have o1 := gT Tryd.prog 71 false (x := 3560964096) (v := d) (q := 1) 0 rfl (by omega) (by omega) (by omega) (by omega) (by omega)
 have o2 := dG Tryd.prog 71 false (x := 3560964096 + d) (v := n) (p := 32) (q := 1) 5 0 rfl rfl (by omega) (by omega) (by omega) (by omega) (by omega)
 have o3 := dG Tryd.prog 71 false (x := 3560964096 + d + n * 32) (v := m) (p := 65536) (q := 1) 16 0 rfl rfl (by omega) (by omega) (by omega) (by omega) (by omega)
 have e4 : fC 24 a imm = imm * 32 := rfl
 have o4 : aQ Tryd.prog .or 71 false (dF (3560964096 + d + n * 32 + m * 65536)) (dF (fC 24 a imm)) = some (dF (3560964096 + d + n * 32 + m * 65536 + fC 24 a imm)) := by
  rw [e4]
  exact kR Tryd.prog 71 false ((gJ (x := 3560964096 + d + n * 32 + m * 65536) (v := imm) (p := 32) (q := 65536) 5 16 rfl rfl (by omega) (by omega) (by omega) (by omega))) (by omega)
 have ef : aO 24 = ⟨(aO 24).nm, 3560964096, false, false, false, (aO 24).a, (aO 24).b⟩ := rfl
 have eo : kG 24 = true := rfl
 have ew : cS ⟨24, d, n, m, a, imm⟩ = 3560964096 + d + n * 32 + m * 65536 + fC 24 a imm := rfl
 rw [ew]
 rw [eo, ef] at r1
 rw [ef] at r2
 rw [bB.step]
 unfold bB.c
 unfold Form.v at r1 r2
 clear e4 ef eo h ew
 generalize (aO 24).nm = nm at *
 generalize (aO 24).a = fa at *
 generalize (aO 24).b = fb at *
 generalize fC 24 a imm = z at *
 refine eO ?_
 have fx := aPt r1 <| aPt r2 <| aPt r3 <| aPt c1 <| aPt c2 <| aPt c3 <| aPt s1 <| aPt s2 <| aPt o1 <| aPt o2 <| aPt o3 <| o4
 refine gI ?_
 exact w2 rfl rfl rfl
theorem aHn (G : aG) (k : Nat) (i : MI) : bB.f G (k + 5) [i.v] [] = some (.tup [dF (oO i), .bool (aU i)], []) := by
 cases hr : aU i
 ·have e : oO i = 0 := by unfold oO; rw [hr]; rfl
  rw [e]
  obtain ⟨op, d, n, m, a, imm⟩ := i
  show bB.f G (k + 5) [mV op d n m a imm] [] = _
  rw [bB.step]
  unfold bB.c
  unfold aU at hr
  have r1 : ∀ H, aE (fN.f G (k + 4)) [I6 op] H = _ := fun H => aD (H := H) (iM G k op) rfl rfl
  have r2 : ∀ H, aE (dV.f G (k + 4)) [mV op d n m a imm, (aO op).v] H = _ := fun H => aD (H := H) (gF G (k + 1) op d n m a imm (aO op) (gG op)) rfl rfl
  simp only at hr
  generalize eQ ⟨op, d, n, m, a, imm⟩ (aO op) = g2 at *
  generalize kG op = g1 at *
  obtain ⟨nm, w, fd, fn, fm, fa, fb⟩ := aO op
  unfold Form.v at *
  refine eO ?_
  cases g1
  ·have fx := aPt r1 <| r2
   refine gI ?_
   exact w2 rfl rfl rfl
  ·cases g2
   ·have fx := aPt r1 <| r2
    refine gI ?_
    exact w2 rfl rfl rfl
   ·cases hr
 ·have e : oO i = cS i := by unfold oO; rw [hr]; rfl
  rw [e]
  obtain ⟨op, d, n, m, a, imm⟩ := i
  show bB.f G (k + 5) [mV op d n m a imm] [] = _
  have h24 := (Bool.and_eq_true_iff.1 hr).1
  have h24 : 1 ≤ op ∧ op ≤ 24 := of_decide_eq_true h24
  rcases yF h24 with rfl | rfl | rfl | rfl | rfl | rfl | rfl | rfl | rfl | rfl | rfl | rfl | rfl | rfl | rfl | rfl | rfl | rfl | rfl | rfl | rfl | rfl | rfl | rfl
  ·exact aNl G k d n m a imm hr
  ·exact aNm G k d n m a imm hr
  ·exact aNn G k d n m a imm hr
  ·exact aNo G k d n m a imm hr
  ·exact aNp G k d n m a imm hr
  ·exact aNq G k d n m a imm hr
  ·exact aNr G k d n m a imm hr
  ·exact aNs G k d n m a imm hr
  ·exact aNt G k d n m a imm hr
  ·exact aKT G k d n m a imm hr
  ·exact aKU G k d n m a imm hr
  ·exact aKV G k d n m a imm hr
  ·exact aKW G k d n m a imm hr
  ·exact aKX G k d n m a imm hr
  ·exact aKY G k d n m a imm hr
  ·exact aKZ G k d n m a imm hr
  ·exact aLa G k d n m a imm hr
  ·exact aLb G k d n m a imm hr
  ·exact aLc G k d n m a imm hr
  ·exact aLd G k d n m a imm hr
  ·exact aLe G k d n m a imm hr
  ·exact aLf G k d n m a imm hr
  ·exact aLg G k d n m a imm hr
  ·exact aLh G k d n m a imm hr
def x1F (v : Int) : Int := if v % 2 = 0 then v + 1 else v - 1
def aFe (n h : Int) : Int := if h ≤ n then n - 2 * h else n
def exA (op w : Int) : Int :=
 if op = 1 ∨ op = 2 then w / 2097152 % 4
 else if op = 8 then w / 1024 % 32
 else if op = 16 then w / 4096 % 16
 else if op = 17 then x1F (w / 4096 % 16)
 else if op = 21 then w % 16
 else 0
def exI (op w : Int) : Int :=
 if op = 1 ∨ op = 2 then w / 32 % 65536
 else if op = 10 ∨ op = 11 ∨ op = 18 ∨ op = 19 then w / 1024 % 4096
 else if op = 12 then 63 - w / 1024 % 64
 else if op = 13 ∨ op = 14 then w / 65536 % 64
 else if op = 20 then aFe (w % 67108864) 33554432
 else if op = 21 ∨ op = 22 ∨ op = 23 then aFe (w / 32 % 524288) 262144
 else if op = 24 then w / 32 % 65536
 else 0
def asF (op w : Int) : MI := ⟨op, if (aO op).d = true then w % 32 else 0, if (aO op).n = true then w / 32 % 32 else 0, if (aO op).m = true then w / 65536 % 32 else 0, exA op w, exI op w⟩
theorem aEb (P : Program) (t : Nat) (c : Bool) (kk : IntKind) {v p b : Int} (s : Nat) (hb : b = (s : Int)) (hs : s ≤ 32) (hp : p = ((2 ^ s : Nat) : Int)) (h0 : 0 ≤ v) : aQ P .shr t c (dF v) (.int kk b) = some (dF (v / p)) := by
 subst hb
 rw [yI _ _ _ _ _ _ _ (Int.natCast_nonneg s), Int.toNat_natCast]
 have e : min s IntKind.u32.bits = s := Nat.min_eq_left hs
 have e2 : ((2 : Int) ^ s) = p := by rw [hp]; exact_mod_cast rfl
 rw [e, e2, Int.fdiv_eq_ediv_of_nonneg _ (by rw [hp]; exact Int.natCast_nonneg _)]
theorem aLN (P : Program) (t : Nat) (c : Bool) {a : Int} (h0 : 0 ≤ a) (h1 : a < 16) : aQ P .xor t c (I6 a) (.int .i64 1) = some (I6 (x1F a)) := by
 have h : a = 0 ∨ a = 1 ∨ a = 2 ∨ a = 3 ∨ a = 4 ∨ a = 5 ∨ a = 6 ∨ a = 7 ∨ a = 8 ∨ a = 9 ∨ a = 10 ∨ a = 11 ∨ a = 12 ∨ a = 13 ∨ a = 14 ∨ a = 15 := by omega
 rcases h with rfl | rfl | rfl | rfl | rfl | rfl | rfl | rfl | rfl | rfl | rfl | rfl | rfl | rfl | rfl | rfl <;> (clear h0 h1; show _ = _; kernel_rfl)
theorem pL {x y : AV} {H : aF} (hx : cG 0 x = true) (hy : cG 0 y = true) {m : Option AV} (hm : m = some x) : fL [m, some y] 0 H = some (.ret, [.tup [x, y]], []) := by
 subst hm
 have : cG 0 (.tup [x, y]) = true := by simp [cG, dE, hx, hy]
 unfold fL
 exact zP hx hy H
def asB (op w : Int) : Bool := aU (asF op w) && decide (cS (asF op w) = w)
def okB (op w : Int) : Bool := asB op w && (decide (op ≠ 12) || decide ((asF op w).imm ≠ 0))
def aBd : Nat → Int → Int → Option MI
 | 0, _, _ => none
 | d + 1, op, w => if okB op w = true then some (asF op w) else aBd d (op + 1) w
def ofF (w : Int) : Option MI := aBd 24 1 w
def ofV (q : Option MI) : AV := match q with
 | some i => .tup [i.v, .bool true]
 | none => .tup [mV 0 0 0 0 0 0, .bool false]
def aCn (q : Option MI) (w : Int) (T : aF) : fZ := match q with
 | some i => (.ret, [dF w, .ptr 0 1 0 0, .bool true, I6 i.op], ⟨57, 6, [i.v]⟩ :: T)
 | none => (.exit 0, [dF w, .ptr 0 1 0 0, .bool false, I6 25], ⟨57, 6, [mV 0 0 0 0 0 0]⟩ :: T)
theorem qF {i : MI} (h : aU i = true) : 1 ≤ i.op ∧ i.op ≤ 24 := by
 unfold aU at h
 rw [Bool.and_eq_true] at h
 exact of_decide_eq_true h.1
def cls (w : Int) : Int :=
 if w < 402653184 then 20 else if w < 1426063360 then 21 else if w < 2317352960 then 5 else if w < 2334130176 then 3 else if w < 2436890624 then 10
 else if w < 2474639360 then 14 else if w < 2594177024 then (if w / 1024 % 4 = 1 then 17 else 16) else if w < 2602565632 then 8 else if w < 2615148544 then 9
 else if w < 2854223872 then 6 else if w < 3036676096 then 22 else if w < 3053453312 then 23 else if w < 3391094784 then 7 else if w < 3407872000 then 4
 else if w < 3510632448 then 11 else if w < 3539992576 then 1 else if w < 3548381184 then (if w / 1024 % 64 = 63 then 13 else 12) else if w < 3563061248 then 24
 else if w < 3944742912 then 15 else if w < 4076863488 then 2 else if w < 4181721088 then 19 else 18
theorem rM {i : MI} (h : aU i = true) : 0 ≤ cS i ∧ cS i < 4294967296 ∧ asF i.op (cS i) = i ∧ cls (cS i) = (if i.op = 12 ∧ i.imm = 0 then 13 else i.op) := by
 have h24 := qF h
 obtain ⟨op, d, n, m, a, imm⟩ := i
 unfold aU at h
 rw [Bool.and_eq_true] at h
 obtain ⟨_, h⟩ := h
 simp only at h24
 obtain ⟨w, hw⟩ : ∃ w, w = cS ⟨op, d, n, m, a, imm⟩ := ⟨_, rfl⟩
 rw [← hw]
 rcases yF h24 with rfl | rfl | rfl | rfl | rfl | rfl | rfl | rfl | rfl | rfl | rfl | rfl | rfl | rfl | rfl | rfl | rfl | rfl | rfl | rfl | rfl | rfl | rfl | rfl
 all_goals (
  simp [aO, eQ, gC, dL, gL, eU, dM] at h
  have hw2 := hw
  simp [cS, aO, fC] at hw2
  clear hw
  refine ⟨by omega, by omega, ?_, ?_⟩
  ·simp [asF, aO, exA, exI, aFe, x1F]
   first | omega | (refine ⟨?_, ?_, ?_, ?_⟩ <;> omega)
  ·unfold cls
   simp (disch := omega) only [if_pos, if_neg]
   first | done | omega | (by_cases hi : imm = 0 <;> simp [hi] <;> omega))
theorem aJB {op w : Int} : asB op w = true ↔ aU (asF op w) = true ∧ cS (asF op w) = w := by
 unfold asB; simp
theorem uY {op w : Int} : okB op w = true ↔ (aU (asF op w) = true ∧ cS (asF op w) = w) ∧ ¬ (op = 12 ∧ (asF op w).imm = 0) := by
 unfold okB
 rw [Bool.and_eq_true, aJB]
 simp
 intro _ _
 constructor
 ·rintro (h | h)
  ·intro h2; exact absurd h2 h
  ·intro _; exact h
 ·intro h
  by_cases h2 : op = 12
  ·exact .inr (h h2)
  ·exact .inl h2
theorem aKe {op w : Int} (h : okB op w = true) : cls w = op := by
 obtain ⟨⟨h1, h2⟩, h3⟩ := uY.1 h
 have := (rM h1).2.2.2
 rw [h2] at this
 have h3' : ¬ ((asF op w).op = 12 ∧ (asF op w).imm = 0) := h3
 rw [this, if_neg h3']
 rfl
theorem aBe : ∀ {d : Nat} {op w : Int}, aBd d op w = none → ∀ o : Int, op ≤ o → o < op + d → okB o w = false
 | 0, op, w, _, o, h1, h2 => by omega
 | d + 1, op, w, h, o, h1, h2 => by
  unfold aBd at h
  by_cases hk : okB op w = true
  ·rw [if_pos hk] at h; cases h
  ·rw [if_neg hk] at h
   by_cases ho : o = op
   ·subst ho; simpa using hk
   ·exact aBe h o (by omega) (by omega)
theorem wA : ∀ {d : Nat} {op w : Int} {i : MI}, aBd d op w = some i → ∃ o, okB o w = true ∧ i = asF o w ∧ op ≤ o ∧ o < op + d
 | 0, op, w, i, h => by cases h
 | d + 1, op, w, i, h => by
  unfold aBd at h
  by_cases hk : okB op w = true
  ·rw [if_pos hk] at h
   simp at h
   exact ⟨op, hk, h.symm, by omega, by omega⟩
  ·rw [if_neg hk] at h
   obtain ⟨o, h1, h2, h3, h4⟩ := wA h
   exact ⟨o, h1, h2, by omega, by omega⟩
theorem aCo {w : Int} {i : MI} (h : ofF w = some i) : aU i = true ∧ cS i = w ∧ ¬ (i.op = 12 ∧ i.imm = 0) := by
 obtain ⟨o, h1, rfl, _, _⟩ := wA h
 obtain ⟨⟨h2, h3⟩, h4⟩ := uY.1 h1
 exact ⟨h2, h3, h4⟩
theorem aCp {i : MI} (h : aU i = true) (hs : ¬ (i.op = 12 ∧ i.imm = 0)) : ofF (cS i) = some i := by
 obtain ⟨w0, w1, w2, w3⟩ := rM h
 rw [if_neg hs] at w3
 have h24 := qF h
 have hk : okB i.op (cS i) = true := by
  rw [uY, w2]
  exact ⟨⟨h, rfl⟩, hs⟩
 cases hq : ofF (cS i) with
 | none =>
  have := aBe hq i.op h24.1 (by omega)
  rw [hk] at this; cases this
 | some j =>
  obtain ⟨o, h1, rfl, _, _⟩ := wA hq
  have := aKe h1
  rw [w3] at this
  rw [← this, w2]
theorem aEO {w : Int} {i : MI} : ofF w = some i ↔ aU i = true ∧ cS i = w ∧ ¬ (i.op = 12 ∧ i.imm = 0) := by
 constructor
 ·exact aCo
 ·rintro ⟨h1, rfl, h3⟩; exact aCp h1 h3
theorem mC (a : Nat) (h : a < 18446744073709551616) : (BitVec.ofInt 64 (a : Int)).toNat = a := by
 rw [BitVec.toNat_ofInt]
 omega
theorem vQ (a b : Nat) (ha : a < 18446744073709551616) (hb : b < 18446744073709551616) : bits .and .u64 (a : Int) (b : Int) = ((a &&& b : Nat) : Int) := by
 have hx : a &&& b ≤ a := Nat.and_le_left
 show IntKind.u64.wrap ((BitVec.ofInt 64 (a : Int) &&& BitVec.ofInt 64 (b : Int)).toNat : Int) = _
 rw [BitVec.toNat_and, mC a ha, mC b hb, fA (by omega) (by omega)]
theorem aJj (a b : Nat) (ha : a < 18446744073709551616) (hb : b < 18446744073709551616) : bits .or .u64 (a : Int) (b : Int) = ((a ||| b : Nat) : Int) := by
 have hx : a ||| b < 2 ^ 64 := Nat.or_lt_two_pow (by omega) (by omega)
 show IntKind.u64.wrap ((BitVec.ofInt 64 (a : Int) ||| BitVec.ofInt 64 (b : Int)).toNat : Int) = _
 rw [BitVec.toNat_or, mC a ha, mC b hb, fA (by omega) (by omega)]
theorem yV (a b : Nat) (ha : a < 18446744073709551616) (hb : b < 18446744073709551616) : bits .xor .u64 (a : Int) (b : Int) = ((a ^^^ b : Nat) : Int) := by
 have hx : a ^^^ b < 2 ^ 64 := Nat.xor_lt_two_pow (by omega) (by omega)
 show IntKind.u64.wrap ((BitVec.ofInt 64 (a : Int) ^^^ BitVec.ofInt 64 (b : Int)).toNat : Int) = _
 rw [BitVec.toNat_xor, mC a ha, mC b hb, fA (by omega) (by omega)]
theorem qJ (n : Nat) : IntKind.u64.wrap (n : Int) = ((n % 18446744073709551616 : Nat) : Int) := by rw [nG]; rfl
theorem qH (P : Program) (t : Nat) (c : Bool) (a b : Nat) : aQ P .add t c (Un a) (Un b) = some (Un ((a + b) % 18446744073709551616)) := by
 rw [kA, ← Int.natCast_add, qJ]
theorem vR (P : Program) (t : Nat) (c : Bool) (a b : Nat) : aQ P .mul t c (Un a) (Un b) = some (Un (a * b % 18446744073709551616)) := by
 rw [yH, ← Int.natCast_mul, qJ]
theorem yU (P : Program) (t : Nat) (c : Bool) (a b : Nat) (hb : b < 18446744073709551616) : aQ P .sub t c (Un a) (Un b) = some (Un ((a + 18446744073709551616 - b) % 18446744073709551616)) := by
 rw [yJ, nG]; congr 2; omega
theorem sH (P : Program) (t : Nat) (c : Bool) (k : IntKind) (a n : Nat) (h : n ≤ 64) : aQ P .shr t c (Un a) (.int k (n : Int)) = some (Un (a / 2 ^ n)) := by
 rw [yI _ _ _ _ _ _ _ (Int.natCast_nonneg n)]
 have e : min ((n : Int)).toNat IntKind.u64.bits = n := by rw [Int.toNat_natCast]; exact Nat.min_eq_left h
 rw [e, aCe]
theorem vS (P : Program) (t : Nat) (c : Bool) (k : IntKind) (a n : Nat) (h : n ≤ 64) : aQ P .shl t c (Un a) (.int k (n : Int)) = some (Un (a * 2 ^ n % 18446744073709551616)) := by
 rw [aFB _ _ _ _ _ _ _ (Int.natCast_nonneg n)]
 have e : min ((n : Int)).toNat IntKind.u64.bits = n := by rw [Int.toNat_natCast]; exact Nat.min_eq_left h
 have e2 : ((a : Int) * 2 ^ n : Int) = ((a * 2 ^ n : Nat) : Int) := by push_cast; rfl
 rw [e, e2, qJ]
def mI (a : Nat) : Int := if a ≥ 9223372036854775808 then (a : Int) - 18446744073709551616 else (a : Int)
def u64 (n : Int) : Nat := (n % 18446744073709551616).toNat
theorem iW (n : Int) : u64 n < 18446744073709551616 := by unfold u64; omega
theorem uD (a : Nat) (h : a < 18446744073709551616) : aJ .i64 (Un a) = some (I6 (mI a)) := by
 rw [eW, xZ]; unfold mI; congr 2; split <;> split <;> omega
theorem gX (k : IntKind) (n : Int) : aJ .u64 (.int k n) = some (Un (u64 n)) := by
 rw [eW, nG]; unfold u64; congr 2; omega
theorem aKM (a : Nat) (h : a < 18446744073709551616) : u64 (mI a) = a := by unfold u64 mI; split <;> omega
theorem aKL (n : Nat) (h : n < 18446744073709551616) : u64 (n : Int) = n := by unfold u64; omega
theorem aJZ (x0 x1 y0 y1 : Nat) (hx0 : x0 < 4294967296) (hx1 : x1 < 4294967296) (hy0 : y0 < 4294967296) (hy1 : y1 < 4294967296) :
  x0 * y0 ≤ 18446744065119617025 ∧ x1 * y0 ≤ 18446744065119617025 ∧ x0 * y1 ≤ 18446744065119617025 ∧ x1 * y1 ≤ 18446744065119617025 ∧
  (x1 * 4294967296 + x0) * (y1 * 4294967296 + y0) = x1 * y1 * 18446744073709551616 + (x1 * y0 + x0 * y1) * 4294967296 + x0 * y0 := by
 have b : ∀ p q : Nat, p < 4294967296 → q < 4294967296 → p * q ≤ 18446744065119617025 := fun p q hp hq => by
  have := Nat.mul_le_mul (show p ≤ 4294967295 by omega) (show q ≤ 4294967295 by omega)
  omega
 refine ⟨b _ _ hx0 hy0, b _ _ hx1 hy0, b _ _ hx0 hy1, b _ _ hx1 hy1, ?_⟩
 simp only [Nat.add_mul, Nat.mul_add]
 have e1 : x1 * 4294967296 * (y1 * 4294967296) = x1 * y1 * 18446744073709551616 := by
  rw [Nat.mul_mul_mul_comm]
 have e2 : x1 * 4294967296 * y0 = x1 * y0 * 4294967296 := by rw [Nat.mul_right_comm]
 have e3 : x0 * (y1 * 4294967296) = x0 * y1 * 4294967296 := by rw [Nat.mul_assoc]
 rw [e1, e2, e3]; omega
theorem aMq (n : Nat) : n &&& 4294967295 = n % 4294967296 := Nat.and_two_pow_sub_one_eq_mod n 32
theorem aAa (G : aG) (k : Nat) (a b : Nat) (ha : a < 18446744073709551616) (hb : b < 18446744073709551616) :
  cB.f G (k + 1) [Un a, Un b] [] = some (.tup [Un (a * b / 18446744073709551616), Un (a * b % 18446744073709551616)], []) := by
 rw [cB.step]
 unfold cB.c
 have and32 : ∀ n : Nat, n < 18446744073709551616 → aQ Tryd.prog .and 43 true (Un n) (.int .u64 4294967295) = some (Un (n % 4294967296)) := fun n hn => by
  rw [oR]; have := vQ n 4294967295 hn (by omega); rw [aMq] at this; exact congrArg (fun z => some (AV.int .u64 z)) this
 have shr32 : ∀ n : Nat, aQ Tryd.prog .shr 43 true (Un n) (.int .u64 32) = some (Un (n / 4294967296)) := fun n => sH Tryd.prog 43 true .u64 n 32 (by omega)
 obtain ⟨x0, hx0⟩ : ∃ z, z = a % 4294967296 := ⟨_, rfl⟩
 obtain ⟨x1, hx1⟩ : ∃ z, z = a / 4294967296 := ⟨_, rfl⟩
 obtain ⟨y0, hy0⟩ : ∃ z, z = b % 4294967296 := ⟨_, rfl⟩
 obtain ⟨y1, hy1⟩ : ∃ z, z = b / 4294967296 := ⟨_, rfl⟩
 have c0 := and32 a ha
 have c1 := shr32 a
 have c2 := and32 b hb
 have c3 := shr32 b
 rw [← hx0] at c0
 rw [← hx1] at c1
 rw [← hy0] at c2
 rw [← hy1] at c3
 obtain ⟨b1, b2, b3, b4, hm⟩ := aJZ x0 x1 y0 y1 (by omega) (by omega) (by omega) (by omega)
 have hab : a * b = x1 * y1 * 18446744073709551616 + (x1 * y0 + x0 * y1) * 4294967296 + x0 * y0 := by
  rw [← hm]; congr 1 <;> omega
 have m : ∀ p q : Nat, p * q ≤ 18446744065119617025 → aQ Tryd.prog .mul 43 false (Un p) (Un q) = some (Un (p * q)) := fun p q h => by rw [vR, Nat.mod_eq_of_lt (by omega)]
 have ad : ∀ p q : Nat, p + q < 18446744073709551616 → aQ Tryd.prog .add 43 false (Un p) (Un q) = some (Un (p + q)) := fun p q h => by rw [qH, Nat.mod_eq_of_lt h]
 have c4 := m x0 y0 b1
 have c5 := m x1 y0 b2
 have c10 := m x0 y1 b3
 have c12 := m x1 y1 b4
 have c16 := vR Tryd.prog 43 false a b
 rw [hab] at c16 ⊢
 generalize x0 * y0 = A at *
 generalize x1 * y0 = B at *
 generalize x0 * y1 = C at *
 generalize x1 * y1 = D at *
 have c6 := shr32 A
 have c7 := ad B (A / 4294967296) (by omega)
 obtain ⟨E, hE⟩ : ∃ z, z = B + A / 4294967296 := ⟨_, rfl⟩
 rw [← hE] at c7
 have c8 := and32 E (by omega)
 have c9 := shr32 E
 have c11 := ad (E % 4294967296) C (by omega)
 obtain ⟨F, hF⟩ : ∃ z, z = E % 4294967296 + C := ⟨_, rfl⟩
 rw [← hF] at c11
 have c13 := ad D (E / 4294967296) (by omega)
 have c14 := shr32 F
 have c15 := ad (D + E / 4294967296) (F / 4294967296) (by omega)
 have r1 : (D * 18446744073709551616 + (B + C) * 4294967296 + A) / 18446744073709551616 = D + E / 4294967296 + F / 4294967296 := by omega
 rw [r1]
 generalize (D * 18446744073709551616 + (B + C) * 4294967296 + A) % 18446744073709551616 = Z at *
 generalize D + E / 4294967296 + F / 4294967296 = Y at *
 generalize D + E / 4294967296 = X at *
 generalize F / 4294967296 = X2 at *
 generalize E / 4294967296 = X3 at *
 generalize E % 4294967296 = X4 at *
 generalize A / 4294967296 = X5 at *
 clear hE hF hab hm
 repeat first
  | refine oB (by first | (simp only [aCt, dX, dW, aDq, aDm, aDp, aDn, aDo, qC, oY, aAC, c0, c1, c2, c3, c4, c5, c6, c7, c8, c9, c10, c11, c12, c13, c14, c15, c16]; first | done | (with_reducible exact rfl) | (with_reducible exact ⟨rfl, rfl⟩)) | (with_reducible exact rfl)) ?_
  | refine lB (by first | (simp only [aCt, dX, dW, aDq, aDm, aDp, aDn, aDo, qC, oY, aAC, c0, c1, c2, c3, c4, c5, c6, c7, c8, c9, c10, c11, c12, c13, c14, c15, c16]; first | done | (with_reducible exact rfl) | (with_reducible exact ⟨rfl, rfl⟩)) | (with_reducible exact rfl)) ?_
  | refine oT ?_
  | refine oN ?_
  | refine oX ?_
  | refine oXn ?_
  | refine oXr ?_
  | exact oF (aGJ ..)
  | apply oK
  | refine lT ?_
  | refine lN ?_
  | refine lX ?_
  | refine lXn ?_
  | refine lXr ?_
  | apply lK
  | refine oI ?_
  | refine oJ rfl ?_
  | refine lI ?_
  | refine lJ rfl ?_
  | (with_reducible exact rfl)
 exact oF (zP rfl rfl _)
def aCA (a n : Nat) : Nat := u64 ((mI a).fdiv (2 ^ n))
def oD (d k s : Nat) : Nat := u64 (bits .or .u64 (bits .andNot .u64 d ((65535 * 2 ^ s % 18446744073709551616 : Nat) : Int)) ((k * 2 ^ s % 18446744073709551616 : Nat) : Int))
def jB (op a imm : Int) (d n m x : Nat) (h : Bool) : Nat :=
 if op = 1 then u64 imm * 2 ^ (16 * a).toNat % 18446744073709551616
 else if op = 2 then oD d (u64 imm) (16 * a).toNat
 else if op = 3 then (n + m) % 18446744073709551616
 else if op = 4 then (n + 18446744073709551616 - m) % 18446744073709551616
 else if op = 5 then n &&& m
 else if op = 6 then n ||| m
 else if op = 7 then n ^^^ m
 else if op = 8 then (n * m % 18446744073709551616 + x) % 18446744073709551616
 else if op = 9 then n * m / 18446744073709551616
 else if op = 10 then (n + u64 imm) % 18446744073709551616
 else if op = 11 then (n + 18446744073709551616 - u64 imm) % 18446744073709551616
 else if op = 12 then n * 2 ^ (u64 imm) % 18446744073709551616
 else if op = 13 then n / 2 ^ (u64 imm)
 else if op = 14 then aCA n (u64 imm)
 else if op = 16 then (if h = true then n else m)
 else (if h = true then 1 else 0)
def fits (op a imm : Int) : Prop := (op = 1 ∨ op = 2 → 0 ≤ a ∧ a ≤ 3) ∧ (12 ≤ op → op ≤ 14 → 0 ≤ imm ∧ imm ≤ 63)
def bV (l : List Nat) : List AV := l.map fun n => Un n
theorem bL (l : List Nat) : (bV l).length = l.length := by simp [bV]
theorem iE (n : Nat) (l : List Nat) : dE n (bV l) = true := lG n _ (fun _ => rfl) l
theorem gO (l : List Nat) : eE (bV l) = true := mQ _ (fun _ => rfl) l
theorem kE (l : List Nat) : iZ (bV l) = true := nX _ (fun _ => rfl) l
theorem lQ (l : List Nat) (j : Nat) (h : j < l.length) : (bV l)[j]? = some (Un (l.getD j 0)) := by
 simp [bV, List.getD, List.getElem?_eq_getElem h]
theorem rV (l : List Nat) (j x : Nat) : bV (l.set j x) = (bV l).set j (Un x) := by simp [bV, List.map_set]
abbrev eD (l : List Nat) : AV := .agg (bV l)
structure FL where
 n : Bool
 z : Bool
 c : Bool
 v : Bool
def FL.a (f : FL) : AV := .agg [.bool f.n, .bool f.z, .bool f.c, .bool f.v]
def jD : FL := ⟨false, false, false, false⟩
def cK (r : List Nat) (j : Int) : Nat := if j = 31 then 0 else r.getD j.toNat 0
def fT (r : List Nat) (j : Int) (x : Nat) : List Nat := if j = 31 then r else r.set j.toNat x
def jF (c : Int) (f : FL) : Bool :=
 if c = 0 then f.z else if c = 1 then !f.z else if c = 2 then f.c else if c = 3 then !f.c else if c = 8 then f.c && !f.z else if c = 9 then !f.c || f.z else false
def aFT (a b x : Nat) : FL := ⟨decide (x / 2 ^ 63 = 1), decide (x = 0), decide (b ≤ a), decide (((a ^^^ b) &&& (a ^^^ x)) / 2 ^ 63 = 1)⟩
def sU (a b : Nat) : FL := aFT a b ((a + 18446744073709551616 - b) % 18446744073709551616)
theorem aEC {x y z : AV} (hx : cG 0 x = true) (hy : cG 0 y = true) (hz : cG 0 z = true) (H : aF) : bQ [x, y, z] 0 H = some (.ret, [.tup [x, y, z]], []) := by
 have : cG 0 (.tup [x, y, z]) = true := by simp [cG, dE, hx, hy, hz]
 simp [bQ, qN, lW this, rQ]
section
variable (G : aG) (k : Nat)
def cY (i : MI) (r : List Nat) (f : FL) : List Nat × FL :=
 if i.op = 15 then (r, sU (cK r i.n) (cK r i.m))
 else if i.op = 16 ∨ i.op = 17 then (fT r i.d (jB i.op i.a i.imm (cK r i.d) (cK r i.n) (cK r i.m) 0 (jF i.a f)), f)
 else if i.op = 8 then (fT r i.d (jB i.op i.a i.imm (cK r i.d) (cK r i.n) (cK r i.m) (cK r i.a) false), f)
 else (fT r i.d (jB i.op i.a i.imm (cK r i.d) (cK r i.n) (cK r i.m) 0 false), f)
structure MI.Ok (i : MI) : Prop where
 d : 0 ≤ i.d ∧ i.d ≤ 31
 n : 0 ≤ i.n ∧ i.n ≤ 31
 m : 0 ≤ i.m ∧ i.m ≤ 31
 a : 0 ≤ i.a ∧ i.a ≤ 31
 fits : fits i.op i.a i.imm
structure RgOk (r : List Nat) : Prop where
 len : r.length = 31
 lt : ∀ x ∈ r, x < 18446744073709551616
theorem RgOk.get {r : List Nat} (h : RgOk r) (j : Int) : cK r j < 18446744073709551616 := by
 unfold cK
 split
 ·decide
 ·rw [List.getD_eq_getElem?_getD]
  cases hq : r[j.toNat]? with
  | none => decide
  | some x => exact h.lt x (List.mem_of_getElem? hq)
theorem iY {i : MI} (h : aU i = true) : (1 ≤ i.op ∧ i.op ≤ 24) ∧ i.Ok := by
 obtain ⟨op, d, n, m, a, imm⟩ := i
 unfold aU at h
 rw [Bool.and_eq_true] at h
 have h24 : 1 ≤ op ∧ op ≤ 24 := of_decide_eq_true h.1
 refine ⟨h24, ?_⟩
 obtain ⟨_, h⟩ := h
 rcases yF h24 with rfl | rfl | rfl | rfl | rfl | rfl | rfl | rfl | rfl | rfl | rfl | rfl | rfl | rfl | rfl | rfl | rfl | rfl | rfl | rfl | rfl | rfl | rfl | rfl
 all_goals (
  simp [aO, eQ, gC, dL, gL, eU, dM] at h
  constructor <;> simp [fits] <;> omega)
def aHZ (i : MI) (r : List Nat) (f : FL) : List Nat × FL × Bool :=
 if aU i = true ∧ i.op ≤ 17 then ((cY i r f).1, (cY i r f).2, true) else (List.replicate 31 0, jD, false)
abbrev pF (q : List Nat × FL × Bool) : AV := .tup [eD q.1, q.2.1.a, .bool q.2.2]
theorem aGU {j : Nat} {H : aF} {r : List Nat} (hr : r.length = 31) (e : H[j]? = some ⟨44, 31, [eD r]⟩) : aC G true 31 (.ptr j 1 0 0) H = some (eD r) := by
 unfold aC
 simp only [e, List.length_singleton, if_true, List.getElem?_cons_zero, AV.cells, mA]
 show (if 0 + 31 ≤ (bV r).length then some (AV.agg (List.take 31 (List.drop 0 (bV r)))) else none) = _
 rw [if_pos (by rw [bL, hr]; omega), List.drop_zero, List.take_of_length_le (by rw [bL, hr]; omega)]
theorem yT {r : List Nat} (h : RgOk r) (j : Int) (x : Nat) (hx : x < 18446744073709551616) : RgOk (fT r j x) := by
 unfold fT
 split
 ·exact h
 ·refine ⟨by simp [h.len], fun y hy => ?_⟩
  rcases List.mem_or_eq_of_mem_set hy with h1 | rfl
  ·exact h.lt y h1
  ·exact hx
theorem aHS (op a imm : Int) (d n m x : Nat) (h : Bool) (hd : d < 18446744073709551616) (hn : n < 18446744073709551616) (hm : m < 18446744073709551616) : jB op a imm d n m x h < 18446744073709551616 := by
 have hM : ∀ n : Nat, n % 18446744073709551616 < 18446744073709551616 := fun n => Nat.mod_lt _ (by decide)
 unfold jB
 by_cases e1 : op = 1
 ·rw [if_pos e1]; exact hM _
 rw [if_neg e1]
 by_cases e2 : op = 2
 ·rw [if_pos e2]; exact iW _
 rw [if_neg e2]
 by_cases e3 : op = 3
 ·rw [if_pos e3]; exact hM _
 rw [if_neg e3]
 by_cases e4 : op = 4
 ·rw [if_pos e4]; exact hM _
 rw [if_neg e4]
 by_cases e5 : op = 5
 ·rw [if_pos e5]; exact Nat.lt_of_le_of_lt Nat.and_le_left hn
 rw [if_neg e5]
 by_cases e6 : op = 6
 ·rw [if_pos e6]; exact Nat.or_lt_two_pow (n := 64) hn hm
 rw [if_neg e6]
 by_cases e7 : op = 7
 ·rw [if_pos e7]; exact Nat.xor_lt_two_pow (n := 64) hn hm
 rw [if_neg e7]
 by_cases e8 : op = 8
 ·rw [if_pos e8]; exact hM _
 rw [if_neg e8]
 by_cases e9 : op = 9
 ·rw [if_pos e9]; exact Nat.div_lt_of_lt_mul (Nat.mul_lt_mul'' hn hm)
 rw [if_neg e9]
 by_cases e10 : op = 10
 ·rw [if_pos e10]; exact hM _
 rw [if_neg e10]
 by_cases e11 : op = 11
 ·rw [if_pos e11]; exact hM _
 rw [if_neg e11]
 by_cases e12 : op = 12
 ·rw [if_pos e12]; exact hM _
 rw [if_neg e12]
 by_cases e13 : op = 13
 ·rw [if_pos e13]; exact Nat.lt_of_le_of_lt (Nat.div_le_self _ _) hn
 rw [if_neg e13]
 by_cases e14 : op = 14
 ·rw [if_pos e14]; exact iW _
 rw [if_neg e14]
 by_cases e16 : op = 16
 ·rw [if_pos e16]; cases h
  ·exact hm
  ·exact hn
 rw [if_neg e16]; cases h <;> decide
theorem aDd (i : MI) {r : List Nat} (h : RgOk r) (f : FL) : RgOk (cY i r f).1 := by
 have m := fun x hh => aHS i.op i.a i.imm (cK r i.d) (cK r i.n) (cK r i.m) x hh (h.get _) (h.get _) (h.get _)
 unfold cY
 split
 ·exact h
 ·split
  ·exact yT h _ _ (m _ _)
  ·split
   ·exact yT h _ _ (m _ _)
   ·exact yT h _ _ (m _ _)
end
instance : Inhabited MI := ⟨⟨0, 0, 0, 0, 0, 0⟩⟩
def iD (p : Int × Int) : AV := .agg [I6 p.1, I6 p.2]
def dK (l : List (Int × Int)) : List AV := l.map iD
def cZ (cs : List MI) : List AV := cs.map MI.v
theorem iB (l : List (Int × Int)) : (dK l).length = l.length := by simp [dK]
theorem iS (l : List MI) : (cZ l).length = l.length := by simp [cZ]
theorem kB (n : Nat) (l : List (Int × Int)) : dE n (dK l) = true := lG n _ (fun _ => rfl) l
theorem mG (n : Nat) (l : List MI) : dE n (cZ l) = true := lG n _ (fun _ => rfl) l
structure QS where
 code : Int
 mem : List Nat
 regs : List Nat
 leaks : List (Int × Int)
 steps : Nat
 flags : FL
 at_ : Int
def QS.leak (s : QS) (kind at_ : Int) : QS := { s with leaks := s.leaks ++ [(kind, at_)] }
def QS.goes (s : QS) (i : MI) : Bool := if i.op = 21 then jF i.a s.flags else if i.op = 22 then decide (cK s.regs i.d = 0) else decide (cK s.regs i.d ≠ 0)
def QS.addr (s : QS) (i : MI) : Nat := (cK s.regs i.n + 8 * u64 i.imm % 18446744073709551616) % 18446744073709551616
def QS.touch (s : QS) (i : MI) : QS × Bool :=
 let s1 := s.leak 3 (mI (s.addr i))
 if s.addr i % 8 ≠ 0 ∨ s.mem.length ≤ s.addr i / 8 then ({ s1 with code := 3 }, false)
 else if i.op = 18 then ({ s1 with regs := fT s.regs i.d (s.mem.getD (s.addr i / 8) 0) }, true)
 else ({ s1 with mem := s.mem.set (s.addr i / 8) (cK s.regs i.d) }, true)
def QS.branch (s : QS) (i : MI) : QS :=
 if i.op = 20 then { s with at_ := s.at_ + (i.imm - 1) }
 else if s.goes i = true then { s.leak 2 1 with at_ := s.at_ + (i.imm - 1) }
 else s.leak 2 0
def QS.act (s : QS) (i : MI) : QS × Bool :=
 if i.op = 18 ∨ i.op = 19 then s.touch i
 else if i.op = 20 ∨ i.op = 21 ∨ i.op = 22 ∨ i.op = 23 then (s.branch i, true)
 else if i.op = 24 then ({ s with code := if i.imm ≤ 2 then i.imm else 3 }, false)
 else ({ s with regs := (cY i s.regs s.flags).1, flags := (cY i s.regs s.flags).2 }, true)
def QS.next (s : QS) : QS := { s with at_ := s.at_ + 1 }
def QS.step (s : QS) (w : Int) : QS × Bool :=
 match ofF w with
 | none => ({ s with code := 3 }, false)
 | some i => s.next.act i
def QS.tail (n : Nat) (s : QS) : List AV := [.sl 6 s.leaks.length 0 s.leaks.length 2, Nn s.steps, .bool s.flags.n, .bool s.flags.z, .bool s.flags.c, .bool s.flags.v, I6 s.at_, .sl 1 n 0 n 6]
def QS.cells (n : Nat) (s : QS) : List AV := I6 s.code :: .sl 4 s.mem.length 0 s.mem.length 1 :: (bV s.regs ++ s.tail n)
section
variable (G : aG) (b0 : ABlk) (T : aF) (kn : List MI) (s : QS)
variable (hr : s.regs.length = 31)
end
section
variable (G : aG) (b0 : ABlk) (T : aF) (hb : dE 7 b0.elems = true) (hT : ∀ n, 7 ≤ n → dS n T = true) (kn : List MI) (s : QS)
end
structure QS.Ok (s : QS) : Prop where
 rg : RgOk s.regs
 mem : ∀ x ∈ s.mem, x < 18446744073709551616
 leaks : s.leaks.length ≤ 3 * s.steps
 big : s.mem.length ≤ 1000000
 few : s.steps ≤ 100000
section
variable (G : aG) (b0 : ABlk) (T : aF) (hb : dE 7 b0.elems = true) (hT : ∀ n, 7 ≤ n → dS n T = true) (kn : List MI) (s : QS) (i : MI) (hr : RgOk s.regs) (hl : s.leaks.length ≤ 999990)
theorem bx (H : aF) : dP i.v H = some (.rp false i.v 0, H) := rfl
theorem aJl (P : Program) (t : Nat) (c : Bool) (a : Nat) : aQ P .rem t c (Un a) (.int .u64 8) = some (Un (a % 8)) := by
 rw [aBV _ _ _ _ _ _ (by decide), Int.tmod_eq_emod_of_nonneg (by omega)]; rfl
theorem aJk (P : Program) (t : Nat) (c : Bool) (a : Nat) (ha : a < 18446744073709551616) : aQ P .quo t c (Un a) (.int .u64 8) = some (Un (a / 8)) := by
 rw [aJC _ _ _ _ _ _ (by decide), Int.tdiv_eq_ediv_of_nonneg (by omega), fA (by omega) (by omega)]; rfl
end
section
variable (G : aG) (b0 : ABlk) (T : aF) (hb : dE 7 b0.elems = true) (hT : ∀ n, 7 ≤ n → dS n T = true) (kn : List MI) (s : QS) (i : MI) (hr : RgOk s.regs) (hl : s.leaks.length ≤ 999990)
end
structure KN (cs : List Int) (kn : List MI) : Prop where
 len : kn.length = cs.length
 is : ∀ j, j < cs.length → (kn.getD j default).op = 0 ∨ ofF (cs.getD j 0) = some (kn.getD j default)
theorem aGQ {i : MI} (h : aU i = true) : -100000000 ≤ i.imm ∧ i.imm ≤ 100000000 := by
 have h24 := qF h
 obtain ⟨op, d, n, m, a, imm⟩ := i
 unfold aU at h
 rw [Bool.and_eq_true] at h
 obtain ⟨_, h⟩ := h
 rcases yF h24 with rfl | rfl | rfl | rfl | rfl | rfl | rfl | rfl | rfl | rfl | rfl | rfl | rfl | rfl | rfl | rfl | rfl | rfl | rfl | rfl | rfl | rfl | rfl | rfl
 all_goals (
  simp [aO, eQ, gC, dL, gL, eU, dM] at h
  simp only
  omega)
section
variable (G : aG) (b0 : ABlk) (kn : List MI) (s : QS) (i : MI)
abbrev TB (i : MI) : aF := [⟨57, 6, [i.v]⟩]
end
theorem yO {l : List Nat} {j x : Nat} (h : ∀ y ∈ l, y < 18446744073709551616) (hx : x < 18446744073709551616) : ∀ y ∈ l.set j x, y < 18446744073709551616 := by
 intro y hy
 rcases List.mem_or_eq_of_mem_set hy with h1 | rfl
 ·exact h y h1
 ·exact hx
theorem QS.Ok.mg {s : QS} (h : s.Ok) (i : Nat) : s.mem.getD i 0 < 18446744073709551616 := by
 rw [List.getD_eq_getElem?_getD]
 cases hq : s.mem[i]? with
 | none => decide
 | some x => exact h.mem x (List.mem_of_getElem? hq)
theorem QS.step_ok {s : QS} (h : s.Ok) (w : Int) (hl : s.leaks.length + 1 ≤ 3 * s.steps) : (s.step w).1.Ok ∧ (s.step w).1.steps = s.steps ∧ (s.step w).1.mem.length = s.mem.length := by
 have hl' : s.leaks.length ≤ 3 * s.steps := by omega
 unfold QS.step
 cases ofF w with
 | none => exact ⟨⟨h.rg, h.mem, hl', h.big, h.few⟩, rfl, rfl⟩
 | some i =>
  simp only
  unfold QS.act
  split
  ·unfold QS.touch
   generalize s.next.addr i = ad
   simp only
   split
   ·exact ⟨⟨h.rg, h.mem, by simpa [QS.leak, QS.next] using hl, h.big, h.few⟩, rfl, rfl⟩
   ·split
    ·exact ⟨⟨yT h.rg _ _ (h.mg _), h.mem, by simpa [QS.leak, QS.next] using hl, h.big, h.few⟩, rfl, rfl⟩
    ·exact ⟨⟨h.rg, yO h.mem (h.rg.get _), by simpa [QS.leak, QS.next] using hl, by simpa [QS.leak, QS.next] using h.big, h.few⟩, rfl, by simp [QS.leak, QS.next]⟩
  ·split
   ·unfold QS.branch
    split
    ·exact ⟨⟨h.rg, h.mem, hl', h.big, h.few⟩, rfl, rfl⟩
    ·split
     ·exact ⟨⟨h.rg, h.mem, by simpa [QS.leak, QS.next] using hl, h.big, h.few⟩, rfl, rfl⟩
     ·exact ⟨⟨h.rg, h.mem, by simpa [QS.leak, QS.next] using hl, h.big, h.few⟩, rfl, rfl⟩
   ·split
    ·exact ⟨⟨h.rg, h.mem, hl', h.big, h.few⟩, rfl, rfl⟩
    ·exact ⟨⟨aDd i h.rg s.flags, h.mem, hl', h.big, h.few⟩, rfl, rfl⟩
def QS.tick (s : QS) : QS := ({ s with steps := s.steps + 1 } : QS).leak 1 s.at_
def nT (cs : List Int) (fuel : Int) : Nat → QS → Option QS
 | 0, _ => none
 | f + 1, s =>
  if s.at_ < 0 ∨ (cs.length : Int) ≤ s.at_ then some { s with code := 3 }
  else if (s.steps : Int) = fuel then some { s with code := 4 }
  else match s.tick.step (cs.getD s.at_.toNat 0) with
   | (s', true) => nT cs fuel f s'
   | (s', false) => some s'
def iP (cs : List Int) : List AV := cs.map dF
theorem vZ (cs : List Int) : (iP cs).length = cs.length := by simp [iP]
theorem qW (n : Nat) (cs : List Int) : dE n (iP cs) = true := lG n _ (fun _ => rfl) cs
def rsL (m l : AV) (s : QS) : List AV := I6 s.code :: m :: (bV s.regs ++ [l, Nn s.steps])
theorem aGo (m l : AV) (s : QS) (hr : s.regs.length = 31) : (rsL m l s).length = 35 := by simp [rsL, bL, hr]
def bR (T : Nat) (cs : List AV) : ABlk := ⟨T, 35, [.agg cs]⟩
def zR : List AV := I6 0 :: .nils :: (bV (List.replicate 31 0) ++ [.sl 5 0 0 0 2, .int .i64 0])
section
variable (G : aG)
theorem wAt (bor : Bool) (cs : List Int) (j : Int) (h0 : 0 ≤ j) (h : j < cs.length) : cF 1 (.ro bor (iP cs)) (I6 j) = some (.rp bor (dF (cs.getD j.toNat 0)) 0) := by
 have e : (iP cs)[j.toNat]? = some (dF (cs.getD j.toNat 0)) := by
  have : j.toNat < cs.length := by omega
  simp [iP, List.getElem?_map, List.getD, List.getElem?_eq_getElem this]
 unfold cF
 simp only [e]
 rw [if_pos h0]
 rfl
end
theorem aBA (cs : List Int) (fuel : Int) : ∀ (f : Nat) (s : QS), (s.steps : Int) ≤ fuel → fuel - s.steps < f → ∃ s', nT cs fuel f s = some s'
 | 0, s, h, h2 => by omega
 | f + 1, s, h, h2 => by
  simp only [nT]
  by_cases h1 : s.at_ < 0 ∨ (cs.length : Int) ≤ s.at_
  ·rw [if_pos h1]; exact ⟨_, rfl⟩
  rw [if_neg h1]
  by_cases h3 : (s.steps : Int) = fuel
  ·rw [if_pos h3]; exact ⟨_, rfl⟩
  rw [if_neg h3]
  have e : ∀ w, (s.tick.step w).1.steps = s.steps + 1 := fun w => by
   unfold QS.step
   cases ofF w with
   | none => rfl
   | some i =>
    simp only
    unfold QS.act QS.touch QS.branch
    repeat' split
    all_goals rfl
  have e' := e (cs.getD s.at_.toNat 0)
  obtain ⟨s2, b, hsb⟩ : ∃ s2 b, s.tick.step (cs.getD s.at_.toNat 0) = (s2, b) := ⟨_, _, rfl⟩
  rw [hsb] at e' ⊢
  cases b
  ·exact ⟨_, rfl⟩
  ·exact aBA cs fuel f s2 (by simp only at e'; omega) (by simp only at e'; omega)
def q0 (c : Int) (mem : List Nat) : QS := ⟨c, mem, List.replicate 31 0, [], 0, jD, 0⟩
theorem aLt (c : Int) (mem : List Nat) (hm : ∀ x ∈ mem, x < 18446744073709551616) (hl : mem.length ≤ 1000000) : (q0 c mem).Ok :=
 ⟨⟨by simp [q0], fun x hx => by simp [q0] at hx; omega⟩, hm, by simp [q0], hl, by simp [q0]⟩
theorem aFv (l : List Nat) : pH 1 (bV l) = true := rO 1 _ (fun _ => rfl) l
theorem aFu (l : List (Int × Int)) : pH 2 (dK l) = true := rO 2 _ (fun _ => rfl) l
theorem aGd (l : List (Int × Int)) : eE (dK l) = true := mQ _ (fun _ => rfl) l
theorem aFD (l : List (Int × Int)) : iZ (dK l) = true := nX _ (fun _ => rfl) l
def aDe (s : QS) : AV := .agg (rsL (.ro false (bV s.mem)) (.ro false (dK s.leaks)) s)
theorem zH : ∀ xs ys : List AV, iZ xs = true → iZ ys = true → iZ (xs ++ ys) = true
 | [], ys, _, h => h
 | x :: xs, ys, h1, h2 => by
  simp only [iZ, Bool.and_eq_true] at h1
  simp [iZ, h1.1, zH xs ys h1.2 h2]
theorem aEy (s : QS) : fS (aDe s) = true := by
 simp [aDe, rsL, fS, iZ, kE, aFD, zH]
theorem aDz {f : AV → Option AV} : ∀ {xs xs' ys ys' : List AV}, nE f xs = some xs' → nE f ys = some ys' → nE f (xs ++ ys) = some (xs' ++ ys')
 | [], xs', ys, ys', h1, h2 => by simp [nE] at h1; subst h1; exact h2
 | x :: xs, xs', ys, ys', h1, h2 => by
  simp only [nE] at h1
  cases hx : f x with
  | none => simp [hx] at h1
  | some y =>
   cases hs : nE f xs with
   | none => simp [hx, hs] at h1
   | some zs =>
    simp [hx, hs] at h1; subst h1
    simp only [List.cons_append, nE, hx, aDz hs h2]
theorem zO {x : AV} {H : aF} (hx : cG 0 x = true) {m : Option AV} (hm : m = some x) : fL [m] 0 H = some (.ret, [x], []) := by
 subst hm
 unfold fL
 exact mL hx H
def iT (f : Form) : AV := .agg [.bool f.d, .bool f.n, .bool f.m, .bool f.a, I6 f.b]
theorem fO (G : aG) (k : Nat) (op : Int) : aM.f G (k + 4) [I6 op] [] = some (iT (aO op), []) := by
 by_cases h : 1 ≤ op ∧ op ≤ 24
 ·rcases yF h with rfl | rfl | rfl | rfl | rfl | rfl | rfl | rfl | rfl | rfl | rfl | rfl | rfl | rfl | rfl | rfl | rfl | rfl | rfl | rfl | rfl | rfl | rfl | rfl <;> (clear h; show _ = _; kernel_rfl)
 ·rw [pX h, aM.step]
  unfold aM.c
  refine eO ?_
  have fx := True.intro
  refine gI ?_
  all_goals first | omega | exact oF (zO (x := iT ⟨⟨#[]⟩, 0, false, false, false, false, 0⟩) rfl rfl)
theorem aHh (G : aG) (k : Nat) (r : Int) (is : Bool) : cE.f G (k + 1) [I6 r, .bool is] [] = some (.bool (gC r is), []) := by
 rw [cE.step]
 unfold cE.c gC
 refine eO ?_
 cases is
 all_goals (
  repeat' first
   | (with_reducible first | refine eT ?_ | refine eN ?_ | refine eS ?_ | refine eXn ?_ | refine eXr ?_ | refine eX ?_ | refine eI ?_ | refine eK ?_ | refine eV0 ?_ | refine sL ?_ | refine sO ?_ | refine sI ?_ | refine sN ?_ | refine sJ ?_ | refine sK ?_)
   | ((with_reducible apply eCn); (simp only [dX, dW]; first | done | (with_reducible exact rfl)))
   | ((with_reducible apply eJ); (rfl))
   | ((with_reducible apply sM); (first | rfl | (simp only [dX, dW]; rfl)))
   | ((with_reducible apply eB); (first | (with_reducible exact rfl) | (simp (disch := omega) only [qa, jP, AV.cells, fH, bA, kX, fK, fM, kL, Nat.reduceLeDiff, Nat.reduceLT, Nat.reduceAdd, ↓reduceIte]; first | done | (with_reducible exact rfl) | (with_reducible exact ⟨rfl, rfl⟩))))
   | ((with_reducible apply eR); (simp only [dX, dW]; (with_reducible exact rfl)))
   | ((with_reducible first | refine tG ?_ ?_ | refine tL ?_ ?_ | refine tK ?_ ?_ | refine tJ ?_ ?_ | refine tI ?_ ?_ | refine tH ?_ ?_ | refine tM ?_ ?_ | refine oG ?_ ?_ | refine sGd ?_ ?_ | refine nY ?_ ?_) <;> intro hq <;> try subst hq)
  all_goals (refine qT ?_; simp; try omega))
theorem aEW (G : aG) (k : Nat) (n : Int) : cI.f G (k + 1) [I6 n] [] = some (.bool (decide ((0 ≤ n ∧ n ≤ 3) ∨ n = 8 ∨ n = 9)), []) := by
 rw [cI.step]
 unfold cI.c
 refine eO ?_
 have fx := True.intro
 exact wkC
theorem aBw (G : aG) (k : Nat) (n b h : Int) (hb : (b = 19 ∧ h = 262144) ∨ (b = 26 ∧ h = 33554432)) : cQ.f G (k + 1) [I6 n, I6 b] [] = some (.bool (decide (-h ≤ n ∧ n < h)), []) := by
 rw [cQ.step]
 unfold cQ.c
 obtain ⟨s1, s2, s3, s4⟩ : aQ Tryd.prog .sub 3 true (I6 b) (.int .i64 1) = some (I6 (b - 1)) ∧ aJ .u64 (I6 (b - 1)) = some (.int .u64 (b - 1)) ∧ aQ Tryd.prog .shl 3 true (.int .i64 1) (.int .u64 (b - 1)) = some (I6 h) ∧ aQ Tryd.prog .shl 3 true (.int .i64 (-1)) (.int .u64 (b - 1)) = some (I6 (-h)) := by
  rcases hb with ⟨rfl, rfl⟩ | ⟨rfl, rfl⟩
  ·exact ⟨by kernel_rfl, by kernel_rfl, by kernel_rfl, by kernel_rfl⟩
  ·exact ⟨by kernel_rfl, by kernel_rfl, by kernel_rfl, by kernel_rfl⟩
 clear hb
 refine eO ?_
 have fx := aPt s1 <| aPt s2 <| aPt s3 <| s4
 exact wkC
theorem fX (G : aG) (k : Nat) (op : Int) (h : 1 ≤ op ∧ op ≤ 24) : aZ.f G (k + 1) [I6 op] [] = some (dF (aO op).w, []) := by
 rcases yF h with rfl | rfl | rfl | rfl | rfl | rfl | rfl | rfl | rfl | rfl | rfl | rfl | rfl | rfl | rfl | rfl | rfl | rfl | rfl | rfl | rfl | rfl | rfl | rfl <;> (clear h; show _ = _; kernel_rfl)
theorem fE (G : aG) (k : Nat) (op d n m a imm : Int) : aT.f G (k + 5) [mV op d n m a imm] [] = some (.bool (aU ⟨op, d, n, m, a, imm⟩), []) := by
 rw [aT.step]
 unfold aT.c
 have r1 : ∀ H, aE (aM.f G (k + 4)) [I6 op] H = _ := fun H => aD (H := H) (fO G k op) rfl rfl
 have r2 : ∀ r is H, aE (cE.f G (k + 4)) [I6 r, .bool is] H = _ := fun r is H => aD (H := H) (aHh G (k + 3) r is) rfl rfl
 have r3 : ∀ H, aE (cI.f G (k + 4)) [I6 a] H = _ := fun H => aD (H := H) (aEW G (k + 3) a) rfl rfl
 have r4 : ∀ H, aE (cQ.f G (k + 4)) [I6 imm, .int .i64 19] H = _ := fun H => aD (H := H) (aBw G (k + 3) imm 19 262144 (.inl ⟨rfl, rfl⟩)) rfl rfl
 have r5 : ∀ H, aE (cQ.f G (k + 4)) [I6 imm, .int .i64 26] H = _ := fun H => aD (H := H) (aBw G (k + 3) imm 26 33554432 (.inr ⟨rfl, rfl⟩)) rfl rfl
 have s12 : aQ Tryd.prog .shl 3 true (.int .i64 1) (.int .u64 12) = some (.int .i64 4096) := by kernel_rfl
 have s16 : aQ Tryd.prog .shl 3 true (.int .i64 1) (.int .u64 16) = some (.int .i64 65536) := by kernel_rfl
 have s6 : aQ Tryd.prog .shl 3 true (.int .i64 1) (.int .u64 6) = some (.int .i64 64) := by kernel_rfl
 have s0 : aQ Tryd.prog .shl 3 true (.int .i64 1) (.int .u64 0) = some (.int .i64 1) := by kernel_rfl
 by_cases h : 1 ≤ op ∧ op ≤ 24
 ·refine eO ?_
  rcases yF h with rfl | rfl | rfl | rfl | rfl | rfl | rfl | rfl | rfl | rfl | rfl | rfl | rfl | rfl | rfl | rfl | rfl | rfl | rfl | rfl | rfl | rfl | rfl | rfl
  all_goals (
   clear h
   simp only [iT, aO, Int.reduceEq, if_true, if_false, ↓reduceIte] at r1
   repeat' first
    | (with_reducible first | refine eT ?_ | refine eN ?_ | refine eS ?_ | refine eXn ?_ | refine eXr ?_ | refine eX ?_ | refine eI ?_ | refine eK ?_ | refine eV0 ?_ | refine sL ?_ | refine sO ?_ | refine sI ?_ | refine sN ?_ | refine sJ ?_ | refine sK ?_)
    | ((with_reducible apply eCn); (simp only [dX, dW]; first | done | (with_reducible exact rfl)))
    | ((with_reducible apply eJ); (rfl))
    | ((with_reducible apply sM); (first | rfl | (simp only [dX, dW]; rfl)))
    | ((with_reducible apply eB); (first | (with_reducible exact rfl) | (simp (disch := omega) only [qf, r1, r2, r3, r4, r5, s0, s6, s12, s16]; first | done | (with_reducible exact rfl) | (with_reducible exact ⟨rfl, rfl⟩)) | (simp (disch := omega) only [qa, jP, AV.cells, fH, bA, kX, fK, fM, kL, Nat.reduceLeDiff, Nat.reduceLT, Nat.reduceAdd, ↓reduceIte, r1, r2, r3, r4, r5, s0, s6, s12, s16]; first | done | (with_reducible exact rfl) | (with_reducible exact ⟨rfl, rfl⟩))))
    | ((with_reducible apply eR); (simp only [dX, dW]; (with_reducible exact rfl)))
    | ((with_reducible first | refine tG ?_ ?_ | refine tL ?_ ?_ | refine tK ?_ ?_ | refine tJ ?_ ?_ | refine tI ?_ ?_ | refine tH ?_ ?_ | refine tM ?_ ?_ | refine oG ?_ ?_ | refine sGd ?_ ?_ | refine nY ?_ ?_) <;> intro hq <;> try subst hq)
   all_goals (refine qT ?_; simp [aU, kG, eQ, aO, gC, dL, gL, eU, dM] at *; try omega))
 ·have e : aU ⟨op, d, n, m, a, imm⟩ = false := by
   unfold aU kG
   simp only
   rw [decide_eq_false h, Bool.false_and]
  rw [e]
  rw [pX h] at r1
  unfold iT at r1
  refine eO ?_
  repeat' first
   | (with_reducible first | refine eT ?_ | refine eN ?_ | refine eS ?_ | refine eXn ?_ | refine eXr ?_ | refine eX ?_ | refine eI ?_ | refine eK ?_ | refine eV0 ?_ | refine sL ?_ | refine sO ?_ | refine sI ?_ | refine sN ?_ | refine sJ ?_ | refine sK ?_)
   | ((with_reducible apply eCn); (simp only [dX, dW]; first | done | (with_reducible exact rfl)))
   | ((with_reducible apply eJ); (rfl))
   | ((with_reducible apply sM); (first | rfl | (simp only [dX, dW]; rfl)))
   | ((with_reducible apply eB); (first | (with_reducible exact rfl) | (simp (disch := omega) only [qf, r1]; first | done | (with_reducible exact rfl) | (with_reducible exact ⟨rfl, rfl⟩)) | (simp (disch := omega) only [qa, jP, AV.cells, fH, bA, kX, fK, fM, kL, Nat.reduceLeDiff, Nat.reduceLT, Nat.reduceAdd, ↓reduceIte, r1]; first | done | (with_reducible exact rfl) | (with_reducible exact ⟨rfl, rfl⟩))))
   | ((with_reducible apply eR); (simp only [dX, dW]; (with_reducible exact rfl)))
   | ((with_reducible first | refine tG ?_ ?_ | refine tL ?_ ?_ | refine tK ?_ ?_ | refine tJ ?_ ?_ | refine tI ?_ ?_ | refine tH ?_ ?_ | refine tM ?_ ?_ | refine oG ?_ ?_ | refine sGd ?_ ?_ | refine nY ?_ ?_) <;> intro hq <;> try subst hq)
  exact qT rfl
end Go.Proofs.YtdfglgnflldkpaaDoor.Mir
