/- Part 8 of the proof: what these functions do. -/
import Derived.Test.YtdfglgnflldkpaaDoorVe7
import Derived.Test.YtdfglgnflldkpaaDoorRows
import Derived.KernelRfl
import Derived.SizedLaws
namespace Go.Proofs.YtdfglgnflldkpaaDoor
open Go Go.ChangeShapes Go.WideShapes Go.RowKit Mir
set_option linter.unusedVariables false
set_option linter.unusedSimpArgs false
namespace Rk
theorem own : ownKnob Tryd.prog.godebug = none := by kernel_rfl
theorem laidOut : laidOutB Tryd.prog = true := by kernel_rfl
theorem aOF : "*" ++ "errors.errorString" = "*errors.errorString" := by decide
theorem row (u : TypeId) (h : Tryd.prog.typeName? 3 u = some "*errors.errorString") : u = 180 :=
 typeName_ptr_named (nm := "errors.errorString") (by rw [aOF]; kernel_rfl) (by kernel_rfl) (by decide) u (by rw [aOF]; exact h)
noncomputable def low : Nat := (World.holding Tryd.prog default ⟨#[], #[], []⟩).heap.size
end Rk
end Go.Proofs.YtdfglgnflldkpaaDoor
namespace Go.Proofs.YtdfglgnflldkpaaDoor.Mir
open Go
set_option linter.unusedSimpArgs false
set_option linter.unusedVariables false
set_option maxHeartbeats 8000000
set_option maxRecDepth 20000
abbrev I6 (n : Int) : AV := .int .i64 n
abbrev Nn (n : Nat) : AV := .int .i64 (n : Int)
abbrev Un (n : Nat) : AV := .int .u64 (n : Int)
abbrev cX (n : Int) : AV := .int .u32 n
structure MI where
 op : Int
 d : Int
 n : Int
 m : Int
 a : Int
 imm : Int
abbrev mV (op d n m a imm : Int) : AV := .agg [I6 op, I6 d, I6 n, I6 m, I6 a, I6 imm]
def MI.v (i : MI) : AV := mV i.op i.d i.n i.m i.a i.imm
structure Form where
 nm : ByteArray
 w : Int
 d : Bool
 n : Bool
 m : Bool
 a : Bool
 b : Int
def Form.v (f : Form) : AV := .agg [.str f.nm, cX f.w, .bool f.d, .bool f.n, .bool f.m, .bool f.a, I6 f.b]
def aO (op : Int) : Form :=
 if op = 1 then ⟨⟨#[109, 111, 118, 122]⟩, 3531603968, true, false, false, true, 16⟩ else
 if op = 2 then ⟨⟨#[109, 111, 118, 107]⟩, 4068474880, true, false, false, true, 16⟩ else
 if op = 3 then ⟨⟨#[97, 100, 100]⟩, 2332033024, true, true, true, false, 0⟩ else
 if op = 4 then ⟨⟨#[115, 117, 98]⟩, 3405774848, true, true, true, false, 0⟩ else
 if op = 5 then ⟨⟨#[97, 110, 100]⟩, 2315255808, true, true, true, false, 0⟩ else
 if op = 6 then ⟨⟨#[111, 114, 114]⟩, 2852126720, true, true, true, false, 0⟩ else
 if op = 7 then ⟨⟨#[101, 111, 114]⟩, 3388997632, true, true, true, false, 0⟩ else
 if op = 8 then ⟨⟨#[109, 97, 100, 100]⟩, 2600468480, true, true, true, true, 0⟩ else
 if op = 9 then ⟨⟨#[117, 109, 117, 108, 104]⟩, 2613083136, true, true, true, false, 0⟩ else
 if op = 10 then ⟨⟨#[97, 100, 100, 105]⟩, 2432696320, true, true, false, false, 12⟩ else
 if op = 11 then ⟨⟨#[115, 117, 98, 105]⟩, 3506438144, true, true, false, false, 12⟩ else
 if op = 12 then ⟨⟨#[108, 115, 108]⟩, 3544186880, true, true, false, false, 6⟩ else
 if op = 13 then ⟨⟨#[108, 115, 114]⟩, 3544186880, true, true, false, false, 6⟩ else
 if op = 14 then ⟨⟨#[97, 115, 114]⟩, 2470509568, true, true, false, false, 6⟩ else
 if op = 15 then ⟨⟨#[99, 109, 112]⟩, 3942645791, false, true, true, false, 0⟩ else
 if op = 16 then ⟨⟨#[99, 115, 101, 108]⟩, 2592079872, true, true, true, true, 0⟩ else
 if op = 17 then ⟨⟨#[99, 115, 101, 116]⟩, 2594113504, true, false, false, true, 0⟩ else
 if op = 18 then ⟨⟨#[108, 100, 114]⟩, 4181721088, true, true, false, false, 12⟩ else
 if op = 19 then ⟨⟨#[115, 116, 114]⟩, 4177526784, true, true, false, false, 12⟩ else
 if op = 20 then ⟨⟨#[98]⟩, 335544320, false, false, false, false, 26⟩ else
 if op = 21 then ⟨⟨#[98, 99, 99]⟩, 1409286144, false, false, false, true, 19⟩ else
 if op = 22 then ⟨⟨#[99, 98, 122]⟩, 3019898880, true, false, false, false, 19⟩ else
 if op = 23 then ⟨⟨#[99, 98, 110, 122]⟩, 3036676096, true, false, false, false, 19⟩ else
 if op = 24 then ⟨⟨#[104, 108, 116]⟩, 3560964096, false, false, false, false, 16⟩ else
 ⟨⟨#[]⟩, 0, false, false, false, false, 0⟩
def kK (op : Int) : Bool := decide (1 ≤ op ∧ op ≤ 24)
theorem xA {op : Int} (h : 1 ≤ op ∧ op ≤ 24) : op = 1 ∨ op = 2 ∨ op = 3 ∨ op = 4 ∨ op = 5 ∨ op = 6 ∨ op = 7 ∨ op = 8 ∨ op = 9 ∨ op = 10 ∨ op = 11 ∨ op = 12 ∨ op = 13 ∨ op = 14 ∨ op = 15 ∨ op = 16 ∨ op = 17 ∨ op = 18 ∨ op = 19 ∨ op = 20 ∨ op = 21 ∨ op = 22 ∨ op = 23 ∨ op = 24 := by omega
theorem qT {op : Int} (h : ¬ (1 ≤ op ∧ op ≤ 24)) : aO op = ⟨⟨#[]⟩, 0, false, false, false, false, 0⟩ := by
 unfold aO
 simp (disch := omega) only [if_neg]
theorem gO (op : Int) : (aO op).b = 0 ∨ (aO op).b = 6 ∨ (aO op).b = 12 ∨ (aO op).b = 16 ∨ (aO op).b = 19 ∨ (aO op).b = 26 := by
 by_cases h : 1 ≤ op ∧ op ≤ 24
 ·rcases xA h with rfl | rfl | rfl | rfl | rfl | rfl | rfl | rfl | rfl | rfl | rfl | rfl | rfl | rfl | rfl | rfl | rfl | rfl | rfl | rfl | rfl | rfl | rfl | rfl <;> simp [aO]
 ·rw [qT h]; simp
theorem aLA (G : aG) (k : Nat) (op : Int) (h : ¬ (1 ≤ op ∧ op ≤ 24)) : fO.f G (k + 4) [I6 op] [] = some (.tup [.agg [.str ⟨#[]⟩, cX 0, .bool false, .bool false, .bool false, .bool false, I6 0], .bool false], []) := by
 have pl : gD.f G (k + 3) [I6 op] [] = some (.tup [.agg [.str ⟨#[]⟩, cX 0, .bool false, .bool false, .bool false, .bool false, I6 0], .bool false], []) := by
  rw [gD.step]
  unfold gD.c
  refine eZ ?_
  have fx := True.intro
  refine gM ?_
  all_goals first | omega | (refine oF ?_; rfl)
 rw [fO.step]
 unfold fO.c
 have r : ∀ H, aD (gD.f G (k + 3)) [I6 op] H = _ := fun H => aE (H := H) pl rfl rfl
 refine eZ ?_
 have fx := r
 refine gM ?_
 all_goals first | omega | (refine oF ?_; rfl)
theorem iO (G : aG) (k : Nat) (op : Int) : fO.f G (k + 4) [I6 op] [] = some (.tup [(aO op).v, .bool (kK op)], []) := by
 by_cases h : 1 ≤ op ∧ op ≤ 24
 ·rcases xA h with rfl | rfl | rfl | rfl | rfl | rfl | rfl | rfl | rfl | rfl | rfl | rfl | rfl | rfl | rfl | rfl | rfl | rfl | rfl | rfl | rfl | rfl | rfl | rfl <;> (clear h; show _ = _; kernel_rfl)
 ·have e : kK op = false := decide_eq_false h
  rw [qT h, e]
  exact aLA G k op h
def gI (r : Int) (is : Bool) : Bool := decide (r = 0 ∨ (is = true ∧ 0 < r ∧ r ≤ 31))
theorem aBd (G : aG) (k : Nat) (r : Int) (is : Bool) : eP.f G (k + 1) [I6 r, .bool is] [] = some (.bool (gI r is), []) := by
 rw [eP.step]
 unfold eP.c gI
 refine eZ ?_
 cases is
 all_goals (
  repeat' first
   | (with_reducible first | refine eT ?_ | refine eN ?_ | refine eS ?_ | refine eXn ?_ | refine eXr ?_ | refine eX ?_ | refine eI ?_ | refine eK ?_ | refine eV0 ?_ | refine sW ?_ | refine sX ?_ | refine sV ?_ | refine tD ?_ | refine tB ?_ | refine sY ?_)
   | ((with_reducible apply eCn); (simp only [eG, eF]; first | done | (with_reducible exact rfl)))
   | ((with_reducible apply eJ); (rfl))
   | ((with_reducible apply sZ); (first | rfl | (simp only [eG, eF]; rfl)))
   | ((with_reducible apply eB); (first | (with_reducible exact rfl) | (simp (disch := omega) only [qa, jY, AV.cells, fQ, aY, lO, fR, fX, kX, Nat.reduceLeDiff, Nat.reduceLT, Nat.reduceAdd, ↓reduceIte]; first | done | (with_reducible exact rfl) | (with_reducible exact ⟨rfl, rfl⟩))))
   | ((with_reducible apply eR); (simp only [eG, eF]; (with_reducible exact rfl)))
   | ((with_reducible first | refine tY ?_ ?_ | refine tU ?_ ?_ | refine tQ ?_ ?_ | refine tW ?_ ?_ | refine uE ?_ ?_ | refine tP ?_ ?_ | refine tX ?_ ?_ | refine pB ?_ ?_ | refine sGd ?_ ?_ | refine oZ ?_ ?_) <;> intro hq <;> try subst hq)
  all_goals (refine uH ?_; simp; try omega))
def dU (op a : Int) : Bool :=
 if op = 1 ∨ op = 2 then decide (0 ≤ a ∧ a ≤ 3)
 else if op = 16 ∨ op = 17 ∨ op = 21 then decide ((0 ≤ a ∧ a ≤ 3) ∨ a = 8 ∨ a = 9)
 else decide (0 ≤ a ∧ a ≤ 31)
theorem aES (G : aG) (k : Nat) (op d n m a imm : Int) : gF.f G (k + 1) [mV op d n m a imm] [] = some (.bool (dU op a), []) := by
 rw [gF.step]
 unfold gF.c dU
 refine eZ ?_
 by_cases h1 : op = 1 ∨ op = 2
 ·rw [if_pos h1]
  have fx := True.intro
  exact wkC
 rw [if_neg h1]
 by_cases h2 : op = 16 ∨ op = 17 ∨ op = 21
 ·rw [if_pos h2]
  have fx := True.intro
  exact wkC
 rw [if_neg h2]
 have fx := True.intro
 exact wkC
def dS (op d n : Int) : Bool := decide (((op = 10 ∨ op = 11) ∧ (d = 31 ∨ n = 31)) ∨ ((op = 18 ∨ op = 19) ∧ n = 31))
theorem aEQ (G : aG) (k : Nat) (op d n m a imm : Int) : gE.f G (k + 1) [mV op d n m a imm] [] = some (.bool (dS op d n), []) := by
 rw [gE.step]
 unfold gE.c dS
 refine eZ ?_
 have fx := True.intro
 exact wkC
theorem aDs (G : aG) (k : Nat) (op : Int) : fN.f G (k + 1) [I6 op] [] = some (.bool (decide (20 ≤ op ∧ op ≤ 23)), []) := by
 rw [fN.step]
 unfold fN.c
 refine eZ ?_
 have fx := True.intro
 exact wkC
def fC (b : Int) : Int := if b = 6 then 32 else if b = 12 then 2048 else if b = 16 then 32768 else if b = 19 then 262144 else 33554432
def gS (op imm b : Int) : Bool :=
 if b = 0 then decide (imm = 0)
 else if 20 ≤ op ∧ op ≤ 23 then decide (-(fC b) ≤ imm ∧ imm < fC b)
 else decide (0 ≤ imm ∧ imm < 2 * fC b)
theorem aJF (G : aG) (k : Nat) (op d n m a imm b : Int) (hb : b = 0 ∨ b = 6 ∨ b = 12 ∨ b = 16 ∨ b = 19 ∨ b = 26) : iJ.f G (k + 2) [mV op d n m a imm, I6 b] [] = some (.bool (gS op imm b), []) := by
 rw [iJ.step]
 unfold iJ.c gS
 have r : ∀ H, aD (fN.f G (k + 1)) [I6 op] H = _ := fun H => aE (H := H) (aDs G k op) rfl rfl
 refine eZ ?_
 by_cases h0 : b = 0
 ·rw [if_pos h0]
  have fx := True.intro
  exact wkC
 rw [if_neg h0]
 have hb' : b = 6 ∨ b = 12 ∨ b = 16 ∨ b = 19 ∨ b = 26 := by omega
 obtain ⟨z, hz, s1, s2, s3, s4⟩ : ∃ z : Int, fC b = z ∧ aQ Tryd.prog .sub 3 true (I6 b) (.int .i64 1) = some (I6 (b - 1)) ∧ aQ Tryd.prog .shl 3 true (.int .i64 1) (I6 (b - 1)) = some (I6 z) ∧ un .neg (I6 z) = some (I6 (-z)) ∧ aQ Tryd.prog .shl 3 true (.int .i64 1) (I6 b) = some (I6 (2 * z)) := by
  clear hb h0 r
  rcases hb' with rfl | rfl | rfl | rfl | rfl
  ·exact ⟨32, rfl, by kernel_rfl, by kernel_rfl, by kernel_rfl, by kernel_rfl⟩
  ·exact ⟨2048, rfl, by kernel_rfl, by kernel_rfl, by kernel_rfl, by kernel_rfl⟩
  ·exact ⟨32768, rfl, by kernel_rfl, by kernel_rfl, by kernel_rfl, by kernel_rfl⟩
  ·exact ⟨262144, rfl, by kernel_rfl, by kernel_rfl, by kernel_rfl, by kernel_rfl⟩
  ·exact ⟨33554432, rfl, by kernel_rfl, by kernel_rfl, by kernel_rfl, by kernel_rfl⟩
 rw [hz]
 clear hz hb hb'
 by_cases hs : 20 ≤ op ∧ op ≤ 23
 ·rw [if_pos hs]
  rw [decide_eq_true hs] at r
  have fx := aPQ r <| aPQ s1 <| aPQ s2 <| aPQ s3 <| s4
  exact wkC
 ·rw [if_neg hs]
  rw [decide_eq_false hs] at r
  have fx := aPQ r <| aPQ s1 <| aPQ s2 <| aPQ s3 <| s4
  exact wkC
def fD (i : MI) (f : Form) : Bool :=
 gI i.d f.d && gI i.n f.n && gI i.m f.m && (if f.a = true then dU i.op i.a else decide (i.a = 0)) && gS i.op i.imm f.b && !dS i.op i.d i.n
theorem gN (G : aG) (k : Nat) (op d n m a imm : Int) (f : Form) (hb : f.b = 0 ∨ f.b = 6 ∨ f.b = 12 ∨ f.b = 16 ∨ f.b = 19 ∨ f.b = 26) : eH.f G (k + 3) [mV op d n m a imm, f.v] [] = some (.bool (fD ⟨op, d, n, m, a, imm⟩ f), []) := by
 obtain ⟨nm, w, fd, fn, fm, fa, fb⟩ := f
 rw [eH.step]
 unfold eH.c fD Form.v
 have r1 : ∀ r is H, aD (eP.f G (k + 2)) [I6 r, .bool is] H = _ := fun r is H => aE (H := H) (aBd G (k + 1) r is) rfl rfl
 have r2 : ∀ H, aD (gF.f G (k + 2)) [mV op d n m a imm] H = _ := fun H => aE (H := H) (aES G (k + 1) op d n m a imm) rfl rfl
 have r3 : ∀ H, aD (iJ.f G (k + 2)) [mV op d n m a imm, I6 fb] H = _ := fun H => aE (H := H) (aJF G k op d n m a imm fb hb) rfl rfl
 have r4 : ∀ H, aD (gE.f G (k + 2)) [mV op d n m a imm] H = _ := fun H => aE (H := H) (aEQ G (k + 1) op d n m a imm) rfl rfl
 simp only
 generalize gS op imm fb = g3 at *
 generalize dU op a = g2 at *
 generalize dS op d n = g4 at *
 have c1 := r1 d fd
 have c2 := r1 n fn
 have c3 := r1 m fm
 generalize gI d fd = t1 at *
 generalize gI n fn = t2 at *
 generalize gI m fm = t3 at *
 clear r1
 refine eZ ?_
 cases t1
 ·have fx := aPQ c1 <| aPQ c2 <| aPQ c3 <| aPQ r2 <| aPQ r3 <| r4
  refine gM ?_
  exact uH (by simp)
 cases t2
 ·have fx := aPQ c1 <| aPQ c2 <| aPQ c3 <| aPQ r2 <| aPQ r3 <| r4
  refine gM ?_
  exact uH (by simp)
 cases t3
 ·have fx := aPQ c1 <| aPQ c2 <| aPQ c3 <| aPQ r2 <| aPQ r3 <| r4
  refine gM ?_
  exact uH (by simp)
 cases fa
 ·by_cases ha : a = 0
  ·subst ha
   cases g3
   ·have fx := aPQ c1 <| aPQ c2 <| aPQ c3 <| aPQ r2 <| aPQ r3 <| r4
    refine gM ?_
    exact uH (by simp)
   ·cases g4
    ·have fx := aPQ c1 <| aPQ c2 <| aPQ c3 <| aPQ r2 <| aPQ r3 <| r4
     refine gM ?_
     exact uH (by simp)
    ·have fx := aPQ c1 <| aPQ c2 <| aPQ c3 <| aPQ r2 <| aPQ r3 <| r4
     refine gM ?_
     exact uH (by simp)
  ·have fx := aPQ c1 <| aPQ c2 <| aPQ c3 <| aPQ r2 <| aPQ r3 <| r4
   refine gM ?_
   exact uH (by simp [ha])
 ·cases g2
  ·have fx := aPQ c1 <| aPQ c2 <| aPQ c3 <| aPQ r2 <| aPQ r3 <| r4
   refine gM ?_
   exact uH (by simp)
  ·cases g3
   ·have fx := aPQ c1 <| aPQ c2 <| aPQ c3 <| aPQ r2 <| aPQ r3 <| r4
    refine gM ?_
    exact uH (by simp)
   ·cases g4
    ·have fx := aPQ c1 <| aPQ c2 <| aPQ c3 <| aPQ r2 <| aPQ r3 <| r4
     refine gM ?_
     exact uH (by simp)
    ·have fx := aPQ c1 <| aPQ c2 <| aPQ c3 <| aPQ r2 <| aPQ r3 <| r4
     refine gM ?_
     exact uH (by simp)
def aT (i : MI) : Bool := kK i.op && fD i (aO i.op)
theorem aPj (x : Int) : aJ .u32 (I6 x) = some (cX (IntKind.u32.wrap x)) := fE ..
theorem sH (a : Nat) (h : a < 4294967296) : (BitVec.ofInt 32 (a : Int)).toNat = a := by
 rw [BitVec.toNat_ofInt]
 omega
theorem aMz (a b : Nat) (ha : a < 4294967296) (hb : b < 4294967296) : IntKind.u32.wrap ((BitVec.ofInt 32 (a : Int) ||| BitVec.ofInt 32 (b : Int)).toNat : Int) = ((a ||| b : Nat) : Int) := by
 have hx : a ||| b < 2 ^ 32 := Nat.or_lt_two_pow (by omega) (by omega)
 rw [BitVec.toNat_or, sH a ha, sH b hb, mK (by omega) (by omega)]
theorem aLm (a b : Nat) (ha : a < 4294967296) (hb : b < 4294967296) : bits .and .u32 (a : Int) (b : Int) = ((a &&& b : Nat) : Int) := by
 have hx : a &&& b ≤ a := Nat.and_le_left
 show IntKind.u32.wrap ((BitVec.ofInt 32 (a : Int) &&& BitVec.ofInt 32 (b : Int)).toNat : Int) = _
 rw [BitVec.toNat_and, sH a ha, sH b hb, mK (by omega) (by omega)]
theorem aJA {x y : Nat} (h : x &&& y = 0) (hb : x + y < 2 ^ 64) : x ||| y = x + y := by
 have e : (BitVec.ofNat 64 x &&& BitVec.ofNat 64 y) = 0#64 := by
  apply BitVec.eq_of_toNat_eq
  rw [BitVec.toNat_and, BitVec.toNat_ofNat, BitVec.toNat_ofNat, Nat.mod_eq_of_lt (by omega), Nat.mod_eq_of_lt (by omega), h]
  rfl
 have h2 := BitVec.add_eq_or_of_and_eq_zero _ _ e
 have h3 := congrArg BitVec.toNat h2
 rw [BitVec.toNat_add, BitVec.toNat_or, BitVec.toNat_ofNat, BitVec.toNat_ofNat, Nat.mod_eq_of_lt (show x < 2 ^ 64 by omega), Nat.mod_eq_of_lt (show y < 2 ^ 64 by omega), Nat.mod_eq_of_lt hb] at h3
 exact h3.symm
def dj (x y : Int) : Prop := 0 ≤ x ∧ 0 ≤ y ∧ x.toNat &&& y.toNat = 0
theorem gR {x v p q : Int} (s w : Nat) (hp : p = ((2 ^ s : Nat) : Int)) (hq : q = ((2 ^ w : Nat) : Int)) (x0 : 0 ≤ x) (v0 : 0 ≤ v) (v1 : v < q) (hz : x / p % q = 0) : dj x (v * p) := by
 obtain ⟨X, rfl⟩ : ∃ X : Nat, x = X := ⟨x.toNat, by omega⟩
 obtain ⟨V, rfl⟩ : ∃ V : Nat, v = V := ⟨v.toNat, by omega⟩
 subst hp; subst hq
 have hV : V < 2 ^ w := by exact_mod_cast v1
 have hZ : X / 2 ^ s % 2 ^ w = 0 := by exact_mod_cast hz
 refine ⟨x0, by exact_mod_cast Nat.zero_le (V * 2 ^ s), ?_⟩
 have e : ((V : Int) * ((2 ^ s : Nat) : Int)).toNat = V * 2 ^ s := by rw [← Int.natCast_mul]; rfl
 rw [e, Int.toNat_natCast]
 apply Nat.eq_of_testBit_eq
 intro j
 rw [Nat.testBit_and, Nat.testBit_mul_two_pow, Nat.zero_testBit]
 by_cases hs : s ≤ j
 ·by_cases hw : j - s < w
  ·have h1 : (X / 2 ^ s % 2 ^ w).testBit (j - s) = X.testBit j := by
    rw [Nat.testBit_mod_two_pow, Nat.testBit_div_two_pow, Nat.sub_add_cancel hs]; simp [hw]
   rw [hZ, Nat.zero_testBit] at h1
   rw [← h1]; rfl
  ·have h1 : V.testBit (j - s) = false := Nat.testBit_lt_two_pow (Nat.lt_of_lt_of_le hV (Nat.pow_le_pow_right (by decide) (by omega)))
   rw [h1]; simp
 ·simp [hs]
theorem aAx {x y z : Int} (h1 : dj x y) (h2 : dj x z) (h3 : dj y z) (hb : y + z < 18446744073709551616) : dj x (y + z) := by
 obtain ⟨x0, y0, h1⟩ := h1
 obtain ⟨_, z0, h2⟩ := h2
 obtain ⟨_, _, h3⟩ := h3
 refine ⟨x0, by omega, ?_⟩
 have e : (y + z).toNat = y.toNat + z.toNat := by omega
 rw [e, ← aJA h3 (by omega), Nat.and_or_distrib_left, h1, h2]
 rfl
theorem lF (P : Program) (t : Nat) (c : Bool) {x y : Int} (h : dj x y) (hb : x + y < 4294967296) : aQ P .or t c (cX x) (cX y) = some (cX (x + y)) := by
 obtain ⟨x0, y0, h⟩ := h
 obtain ⟨X, rfl⟩ : ∃ X : Nat, x = X := ⟨x.toNat, by omega⟩
 obtain ⟨Y, rfl⟩ : ∃ Y : Nat, y = Y := ⟨y.toNat, by omega⟩
 rw [Int.toNat_natCast, Int.toNat_natCast] at h
 rw [aCJ]
 show some (AV.int .u32 (IntKind.u32.wrap ((BitVec.ofInt 32 (X : Int) ||| BitVec.ofInt 32 (Y : Int)).toNat : Int))) = _
 rw [aMz X Y (by omega) (by omega), aJA h (by omega)]
 rfl
theorem dN (P : Program) (t : Nat) (c : Bool) {x v p q : Int} (s w : Nat) (hp : p = ((2 ^ s : Nat) : Int)) (hq : q = ((2 ^ w : Nat) : Int)) (x0 : 0 ≤ x) (v0 : 0 ≤ v) (v1 : v < q) (hz : x / p % q = 0) (hb : x + v * p < 4294967296) :
  aQ P .or t c (cX x) (cX (v * p)) = some (cX (x + v * p)) := lF P t c (gR s w hp hq x0 v0 v1 hz) hb
theorem iD (P : Program) (t : Nat) (c : Bool) {x v q : Int} (w : Nat) (hq : q = ((2 ^ w : Nat) : Int)) (x0 : 0 ≤ x) (v0 : 0 ≤ v) (v1 : v < q) (hz : x % q = 0) (hb : x + v < 4294967296) :
  aQ P .or t c (cX x) (cX v) = some (cX (x + v)) := by
 have h := gR (x := x) (v := v) (p := 1) 0 w rfl hq x0 v0 v1 (by rw [Int.ediv_one]; exact hz)
 rw [Int.mul_one] at h
 exact lF P t c h hb
theorem jL (P : Program) (t : Nat) (c : Bool) {x q : Int} (w : Nat) (hw : w ≤ 31) (hq : q = ((2 ^ w - 1 : Nat) : Int)) (x0 : 0 ≤ x) (x1 : x < 4294967296) : aQ P .and t c (cX x) (cX q) = some (cX (x % (q + 1))) := by
 obtain ⟨X, rfl⟩ : ∃ X : Nat, x = X := ⟨x.toNat, by omega⟩
 have hl : 2 ^ w ≤ 2 ^ 31 := Nat.pow_le_pow_right (by decide) hw
 have hl' : 0 < 2 ^ w := Nat.two_pow_pos w
 rw [pJ, hq, aLm X _ (by omega) (by omega), Nat.and_two_pow_sub_one_eq_mod]
 congr 2
 have e : ((2 ^ w - 1 : Nat) : Int) + 1 = ((2 ^ w : Nat) : Int) := by omega
 rw [e]; rfl
theorem dA (P : Program) (t : Nat) (c : Bool) {v p b : Int} (s : Nat) (hb : b = (s : Int)) (hs : s ≤ 32) (hp : p = ((2 ^ s : Nat) : Int)) (h0 : 0 ≤ v * p) (h1 : v * p < 4294967296) : aQ P .shl t c (cX v) (.int .u64 b) = some (cX (v * p)) := by
 subst hb
 rw [aCP _ _ _ _ _ _ _ (Int.natCast_nonneg s), Int.toNat_natCast]
 have e : min s IntKind.u32.bits = s := Nat.min_eq_left hs
 have e2 : ((2 : Int) ^ s) = p := by rw [hp]; exact_mod_cast rfl
 rw [e, e2, mK h0 h1]
def fH (op a imm : Int) : Int :=
 if op = 1 ∨ op = 2 then a * 2097152 + imm * 32
 else if op = 8 then a * 1024
 else if op = 16 then a * 4096
 else if op = 17 then (if a % 2 = 0 then a + 1 else a - 1) * 4096
 else if op = 10 ∨ op = 11 ∨ op = 18 ∨ op = 19 then imm * 1024
 else if op = 12 then (64 - imm) % 64 * 65536 + (63 - imm) * 1024
 else if op = 13 then imm * 65536 + 64512
 else if op = 14 then imm * 65536
 else if op = 20 then imm % 67108864
 else if op = 21 then a + imm % 524288 * 32
 else if op = 22 ∨ op = 23 then imm % 524288 * 32
 else if op = 24 then imm * 32
 else 0
def cS (i : MI) : Int := (aO i.op).w + i.d + i.n * 32 + i.m * 65536 + fH i.op i.a i.imm
theorem aPh (P : Program) (t : Nat) (c : Bool) {a : Int} (h0 : 0 ≤ a) (h1 : a ≤ 9) : aQ P .xor t c (cX a) (.int .u32 1) = some (cX (if a % 2 = 0 then a + 1 else a - 1)) := by
 have h : a = 0 ∨ a = 1 ∨ a = 2 ∨ a = 3 ∨ a = 4 ∨ a = 5 ∨ a = 6 ∨ a = 7 ∨ a = 8 ∨ a = 9 := by omega
 rcases h with rfl | rfl | rfl | rfl | rfl | rfl | rfl | rfl | rfl | rfl <;> (clear h0 h1; show _ = _; kernel_rfl)
theorem aLT (P : Program) (t : Nat) (c : Bool) {a : Int} (h0 : 0 ≤ a) : aQ P .rem t c (cX a) (.int .u32 64) = some (cX (a % 64)) := by
 rw [aCp _ _ _ _ _ _ (by decide), Int.tmod_eq_emod_of_nonneg h0]
theorem aDN (P : Program) (t : Nat) (c : Bool) {a b : Int} (h0 : b ≤ a) (h1 : 0 ≤ b) (h2 : a < 4294967296) : aQ P .sub t c (cX a) (cX b) = some (cX (a - b)) := by
 rw [zJ, mK (by omega) (by omega)]
theorem cvM (x : Int) : aJ .u32 (I6 x) = some (cX (x % 4294967296)) := by rw [aPj, aDB]
theorem fT (G : aG) (k : Nat) (i : MI) (h : aT i = true) : cT.f G (k + 1) [i.v] [] = some (cX (fH i.op i.a i.imm), []) := by
 obtain ⟨op, d, n, m, a, imm⟩ := i
 show cT.f G (k + 1) [mV op d n m a imm] [] = _
 unfold aT at h
 rw [Bool.and_eq_true] at h
 have h24 : 1 ≤ op ∧ op ≤ 24 := of_decide_eq_true h.1
 obtain ⟨_, h⟩ := h
 rw [cT.step]
 unfold cT.c
 simp only
 refine eZ ?_
 rcases xA h24 with rfl | rfl | rfl | rfl | rfl | rfl | rfl | rfl | rfl | rfl | rfl | rfl | rfl | rfl | rfl | rfl | rfl | rfl | rfl | rfl | rfl | rfl | rfl | rfl
 all_goals (simp [aO, fD, gI, dU, gS, fC, dS] at h)
 ·
  have s1 := dA Tryd.prog 71 true (v := a) (p := 2097152) (b := 21) 21 rfl (by decide) rfl (by omega) (by omega)
  have s2 := dA Tryd.prog 71 true (v := imm) (p := 32) (b := 5) 5 rfl (by decide) rfl (by omega) (by omega)
  have s3 := dN Tryd.prog 71 false (x := a * 2097152) (v := imm) (p := 32) (q := 65536) 5 16 rfl rfl (by omega) (by omega) (by omega) (by omega) (by omega)
  have fx := aPQ s1 <| aPQ s2 <| s3
  refine gM ?_
  exact tA rfl
 ·
  have s1 := dA Tryd.prog 71 true (v := a) (p := 2097152) (b := 21) 21 rfl (by decide) rfl (by omega) (by omega)
  have s2 := dA Tryd.prog 71 true (v := imm) (p := 32) (b := 5) 5 rfl (by decide) rfl (by omega) (by omega)
  have s3 := dN Tryd.prog 71 false (x := a * 2097152) (v := imm) (p := 32) (q := 65536) 5 16 rfl rfl (by omega) (by omega) (by omega) (by omega) (by omega)
  have fx := aPQ s1 <| aPQ s2 <| s3
  refine gM ?_
  exact tA rfl
 ·
  have fx := True.intro
  refine gM ?_
  exact tA rfl
 ·
  have fx := True.intro
  refine gM ?_
  exact tA rfl
 ·
  have fx := True.intro
  refine gM ?_
  exact tA rfl
 ·
  have fx := True.intro
  refine gM ?_
  exact tA rfl
 ·
  have fx := True.intro
  refine gM ?_
  exact tA rfl
 ·
  have s1 := dA Tryd.prog 71 true (v := a) (p := 1024) (b := 10) 10 rfl (by decide) rfl (by omega) (by omega)
  have fx := s1
  refine gM ?_
  exact tA rfl
 ·
  have fx := True.intro
  refine gM ?_
  exact tA rfl
 ·
  have s1 := dA Tryd.prog 71 true (v := imm) (p := 1024) (b := 10) 10 rfl (by decide) rfl (by omega) (by omega)
  have fx := s1
  refine gM ?_
  exact tA rfl
 ·
  have s1 := dA Tryd.prog 71 true (v := imm) (p := 1024) (b := 10) 10 rfl (by decide) rfl (by omega) (by omega)
  have fx := s1
  refine gM ?_
  exact tA rfl
 ·
  have s0 := aDN Tryd.prog 71 true (a := 64) (b := imm) (by omega) (by omega) (by omega)
  have s1 := aLT Tryd.prog 71 true (a := 64 - imm) (by omega)
  have s2 := dA Tryd.prog 71 true (v := (64 - imm) % 64) (p := 65536) (b := 16) 16 rfl (by decide) rfl (by omega) (by omega)
  have s3 := aDN Tryd.prog 71 true (a := 63) (b := imm) (by omega) (by omega) (by omega)
  have s4 := dA Tryd.prog 71 true (v := 63 - imm) (p := 1024) (b := 10) 10 rfl (by decide) rfl (by omega) (by omega)
  have s5 := dN Tryd.prog 71 false (x := (64 - imm) % 64 * 65536) (v := 63 - imm) (p := 1024) (q := 64) 10 6 rfl rfl (by omega) (by omega) (by omega) (by omega) (by omega)
  have fx := aPQ s0 <| aPQ s1 <| aPQ s2 <| aPQ s3 <| aPQ s4 <| s5
  refine gM ?_
  exact tA rfl
 ·
  have s1 := dA Tryd.prog 71 true (v := imm) (p := 65536) (b := 16) 16 rfl (by decide) rfl (by omega) (by omega)
  have s2 : aQ Tryd.prog .or 71 true (cX (imm * 65536)) (.int .u32 64512) = some (cX (imm * 65536 + 64512)) := dN Tryd.prog 71 true (x := imm * 65536) (v := 63) (p := 1024) (q := 64) 10 6 rfl rfl (by omega) (by omega) (by omega) (by omega) (by omega)
  have fx := aPQ s1 <| s2
  refine gM ?_
  exact tA rfl
 ·
  have s1 := dA Tryd.prog 71 true (v := imm) (p := 65536) (b := 16) 16 rfl (by decide) rfl (by omega) (by omega)
  have fx := s1
  refine gM ?_
  exact tA rfl
 ·
  have fx := True.intro
  refine gM ?_
  exact tA rfl
 ·
  have s1 := dA Tryd.prog 71 true (v := a) (p := 4096) (b := 12) 12 rfl (by decide) rfl (by omega) (by omega)
  have fx := s1
  refine gM ?_
  exact tA rfl
 ·
  have s0 := aPh Tryd.prog 71 true (a := a) (by omega) (by omega)
  have s1 := dA Tryd.prog 71 true (v := (if a % 2 = 0 then a + 1 else a - 1)) (p := 4096) (b := 12) 12 rfl (by decide) rfl (by split <;> omega) (by split <;> omega)
  have fx := aPQ s0 <| s1
  refine gM ?_
  exact tA rfl
 ·
  have s1 := dA Tryd.prog 71 true (v := imm) (p := 1024) (b := 10) 10 rfl (by decide) rfl (by omega) (by omega)
  have fx := s1
  refine gM ?_
  exact tA rfl
 ·
  have s1 := dA Tryd.prog 71 true (v := imm) (p := 1024) (b := 10) 10 rfl (by decide) rfl (by omega) (by omega)
  have fx := s1
  refine gM ?_
  exact tA rfl
 ·
  have s1 : aQ Tryd.prog .and 71 true (cX (imm % 4294967296)) (.int .u32 67108863) = some (cX (imm % 67108864)) := by
   have := jL Tryd.prog 71 true (x := imm % 4294967296) (q := 67108863) 26 (by decide) rfl (by omega) (by omega)
   rw [this]; congr 2; omega
  have fx := aPQ cvM <| s1
  refine gM ?_
  exact tA rfl
 ·
  have s1 : aQ Tryd.prog .and 71 true (cX (imm % 4294967296)) (.int .u32 524287) = some (cX (imm % 524288)) := by
   have := jL Tryd.prog 71 true (x := imm % 4294967296) (q := 524287) 19 (by decide) rfl (by omega) (by omega)
   rw [this]; congr 2; omega
  have s2 := dA Tryd.prog 71 true (v := imm % 524288) (p := 32) (b := 5) 5 rfl (by decide) rfl (by omega) (by omega)
  have s3 := dN Tryd.prog 71 false (x := a) (v := imm % 524288) (p := 32) (q := 524288) 5 19 rfl rfl (by omega) (by omega) (by omega) (by omega) (by omega)
  have s4 : aJ .u32 (I6 a) = some (cX a) := bF (by omega) (by omega)
  have fx := aPQ s4 <| aPQ cvM <| aPQ s1 <| aPQ s2 <| s3
  refine gM ?_
  exact tA rfl
 ·
  have s1 : aQ Tryd.prog .and 71 true (cX (imm % 4294967296)) (.int .u32 524287) = some (cX (imm % 524288)) := by
   have := jL Tryd.prog 71 true (x := imm % 4294967296) (q := 524287) 19 (by decide) rfl (by omega) (by omega)
   rw [this]; congr 2; omega
  have s2 := dA Tryd.prog 71 true (v := imm % 524288) (p := 32) (b := 5) 5 rfl (by decide) rfl (by omega) (by omega)
  have s3 : aQ Tryd.prog .or 71 false (.int .u32 0) (cX (imm % 524288 * 32)) = some (cX (0 + imm % 524288 * 32)) := dN Tryd.prog 71 false (x := 0) (v := imm % 524288) (p := 32) (q := 524288) 5 19 rfl rfl (by omega) (by omega) (by omega) (by omega) (by omega)
  have s4 : aJ .u32 (I6 a) = some (.int .u32 0) := by rw [show a = 0 by omega]; rfl
  have fx := aPQ s4 <| aPQ cvM <| aPQ s1 <| aPQ s2 <| s3
  refine gM ?_
  exact tA (Int.zero_add _)
 ·
  have s1 : aQ Tryd.prog .and 71 true (cX (imm % 4294967296)) (.int .u32 524287) = some (cX (imm % 524288)) := by
   have := jL Tryd.prog 71 true (x := imm % 4294967296) (q := 524287) 19 (by decide) rfl (by omega) (by omega)
   rw [this]; congr 2; omega
  have s2 := dA Tryd.prog 71 true (v := imm % 524288) (p := 32) (b := 5) 5 rfl (by decide) rfl (by omega) (by omega)
  have s3 : aQ Tryd.prog .or 71 false (.int .u32 0) (cX (imm % 524288 * 32)) = some (cX (0 + imm % 524288 * 32)) := dN Tryd.prog 71 false (x := 0) (v := imm % 524288) (p := 32) (q := 524288) 5 19 rfl rfl (by omega) (by omega) (by omega) (by omega) (by omega)
  have s4 : aJ .u32 (I6 a) = some (.int .u32 0) := by rw [show a = 0 by omega]; rfl
  have fx := aPQ s4 <| aPQ cvM <| aPQ s1 <| aPQ s2 <| s3
  refine gM ?_
  exact tA (Int.zero_add _)
 ·
  have s1 := dA Tryd.prog 71 true (v := imm) (p := 32) (b := 5) 5 rfl (by decide) rfl (by omega) (by omega)
  have fx := s1
  refine gM ?_
  exact tA rfl
theorem qS {x : Int} (h : 0 ≤ x) : dj x 0 := ⟨h, by decide, by simp⟩
def mX (i : MI) : Int := if aT i = true then cS i else 0
theorem aMo (G : aG) (k : Nat) (d n m a imm : Int) (h : aT ⟨1, d, n, m, a, imm⟩ = true) : bD.f G (k + 5) [mV 1 d n m a imm] [] = some (.tup [cX (cS ⟨1, d, n, m, a, imm⟩), .bool true], []) := by
 have r1 : ∀ H, aD (fO.f G (k + 4)) [.int .i64 1] H = _ := fun H => aE (H := H) (iO G k 1) rfl rfl
 have r2 : ∀ H, aD (eH.f G (k + 4)) [mV 1 d n m a imm, (aO 1).v] H = _ := fun H => aE (H := H) (gN G (k + 1) 1 d n m a imm (aO 1) (gO 1)) rfl rfl
 have r3 : ∀ H, aD (cT.f G (k + 4)) [mV 1 d n m a imm] H = _ := fun H => aE (H := H) (fT G (k + 3) ⟨1, d, n, m, a, imm⟩ h) rfl rfl
 unfold aT at h
 rw [Bool.and_eq_true] at h
 obtain ⟨_, h⟩ := h
 simp only at h
 rw [h] at r2
 simp [aO, fD, gI, dU, gS, fC, dS] at h
 have c1 : aJ .u32 (I6 d) = some (cX d) := bF (by omega) (by omega)
 have c2 : aJ .u32 (I6 n) = some (cX n) := bF (by omega) (by omega)
 have c3 : aJ .u32 (I6 m) = some (cX m) := bF (by omega) (by omega)
 have s1 := dA Tryd.prog 71 true (v := n) (p := 32) (b := 5) 5 rfl (by decide) rfl (by omega) (by omega)
 have s2 := dA Tryd.prog 71 true (v := m) (p := 65536) (b := 16) 16 rfl (by decide) rfl (by omega) (by omega)
 have o1 := iD Tryd.prog 71 false (x := 3531603968) (v := d) (q := 32) 5 rfl (by omega) (by omega) (by omega) (by omega) (by omega)
 have o2 := dN Tryd.prog 71 false (x := 3531603968 + d) (v := n) (p := 32) (q := 1) 5 0 rfl rfl (by omega) (by omega) (by omega) (by omega) (by omega)
 have o3 := dN Tryd.prog 71 false (x := 3531603968 + d + n * 32) (v := m) (p := 65536) (q := 1) 16 0 rfl rfl (by omega) (by omega) (by omega) (by omega) (by omega)
 have e4 : fH 1 a imm = a * 2097152 + imm * 32 := rfl
 have o4 : aQ Tryd.prog .or 71 false (cX (3531603968 + d + n * 32 + m * 65536)) (cX (fH 1 a imm)) = some (cX (3531603968 + d + n * 32 + m * 65536 + fH 1 a imm)) := by
  rw [e4]
  exact lF Tryd.prog 71 false (aAx (gR (x := 3531603968 + d + n * 32 + m * 65536) (v := a) (p := 2097152) (q := 4) 21 2 rfl rfl (by omega) (by omega) (by omega) (by omega)) (gR (x := 3531603968 + d + n * 32 + m * 65536) (v := imm) (p := 32) (q := 65536) 5 16 rfl rfl (by omega) (by omega) (by omega) (by omega)) (gR (x := a * 2097152) (v := imm) (p := 32) (q := 65536) 5 16 rfl rfl (by omega) (by omega) (by omega) (by omega)) (by omega)) (by omega)
 have ef : aO 1 = ⟨(aO 1).nm, 3531603968, true, false, false, (aO 1).a, (aO 1).b⟩ := rfl
 have eo : kK 1 = true := rfl
 have ew : cS ⟨1, d, n, m, a, imm⟩ = 3531603968 + d + n * 32 + m * 65536 + fH 1 a imm := rfl
 rw [ew]
 rw [eo, ef] at r1
 rw [ef] at r2
 rw [bD.step]
 unfold bD.c
 unfold Form.v at r1 r2
 clear e4 ef eo h ew
 generalize (aO 1).nm = nm at *
 generalize (aO 1).a = fa at *
 generalize (aO 1).b = fb at *
 generalize fH 1 a imm = z at *
 refine eZ ?_
 have fx := aPQ r1 <| aPQ r2 <| aPQ r3 <| aPQ c1 <| aPQ c2 <| aPQ c3 <| aPQ s1 <| aPQ s2 <| aPQ o1 <| aPQ o2 <| aPQ o3 <| o4
 refine gM ?_
 exact w2 rfl rfl rfl
theorem aNr (G : aG) (k : Nat) (d n m a imm : Int) (h : aT ⟨2, d, n, m, a, imm⟩ = true) : bD.f G (k + 5) [mV 2 d n m a imm] [] = some (.tup [cX (cS ⟨2, d, n, m, a, imm⟩), .bool true], []) := by
 have r1 : ∀ H, aD (fO.f G (k + 4)) [.int .i64 2] H = _ := fun H => aE (H := H) (iO G k 2) rfl rfl
 have r2 : ∀ H, aD (eH.f G (k + 4)) [mV 2 d n m a imm, (aO 2).v] H = _ := fun H => aE (H := H) (gN G (k + 1) 2 d n m a imm (aO 2) (gO 2)) rfl rfl
 have r3 : ∀ H, aD (cT.f G (k + 4)) [mV 2 d n m a imm] H = _ := fun H => aE (H := H) (fT G (k + 3) ⟨2, d, n, m, a, imm⟩ h) rfl rfl
 unfold aT at h
 rw [Bool.and_eq_true] at h
 obtain ⟨_, h⟩ := h
 simp only at h
 rw [h] at r2
 simp [aO, fD, gI, dU, gS, fC, dS] at h
 have c1 : aJ .u32 (I6 d) = some (cX d) := bF (by omega) (by omega)
 have c2 : aJ .u32 (I6 n) = some (cX n) := bF (by omega) (by omega)
 have c3 : aJ .u32 (I6 m) = some (cX m) := bF (by omega) (by omega)
 have s1 := dA Tryd.prog 71 true (v := n) (p := 32) (b := 5) 5 rfl (by decide) rfl (by omega) (by omega)
 have s2 := dA Tryd.prog 71 true (v := m) (p := 65536) (b := 16) 16 rfl (by decide) rfl (by omega) (by omega)
 have o1 := iD Tryd.prog 71 false (x := 4068474880) (v := d) (q := 32) 5 rfl (by omega) (by omega) (by omega) (by omega) (by omega)
 have o2 := dN Tryd.prog 71 false (x := 4068474880 + d) (v := n) (p := 32) (q := 1) 5 0 rfl rfl (by omega) (by omega) (by omega) (by omega) (by omega)
 have o3 := dN Tryd.prog 71 false (x := 4068474880 + d + n * 32) (v := m) (p := 65536) (q := 1) 16 0 rfl rfl (by omega) (by omega) (by omega) (by omega) (by omega)
 have e4 : fH 2 a imm = a * 2097152 + imm * 32 := rfl
 have o4 : aQ Tryd.prog .or 71 false (cX (4068474880 + d + n * 32 + m * 65536)) (cX (fH 2 a imm)) = some (cX (4068474880 + d + n * 32 + m * 65536 + fH 2 a imm)) := by
  rw [e4]
  exact lF Tryd.prog 71 false (aAx (gR (x := 4068474880 + d + n * 32 + m * 65536) (v := a) (p := 2097152) (q := 4) 21 2 rfl rfl (by omega) (by omega) (by omega) (by omega)) (gR (x := 4068474880 + d + n * 32 + m * 65536) (v := imm) (p := 32) (q := 65536) 5 16 rfl rfl (by omega) (by omega) (by omega) (by omega)) (gR (x := a * 2097152) (v := imm) (p := 32) (q := 65536) 5 16 rfl rfl (by omega) (by omega) (by omega) (by omega)) (by omega)) (by omega)
 have ef : aO 2 = ⟨(aO 2).nm, 4068474880, true, false, false, (aO 2).a, (aO 2).b⟩ := rfl
 have eo : kK 2 = true := rfl
 have ew : cS ⟨2, d, n, m, a, imm⟩ = 4068474880 + d + n * 32 + m * 65536 + fH 2 a imm := rfl
 rw [ew]
 rw [eo, ef] at r1
 rw [ef] at r2
 rw [bD.step]
 unfold bD.c
 unfold Form.v at r1 r2
 clear e4 ef eo h ew
 generalize (aO 2).nm = nm at *
 generalize (aO 2).a = fa at *
 generalize (aO 2).b = fb at *
 generalize fH 2 a imm = z at *
 refine eZ ?_
 have fx := aPQ r1 <| aPQ r2 <| aPQ r3 <| aPQ c1 <| aPQ c2 <| aPQ c3 <| aPQ s1 <| aPQ s2 <| aPQ o1 <| aPQ o2 <| aPQ o3 <| o4
 refine gM ?_
 exact w2 rfl rfl rfl
theorem aNH (G : aG) (k : Nat) (d n m a imm : Int) (h : aT ⟨3, d, n, m, a, imm⟩ = true) : bD.f G (k + 5) [mV 3 d n m a imm] [] = some (.tup [cX (cS ⟨3, d, n, m, a, imm⟩), .bool true], []) := by
 have r1 : ∀ H, aD (fO.f G (k + 4)) [.int .i64 3] H = _ := fun H => aE (H := H) (iO G k 3) rfl rfl
 have r2 : ∀ H, aD (eH.f G (k + 4)) [mV 3 d n m a imm, (aO 3).v] H = _ := fun H => aE (H := H) (gN G (k + 1) 3 d n m a imm (aO 3) (gO 3)) rfl rfl
 have r3 : ∀ H, aD (cT.f G (k + 4)) [mV 3 d n m a imm] H = _ := fun H => aE (H := H) (fT G (k + 3) ⟨3, d, n, m, a, imm⟩ h) rfl rfl
 unfold aT at h
 rw [Bool.and_eq_true] at h
 obtain ⟨_, h⟩ := h
 simp only at h
 rw [h] at r2
 simp [aO, fD, gI, dU, gS, fC, dS] at h
 have c1 : aJ .u32 (I6 d) = some (cX d) := bF (by omega) (by omega)
 have c2 : aJ .u32 (I6 n) = some (cX n) := bF (by omega) (by omega)
 have c3 : aJ .u32 (I6 m) = some (cX m) := bF (by omega) (by omega)
 have s1 := dA Tryd.prog 71 true (v := n) (p := 32) (b := 5) 5 rfl (by decide) rfl (by omega) (by omega)
 have s2 := dA Tryd.prog 71 true (v := m) (p := 65536) (b := 16) 16 rfl (by decide) rfl (by omega) (by omega)
 have o1 := iD Tryd.prog 71 false (x := 2332033024) (v := d) (q := 32) 5 rfl (by omega) (by omega) (by omega) (by omega) (by omega)
 have o2 := dN Tryd.prog 71 false (x := 2332033024 + d) (v := n) (p := 32) (q := 32) 5 5 rfl rfl (by omega) (by omega) (by omega) (by omega) (by omega)
 have o3 := dN Tryd.prog 71 false (x := 2332033024 + d + n * 32) (v := m) (p := 65536) (q := 32) 16 5 rfl rfl (by omega) (by omega) (by omega) (by omega) (by omega)
 have e4 : fH 3 a imm = 0 := rfl
 have o4 : aQ Tryd.prog .or 71 false (cX (2332033024 + d + n * 32 + m * 65536)) (cX (fH 3 a imm)) = some (cX (2332033024 + d + n * 32 + m * 65536 + fH 3 a imm)) := by
  rw [e4]
  exact lF Tryd.prog 71 false (qS (x := 2332033024 + d + n * 32 + m * 65536) (by omega)) (by omega)
 have ef : aO 3 = ⟨(aO 3).nm, 2332033024, true, true, true, (aO 3).a, (aO 3).b⟩ := rfl
 have eo : kK 3 = true := rfl
 have ew : cS ⟨3, d, n, m, a, imm⟩ = 2332033024 + d + n * 32 + m * 65536 + fH 3 a imm := rfl
 rw [ew]
 rw [eo, ef] at r1
 rw [ef] at r2
 rw [bD.step]
 unfold bD.c
 unfold Form.v at r1 r2
 clear e4 ef eo h ew
 generalize (aO 3).nm = nm at *
 generalize (aO 3).a = fa at *
 generalize (aO 3).b = fb at *
 generalize fH 3 a imm = z at *
 refine eZ ?_
 have fx := aPQ r1 <| aPQ r2 <| aPQ r3 <| aPQ c1 <| aPQ c2 <| aPQ c3 <| aPQ s1 <| aPQ s2 <| aPQ o1 <| aPQ o2 <| aPQ o3 <| o4
 refine gM ?_
 exact w2 rfl rfl rfl
theorem aMZ (G : aG) (k : Nat) (d n m a imm : Int) (h : aT ⟨4, d, n, m, a, imm⟩ = true) : bD.f G (k + 5) [mV 4 d n m a imm] [] = some (.tup [cX (cS ⟨4, d, n, m, a, imm⟩), .bool true], []) := by
 have r1 : ∀ H, aD (fO.f G (k + 4)) [.int .i64 4] H = _ := fun H => aE (H := H) (iO G k 4) rfl rfl
 have r2 : ∀ H, aD (eH.f G (k + 4)) [mV 4 d n m a imm, (aO 4).v] H = _ := fun H => aE (H := H) (gN G (k + 1) 4 d n m a imm (aO 4) (gO 4)) rfl rfl
 have r3 : ∀ H, aD (cT.f G (k + 4)) [mV 4 d n m a imm] H = _ := fun H => aE (H := H) (fT G (k + 3) ⟨4, d, n, m, a, imm⟩ h) rfl rfl
 unfold aT at h
 rw [Bool.and_eq_true] at h
 obtain ⟨_, h⟩ := h
 simp only at h
 rw [h] at r2
 simp [aO, fD, gI, dU, gS, fC, dS] at h
 have c1 : aJ .u32 (I6 d) = some (cX d) := bF (by omega) (by omega)
 have c2 : aJ .u32 (I6 n) = some (cX n) := bF (by omega) (by omega)
 have c3 : aJ .u32 (I6 m) = some (cX m) := bF (by omega) (by omega)
 have s1 := dA Tryd.prog 71 true (v := n) (p := 32) (b := 5) 5 rfl (by decide) rfl (by omega) (by omega)
 have s2 := dA Tryd.prog 71 true (v := m) (p := 65536) (b := 16) 16 rfl (by decide) rfl (by omega) (by omega)
 have o1 := iD Tryd.prog 71 false (x := 3405774848) (v := d) (q := 32) 5 rfl (by omega) (by omega) (by omega) (by omega) (by omega)
 have o2 := dN Tryd.prog 71 false (x := 3405774848 + d) (v := n) (p := 32) (q := 32) 5 5 rfl rfl (by omega) (by omega) (by omega) (by omega) (by omega)
 have o3 := dN Tryd.prog 71 false (x := 3405774848 + d + n * 32) (v := m) (p := 65536) (q := 32) 16 5 rfl rfl (by omega) (by omega) (by omega) (by omega) (by omega)
 have e4 : fH 4 a imm = 0 := rfl
 have o4 : aQ Tryd.prog .or 71 false (cX (3405774848 + d + n * 32 + m * 65536)) (cX (fH 4 a imm)) = some (cX (3405774848 + d + n * 32 + m * 65536 + fH 4 a imm)) := by
  rw [e4]
  exact lF Tryd.prog 71 false (qS (x := 3405774848 + d + n * 32 + m * 65536) (by omega)) (by omega)
 have ef : aO 4 = ⟨(aO 4).nm, 3405774848, true, true, true, (aO 4).a, (aO 4).b⟩ := rfl
 have eo : kK 4 = true := rfl
 have ew : cS ⟨4, d, n, m, a, imm⟩ = 3405774848 + d + n * 32 + m * 65536 + fH 4 a imm := rfl
 rw [ew]
 rw [eo, ef] at r1
 rw [ef] at r2
 rw [bD.step]
 unfold bD.c
 unfold Form.v at r1 r2
 clear e4 ef eo h ew
 generalize (aO 4).nm = nm at *
 generalize (aO 4).a = fa at *
 generalize (aO 4).b = fb at *
 generalize fH 4 a imm = z at *
 refine eZ ?_
 have fx := aPQ r1 <| aPQ r2 <| aPQ r3 <| aPQ c1 <| aPQ c2 <| aPQ c3 <| aPQ s1 <| aPQ s2 <| aPQ o1 <| aPQ o2 <| aPQ o3 <| o4
 refine gM ?_
 exact w2 rfl rfl rfl
theorem aND (G : aG) (k : Nat) (d n m a imm : Int) (h : aT ⟨5, d, n, m, a, imm⟩ = true) : bD.f G (k + 5) [mV 5 d n m a imm] [] = some (.tup [cX (cS ⟨5, d, n, m, a, imm⟩), .bool true], []) := by
 have r1 : ∀ H, aD (fO.f G (k + 4)) [.int .i64 5] H = _ := fun H => aE (H := H) (iO G k 5) rfl rfl
 have r2 : ∀ H, aD (eH.f G (k + 4)) [mV 5 d n m a imm, (aO 5).v] H = _ := fun H => aE (H := H) (gN G (k + 1) 5 d n m a imm (aO 5) (gO 5)) rfl rfl
 have r3 : ∀ H, aD (cT.f G (k + 4)) [mV 5 d n m a imm] H = _ := fun H => aE (H := H) (fT G (k + 3) ⟨5, d, n, m, a, imm⟩ h) rfl rfl
 unfold aT at h
 rw [Bool.and_eq_true] at h
 obtain ⟨_, h⟩ := h
 simp only at h
 rw [h] at r2
 simp [aO, fD, gI, dU, gS, fC, dS] at h
 have c1 : aJ .u32 (I6 d) = some (cX d) := bF (by omega) (by omega)
 have c2 : aJ .u32 (I6 n) = some (cX n) := bF (by omega) (by omega)
 have c3 : aJ .u32 (I6 m) = some (cX m) := bF (by omega) (by omega)
 have s1 := dA Tryd.prog 71 true (v := n) (p := 32) (b := 5) 5 rfl (by decide) rfl (by omega) (by omega)
 have s2 := dA Tryd.prog 71 true (v := m) (p := 65536) (b := 16) 16 rfl (by decide) rfl (by omega) (by omega)
 have o1 := iD Tryd.prog 71 false (x := 2315255808) (v := d) (q := 32) 5 rfl (by omega) (by omega) (by omega) (by omega) (by omega)
 have o2 := dN Tryd.prog 71 false (x := 2315255808 + d) (v := n) (p := 32) (q := 32) 5 5 rfl rfl (by omega) (by omega) (by omega) (by omega) (by omega)
 have o3 := dN Tryd.prog 71 false (x := 2315255808 + d + n * 32) (v := m) (p := 65536) (q := 32) 16 5 rfl rfl (by omega) (by omega) (by omega) (by omega) (by omega)
 have e4 : fH 5 a imm = 0 := rfl
 have o4 : aQ Tryd.prog .or 71 false (cX (2315255808 + d + n * 32 + m * 65536)) (cX (fH 5 a imm)) = some (cX (2315255808 + d + n * 32 + m * 65536 + fH 5 a imm)) := by
  rw [e4]
  exact lF Tryd.prog 71 false (qS (x := 2315255808 + d + n * 32 + m * 65536) (by omega)) (by omega)
 have ef : aO 5 = ⟨(aO 5).nm, 2315255808, true, true, true, (aO 5).a, (aO 5).b⟩ := rfl
 have eo : kK 5 = true := rfl
 have ew : cS ⟨5, d, n, m, a, imm⟩ = 2315255808 + d + n * 32 + m * 65536 + fH 5 a imm := rfl
 rw [ew]
 rw [eo, ef] at r1
 rw [ef] at r2
 rw [bD.step]
 unfold bD.c
 unfold Form.v at r1 r2
 clear e4 ef eo h ew
 generalize (aO 5).nm = nm at *
 generalize (aO 5).a = fa at *
 generalize (aO 5).b = fb at *
 generalize fH 5 a imm = z at *
 refine eZ ?_
 have fx := aPQ r1 <| aPQ r2 <| aPQ r3 <| aPQ c1 <| aPQ c2 <| aPQ c3 <| aPQ s1 <| aPQ s2 <| aPQ o1 <| aPQ o2 <| aPQ o3 <| o4
 refine gM ?_
 exact w2 rfl rfl rfl
theorem aMP (G : aG) (k : Nat) (d n m a imm : Int) (h : aT ⟨6, d, n, m, a, imm⟩ = true) : bD.f G (k + 5) [mV 6 d n m a imm] [] = some (.tup [cX (cS ⟨6, d, n, m, a, imm⟩), .bool true], []) := by
 have r1 : ∀ H, aD (fO.f G (k + 4)) [.int .i64 6] H = _ := fun H => aE (H := H) (iO G k 6) rfl rfl
 have r2 : ∀ H, aD (eH.f G (k + 4)) [mV 6 d n m a imm, (aO 6).v] H = _ := fun H => aE (H := H) (gN G (k + 1) 6 d n m a imm (aO 6) (gO 6)) rfl rfl
 have r3 : ∀ H, aD (cT.f G (k + 4)) [mV 6 d n m a imm] H = _ := fun H => aE (H := H) (fT G (k + 3) ⟨6, d, n, m, a, imm⟩ h) rfl rfl
 unfold aT at h
 rw [Bool.and_eq_true] at h
 obtain ⟨_, h⟩ := h
 simp only at h
 rw [h] at r2
 simp [aO, fD, gI, dU, gS, fC, dS] at h
 have c1 : aJ .u32 (I6 d) = some (cX d) := bF (by omega) (by omega)
 have c2 : aJ .u32 (I6 n) = some (cX n) := bF (by omega) (by omega)
 have c3 : aJ .u32 (I6 m) = some (cX m) := bF (by omega) (by omega)
 have s1 := dA Tryd.prog 71 true (v := n) (p := 32) (b := 5) 5 rfl (by decide) rfl (by omega) (by omega)
 have s2 := dA Tryd.prog 71 true (v := m) (p := 65536) (b := 16) 16 rfl (by decide) rfl (by omega) (by omega)
 have o1 := iD Tryd.prog 71 false (x := 2852126720) (v := d) (q := 32) 5 rfl (by omega) (by omega) (by omega) (by omega) (by omega)
 have o2 := dN Tryd.prog 71 false (x := 2852126720 + d) (v := n) (p := 32) (q := 32) 5 5 rfl rfl (by omega) (by omega) (by omega) (by omega) (by omega)
 have o3 := dN Tryd.prog 71 false (x := 2852126720 + d + n * 32) (v := m) (p := 65536) (q := 32) 16 5 rfl rfl (by omega) (by omega) (by omega) (by omega) (by omega)
 have e4 : fH 6 a imm = 0 := rfl
 have o4 : aQ Tryd.prog .or 71 false (cX (2852126720 + d + n * 32 + m * 65536)) (cX (fH 6 a imm)) = some (cX (2852126720 + d + n * 32 + m * 65536 + fH 6 a imm)) := by
  rw [e4]
  exact lF Tryd.prog 71 false (qS (x := 2852126720 + d + n * 32 + m * 65536) (by omega)) (by omega)
 have ef : aO 6 = ⟨(aO 6).nm, 2852126720, true, true, true, (aO 6).a, (aO 6).b⟩ := rfl
 have eo : kK 6 = true := rfl
 have ew : cS ⟨6, d, n, m, a, imm⟩ = 2852126720 + d + n * 32 + m * 65536 + fH 6 a imm := rfl
 rw [ew]
 rw [eo, ef] at r1
 rw [ef] at r2
 rw [bD.step]
 unfold bD.c
 unfold Form.v at r1 r2
 clear e4 ef eo h ew
 generalize (aO 6).nm = nm at *
 generalize (aO 6).a = fa at *
 generalize (aO 6).b = fb at *
 generalize fH 6 a imm = z at *
 refine eZ ?_
 have fx := aPQ r1 <| aPQ r2 <| aPQ r3 <| aPQ c1 <| aPQ c2 <| aPQ c3 <| aPQ s1 <| aPQ s2 <| aPQ o1 <| aPQ o2 <| aPQ o3 <| o4
 refine gM ?_
 exact w2 rfl rfl rfl
theorem aMr (G : aG) (k : Nat) (d n m a imm : Int) (h : aT ⟨7, d, n, m, a, imm⟩ = true) : bD.f G (k + 5) [mV 7 d n m a imm] [] = some (.tup [cX (cS ⟨7, d, n, m, a, imm⟩), .bool true], []) := by
 have r1 : ∀ H, aD (fO.f G (k + 4)) [.int .i64 7] H = _ := fun H => aE (H := H) (iO G k 7) rfl rfl
 have r2 : ∀ H, aD (eH.f G (k + 4)) [mV 7 d n m a imm, (aO 7).v] H = _ := fun H => aE (H := H) (gN G (k + 1) 7 d n m a imm (aO 7) (gO 7)) rfl rfl
 have r3 : ∀ H, aD (cT.f G (k + 4)) [mV 7 d n m a imm] H = _ := fun H => aE (H := H) (fT G (k + 3) ⟨7, d, n, m, a, imm⟩ h) rfl rfl
 unfold aT at h
 rw [Bool.and_eq_true] at h
 obtain ⟨_, h⟩ := h
 simp only at h
 rw [h] at r2
 simp [aO, fD, gI, dU, gS, fC, dS] at h
 have c1 : aJ .u32 (I6 d) = some (cX d) := bF (by omega) (by omega)
 have c2 : aJ .u32 (I6 n) = some (cX n) := bF (by omega) (by omega)
 have c3 : aJ .u32 (I6 m) = some (cX m) := bF (by omega) (by omega)
 have s1 := dA Tryd.prog 71 true (v := n) (p := 32) (b := 5) 5 rfl (by decide) rfl (by omega) (by omega)
 have s2 := dA Tryd.prog 71 true (v := m) (p := 65536) (b := 16) 16 rfl (by decide) rfl (by omega) (by omega)
 have o1 := iD Tryd.prog 71 false (x := 3388997632) (v := d) (q := 32) 5 rfl (by omega) (by omega) (by omega) (by omega) (by omega)
 have o2 := dN Tryd.prog 71 false (x := 3388997632 + d) (v := n) (p := 32) (q := 32) 5 5 rfl rfl (by omega) (by omega) (by omega) (by omega) (by omega)
 have o3 := dN Tryd.prog 71 false (x := 3388997632 + d + n * 32) (v := m) (p := 65536) (q := 32) 16 5 rfl rfl (by omega) (by omega) (by omega) (by omega) (by omega)
 have e4 : fH 7 a imm = 0 := rfl
 have o4 : aQ Tryd.prog .or 71 false (cX (3388997632 + d + n * 32 + m * 65536)) (cX (fH 7 a imm)) = some (cX (3388997632 + d + n * 32 + m * 65536 + fH 7 a imm)) := by
  rw [e4]
  exact lF Tryd.prog 71 false (qS (x := 3388997632 + d + n * 32 + m * 65536) (by omega)) (by omega)
 have ef : aO 7 = ⟨(aO 7).nm, 3388997632, true, true, true, (aO 7).a, (aO 7).b⟩ := rfl
 have eo : kK 7 = true := rfl
 have ew : cS ⟨7, d, n, m, a, imm⟩ = 3388997632 + d + n * 32 + m * 65536 + fH 7 a imm := rfl
 rw [ew]
 rw [eo, ef] at r1
 rw [ef] at r2
 rw [bD.step]
 unfold bD.c
 unfold Form.v at r1 r2
 clear e4 ef eo h ew
 generalize (aO 7).nm = nm at *
 generalize (aO 7).a = fa at *
 generalize (aO 7).b = fb at *
 generalize fH 7 a imm = z at *
 refine eZ ?_
 have fx := aPQ r1 <| aPQ r2 <| aPQ r3 <| aPQ c1 <| aPQ c2 <| aPQ c3 <| aPQ s1 <| aPQ s2 <| aPQ o1 <| aPQ o2 <| aPQ o3 <| o4
 refine gM ?_
 exact w2 rfl rfl rfl
theorem aMM (G : aG) (k : Nat) (d n m a imm : Int) (h : aT ⟨8, d, n, m, a, imm⟩ = true) : bD.f G (k + 5) [mV 8 d n m a imm] [] = some (.tup [cX (cS ⟨8, d, n, m, a, imm⟩), .bool true], []) := by
 have r1 : ∀ H, aD (fO.f G (k + 4)) [.int .i64 8] H = _ := fun H => aE (H := H) (iO G k 8) rfl rfl
 have r2 : ∀ H, aD (eH.f G (k + 4)) [mV 8 d n m a imm, (aO 8).v] H = _ := fun H => aE (H := H) (gN G (k + 1) 8 d n m a imm (aO 8) (gO 8)) rfl rfl
 have r3 : ∀ H, aD (cT.f G (k + 4)) [mV 8 d n m a imm] H = _ := fun H => aE (H := H) (fT G (k + 3) ⟨8, d, n, m, a, imm⟩ h) rfl rfl
 unfold aT at h
 rw [Bool.and_eq_true] at h
 obtain ⟨_, h⟩ := h
 simp only at h
 rw [h] at r2
 simp [aO, fD, gI, dU, gS, fC, dS] at h
 have c1 : aJ .u32 (I6 d) = some (cX d) := bF (by omega) (by omega)
 have c2 : aJ .u32 (I6 n) = some (cX n) := bF (by omega) (by omega)
 have c3 : aJ .u32 (I6 m) = some (cX m) := bF (by omega) (by omega)
 have s1 := dA Tryd.prog 71 true (v := n) (p := 32) (b := 5) 5 rfl (by decide) rfl (by omega) (by omega)
 have s2 := dA Tryd.prog 71 true (v := m) (p := 65536) (b := 16) 16 rfl (by decide) rfl (by omega) (by omega)
 have o1 := iD Tryd.prog 71 false (x := 2600468480) (v := d) (q := 32) 5 rfl (by omega) (by omega) (by omega) (by omega) (by omega)
 have o2 := dN Tryd.prog 71 false (x := 2600468480 + d) (v := n) (p := 32) (q := 32) 5 5 rfl rfl (by omega) (by omega) (by omega) (by omega) (by omega)
 have o3 := dN Tryd.prog 71 false (x := 2600468480 + d + n * 32) (v := m) (p := 65536) (q := 32) 16 5 rfl rfl (by omega) (by omega) (by omega) (by omega) (by omega)
 have e4 : fH 8 a imm = a * 1024 := rfl
 have o4 : aQ Tryd.prog .or 71 false (cX (2600468480 + d + n * 32 + m * 65536)) (cX (fH 8 a imm)) = some (cX (2600468480 + d + n * 32 + m * 65536 + fH 8 a imm)) := by
  rw [e4]
  exact lF Tryd.prog 71 false ((gR (x := 2600468480 + d + n * 32 + m * 65536) (v := a) (p := 1024) (q := 32) 10 5 rfl rfl (by omega) (by omega) (by omega) (by omega))) (by omega)
 have ef : aO 8 = ⟨(aO 8).nm, 2600468480, true, true, true, (aO 8).a, (aO 8).b⟩ := rfl
 have eo : kK 8 = true := rfl
 have ew : cS ⟨8, d, n, m, a, imm⟩ = 2600468480 + d + n * 32 + m * 65536 + fH 8 a imm := rfl
 rw [ew]
 rw [eo, ef] at r1
 rw [ef] at r2
 rw [bD.step]
 unfold bD.c
 unfold Form.v at r1 r2
 clear e4 ef eo h ew
 generalize (aO 8).nm = nm at *
 generalize (aO 8).a = fa at *
 generalize (aO 8).b = fb at *
 generalize fH 8 a imm = z at *
 refine eZ ?_
 have fx := aPQ r1 <| aPQ r2 <| aPQ r3 <| aPQ c1 <| aPQ c2 <| aPQ c3 <| aPQ s1 <| aPQ s2 <| aPQ o1 <| aPQ o2 <| aPQ o3 <| o4
 refine gM ?_
 exact w2 rfl rfl rfl
theorem aNM (G : aG) (k : Nat) (d n m a imm : Int) (h : aT ⟨9, d, n, m, a, imm⟩ = true) : bD.f G (k + 5) [mV 9 d n m a imm] [] = some (.tup [cX (cS ⟨9, d, n, m, a, imm⟩), .bool true], []) := by
 have r1 : ∀ H, aD (fO.f G (k + 4)) [.int .i64 9] H = _ := fun H => aE (H := H) (iO G k 9) rfl rfl
 have r2 : ∀ H, aD (eH.f G (k + 4)) [mV 9 d n m a imm, (aO 9).v] H = _ := fun H => aE (H := H) (gN G (k + 1) 9 d n m a imm (aO 9) (gO 9)) rfl rfl
 have r3 : ∀ H, aD (cT.f G (k + 4)) [mV 9 d n m a imm] H = _ := fun H => aE (H := H) (fT G (k + 3) ⟨9, d, n, m, a, imm⟩ h) rfl rfl
 unfold aT at h
 rw [Bool.and_eq_true] at h
 obtain ⟨_, h⟩ := h
 simp only at h
 rw [h] at r2
 simp [aO, fD, gI, dU, gS, fC, dS] at h
 have c1 : aJ .u32 (I6 d) = some (cX d) := bF (by omega) (by omega)
 have c2 : aJ .u32 (I6 n) = some (cX n) := bF (by omega) (by omega)
 have c3 : aJ .u32 (I6 m) = some (cX m) := bF (by omega) (by omega)
 have s1 := dA Tryd.prog 71 true (v := n) (p := 32) (b := 5) 5 rfl (by decide) rfl (by omega) (by omega)
 have s2 := dA Tryd.prog 71 true (v := m) (p := 65536) (b := 16) 16 rfl (by decide) rfl (by omega) (by omega)
 have o1 := iD Tryd.prog 71 false (x := 2613083136) (v := d) (q := 32) 5 rfl (by omega) (by omega) (by omega) (by omega) (by omega)
 have o2 := dN Tryd.prog 71 false (x := 2613083136 + d) (v := n) (p := 32) (q := 32) 5 5 rfl rfl (by omega) (by omega) (by omega) (by omega) (by omega)
 have o3 := dN Tryd.prog 71 false (x := 2613083136 + d + n * 32) (v := m) (p := 65536) (q := 32) 16 5 rfl rfl (by omega) (by omega) (by omega) (by omega) (by omega)
 have e4 : fH 9 a imm = 0 := rfl
 have o4 : aQ Tryd.prog .or 71 false (cX (2613083136 + d + n * 32 + m * 65536)) (cX (fH 9 a imm)) = some (cX (2613083136 + d + n * 32 + m * 65536 + fH 9 a imm)) := by
  rw [e4]
  exact lF Tryd.prog 71 false (qS (x := 2613083136 + d + n * 32 + m * 65536) (by omega)) (by omega)
 have ef : aO 9 = ⟨(aO 9).nm, 2613083136, true, true, true, (aO 9).a, (aO 9).b⟩ := rfl
 have eo : kK 9 = true := rfl
 have ew : cS ⟨9, d, n, m, a, imm⟩ = 2613083136 + d + n * 32 + m * 65536 + fH 9 a imm := rfl
 rw [ew]
 rw [eo, ef] at r1
 rw [ef] at r2
 rw [bD.step]
 unfold bD.c
 unfold Form.v at r1 r2
 clear e4 ef eo h ew
 generalize (aO 9).nm = nm at *
 generalize (aO 9).a = fa at *
 generalize (aO 9).b = fb at *
 generalize fH 9 a imm = z at *
 refine eZ ?_
 have fx := aPQ r1 <| aPQ r2 <| aPQ r3 <| aPQ c1 <| aPQ c2 <| aPQ c3 <| aPQ s1 <| aPQ s2 <| aPQ o1 <| aPQ o2 <| aPQ o3 <| o4
 refine gM ?_
 exact w2 rfl rfl rfl
theorem aKM (G : aG) (k : Nat) (d n m a imm : Int) (h : aT ⟨10, d, n, m, a, imm⟩ = true) : bD.f G (k + 5) [mV 10 d n m a imm] [] = some (.tup [cX (cS ⟨10, d, n, m, a, imm⟩), .bool true], []) := by
 have r1 : ∀ H, aD (fO.f G (k + 4)) [.int .i64 10] H = _ := fun H => aE (H := H) (iO G k 10) rfl rfl
 have r2 : ∀ H, aD (eH.f G (k + 4)) [mV 10 d n m a imm, (aO 10).v] H = _ := fun H => aE (H := H) (gN G (k + 1) 10 d n m a imm (aO 10) (gO 10)) rfl rfl
 have r3 : ∀ H, aD (cT.f G (k + 4)) [mV 10 d n m a imm] H = _ := fun H => aE (H := H) (fT G (k + 3) ⟨10, d, n, m, a, imm⟩ h) rfl rfl
 unfold aT at h
 rw [Bool.and_eq_true] at h
 obtain ⟨_, h⟩ := h
 simp only at h
 rw [h] at r2
 simp [aO, fD, gI, dU, gS, fC, dS] at h
 have c1 : aJ .u32 (I6 d) = some (cX d) := bF (by omega) (by omega)
 have c2 : aJ .u32 (I6 n) = some (cX n) := bF (by omega) (by omega)
 have c3 : aJ .u32 (I6 m) = some (cX m) := bF (by omega) (by omega)
 have s1 := dA Tryd.prog 71 true (v := n) (p := 32) (b := 5) 5 rfl (by decide) rfl (by omega) (by omega)
 have s2 := dA Tryd.prog 71 true (v := m) (p := 65536) (b := 16) 16 rfl (by decide) rfl (by omega) (by omega)
 have o1 := iD Tryd.prog 71 false (x := 2432696320) (v := d) (q := 32) 5 rfl (by omega) (by omega) (by omega) (by omega) (by omega)
 have o2 := dN Tryd.prog 71 false (x := 2432696320 + d) (v := n) (p := 32) (q := 32) 5 5 rfl rfl (by omega) (by omega) (by omega) (by omega) (by omega)
 have o3 := dN Tryd.prog 71 false (x := 2432696320 + d + n * 32) (v := m) (p := 65536) (q := 1) 16 0 rfl rfl (by omega) (by omega) (by omega) (by omega) (by omega)
 have e4 : fH 10 a imm = imm * 1024 := rfl
 have o4 : aQ Tryd.prog .or 71 false (cX (2432696320 + d + n * 32 + m * 65536)) (cX (fH 10 a imm)) = some (cX (2432696320 + d + n * 32 + m * 65536 + fH 10 a imm)) := by
  rw [e4]
  exact lF Tryd.prog 71 false ((gR (x := 2432696320 + d + n * 32 + m * 65536) (v := imm) (p := 1024) (q := 4096) 10 12 rfl rfl (by omega) (by omega) (by omega) (by omega))) (by omega)
 have ef : aO 10 = ⟨(aO 10).nm, 2432696320, true, true, false, (aO 10).a, (aO 10).b⟩ := rfl
 have eo : kK 10 = true := rfl
 have ew : cS ⟨10, d, n, m, a, imm⟩ = 2432696320 + d + n * 32 + m * 65536 + fH 10 a imm := rfl
 rw [ew]
 rw [eo, ef] at r1
 rw [ef] at r2
 rw [bD.step]
 unfold bD.c
 unfold Form.v at r1 r2
 clear e4 ef eo h ew
 generalize (aO 10).nm = nm at *
 generalize (aO 10).a = fa at *
 generalize (aO 10).b = fb at *
 generalize fH 10 a imm = z at *
 refine eZ ?_
 have fx := aPQ r1 <| aPQ r2 <| aPQ r3 <| aPQ c1 <| aPQ c2 <| aPQ c3 <| aPQ s1 <| aPQ s2 <| aPQ o1 <| aPQ o2 <| aPQ o3 <| o4
 refine gM ?_
 exact w2 rfl rfl rfl
theorem aKm (G : aG) (k : Nat) (d n m a imm : Int) (h : aT ⟨11, d, n, m, a, imm⟩ = true) : bD.f G (k + 5) [mV 11 d n m a imm] [] = some (.tup [cX (cS ⟨11, d, n, m, a, imm⟩), .bool true], []) := by
 have r1 : ∀ H, aD (fO.f G (k + 4)) [.int .i64 11] H = _ := fun H => aE (H := H) (iO G k 11) rfl rfl
 have r2 : ∀ H, aD (eH.f G (k + 4)) [mV 11 d n m a imm, (aO 11).v] H = _ := fun H => aE (H := H) (gN G (k + 1) 11 d n m a imm (aO 11) (gO 11)) rfl rfl
 have r3 : ∀ H, aD (cT.f G (k + 4)) [mV 11 d n m a imm] H = _ := fun H => aE (H := H) (fT G (k + 3) ⟨11, d, n, m, a, imm⟩ h) rfl rfl
 unfold aT at h
 rw [Bool.and_eq_true] at h
 obtain ⟨_, h⟩ := h
 simp only at h
 rw [h] at r2
 simp [aO, fD, gI, dU, gS, fC, dS] at h
 have c1 : aJ .u32 (I6 d) = some (cX d) := bF (by omega) (by omega)
 have c2 : aJ .u32 (I6 n) = some (cX n) := bF (by omega) (by omega)
 have c3 : aJ .u32 (I6 m) = some (cX m) := bF (by omega) (by omega)
 have s1 := dA Tryd.prog 71 true (v := n) (p := 32) (b := 5) 5 rfl (by decide) rfl (by omega) (by omega)
 have s2 := dA Tryd.prog 71 true (v := m) (p := 65536) (b := 16) 16 rfl (by decide) rfl (by omega) (by omega)
 have o1 := iD Tryd.prog 71 false (x := 3506438144) (v := d) (q := 32) 5 rfl (by omega) (by omega) (by omega) (by omega) (by omega)
 have o2 := dN Tryd.prog 71 false (x := 3506438144 + d) (v := n) (p := 32) (q := 32) 5 5 rfl rfl (by omega) (by omega) (by omega) (by omega) (by omega)
 have o3 := dN Tryd.prog 71 false (x := 3506438144 + d + n * 32) (v := m) (p := 65536) (q := 1) 16 0 rfl rfl (by omega) (by omega) (by omega) (by omega) (by omega)
 have e4 : fH 11 a imm = imm * 1024 := rfl
 have o4 : aQ Tryd.prog .or 71 false (cX (3506438144 + d + n * 32 + m * 65536)) (cX (fH 11 a imm)) = some (cX (3506438144 + d + n * 32 + m * 65536 + fH 11 a imm)) := by
  rw [e4]
  exact lF Tryd.prog 71 false ((gR (x := 3506438144 + d + n * 32 + m * 65536) (v := imm) (p := 1024) (q := 4096) 10 12 rfl rfl (by omega) (by omega) (by omega) (by omega))) (by omega)
 have ef : aO 11 = ⟨(aO 11).nm, 3506438144, true, true, false, (aO 11).a, (aO 11).b⟩ := rfl
 have eo : kK 11 = true := rfl
 have ew : cS ⟨11, d, n, m, a, imm⟩ = 3506438144 + d + n * 32 + m * 65536 + fH 11 a imm := rfl
 rw [ew]
 rw [eo, ef] at r1
 rw [ef] at r2
 rw [bD.step]
 unfold bD.c
 unfold Form.v at r1 r2
 clear e4 ef eo h ew
 generalize (aO 11).nm = nm at *
 generalize (aO 11).a = fa at *
 generalize (aO 11).b = fb at *
 generalize fH 11 a imm = z at *
 refine eZ ?_
 have fx := aPQ r1 <| aPQ r2 <| aPQ r3 <| aPQ c1 <| aPQ c2 <| aPQ c3 <| aPQ s1 <| aPQ s2 <| aPQ o1 <| aPQ o2 <| aPQ o3 <| o4
 refine gM ?_
 exact w2 rfl rfl rfl
theorem aLf (G : aG) (k : Nat) (d n m a imm : Int) (h : aT ⟨12, d, n, m, a, imm⟩ = true) : bD.f G (k + 5) [mV 12 d n m a imm] [] = some (.tup [cX (cS ⟨12, d, n, m, a, imm⟩), .bool true], []) := by
 have r1 : ∀ H, aD (fO.f G (k + 4)) [.int .i64 12] H = _ := fun H => aE (H := H) (iO G k 12) rfl rfl
 have r2 : ∀ H, aD (eH.f G (k + 4)) [mV 12 d n m a imm, (aO 12).v] H = _ := fun H => aE (H := H) (gN G (k + 1) 12 d n m a imm (aO 12) (gO 12)) rfl rfl
 have r3 : ∀ H, aD (cT.f G (k + 4)) [mV 12 d n m a imm] H = _ := fun H => aE (H := H) (fT G (k + 3) ⟨12, d, n, m, a, imm⟩ h) rfl rfl
 unfold aT at h
 rw [Bool.and_eq_true] at h
 obtain ⟨_, h⟩ := h
 simp only at h
 rw [h] at r2
 simp [aO, fD, gI, dU, gS, fC, dS] at h
 have c1 : aJ .u32 (I6 d) = some (cX d) := bF (by omega) (by omega)
 have c2 : aJ .u32 (I6 n) = some (cX n) := bF (by omega) (by omega)
 have c3 : aJ .u32 (I6 m) = some (cX m) := bF (by omega) (by omega)
 have s1 := dA Tryd.prog 71 true (v := n) (p := 32) (b := 5) 5 rfl (by decide) rfl (by omega) (by omega)
 have s2 := dA Tryd.prog 71 true (v := m) (p := 65536) (b := 16) 16 rfl (by decide) rfl (by omega) (by omega)
 have o1 := iD Tryd.prog 71 false (x := 3544186880) (v := d) (q := 32) 5 rfl (by omega) (by omega) (by omega) (by omega) (by omega)
 have o2 := dN Tryd.prog 71 false (x := 3544186880 + d) (v := n) (p := 32) (q := 32) 5 5 rfl rfl (by omega) (by omega) (by omega) (by omega) (by omega)
 have o3 := dN Tryd.prog 71 false (x := 3544186880 + d + n * 32) (v := m) (p := 65536) (q := 1) 16 0 rfl rfl (by omega) (by omega) (by omega) (by omega) (by omega)
 have e4 : fH 12 a imm = (64 - imm) % 64 * 65536 + (63 - imm) * 1024 := rfl
 have o4 : aQ Tryd.prog .or 71 false (cX (3544186880 + d + n * 32 + m * 65536)) (cX (fH 12 a imm)) = some (cX (3544186880 + d + n * 32 + m * 65536 + fH 12 a imm)) := by
  rw [e4]
  exact lF Tryd.prog 71 false (aAx (gR (x := 3544186880 + d + n * 32 + m * 65536) (v := (64 - imm) % 64) (p := 65536) (q := 64) 16 6 rfl rfl (by omega) (by omega) (by omega) (by omega)) (gR (x := 3544186880 + d + n * 32 + m * 65536) (v := (63 - imm)) (p := 1024) (q := 64) 10 6 rfl rfl (by omega) (by omega) (by omega) (by omega)) (gR (x := (64 - imm) % 64 * 65536) (v := (63 - imm)) (p := 1024) (q := 64) 10 6 rfl rfl (by omega) (by omega) (by omega) (by omega)) (by omega)) (by omega)
 have ef : aO 12 = ⟨(aO 12).nm, 3544186880, true, true, false, (aO 12).a, (aO 12).b⟩ := rfl
 have eo : kK 12 = true := rfl
 have ew : cS ⟨12, d, n, m, a, imm⟩ = 3544186880 + d + n * 32 + m * 65536 + fH 12 a imm := rfl
 rw [ew]
 rw [eo, ef] at r1
 rw [ef] at r2
 rw [bD.step]
 unfold bD.c
 unfold Form.v at r1 r2
 clear e4 ef eo h ew
 generalize (aO 12).nm = nm at *
 generalize (aO 12).a = fa at *
 generalize (aO 12).b = fb at *
 generalize fH 12 a imm = z at *
 refine eZ ?_
 have fx := aPQ r1 <| aPQ r2 <| aPQ r3 <| aPQ c1 <| aPQ c2 <| aPQ c3 <| aPQ s1 <| aPQ s2 <| aPQ o1 <| aPQ o2 <| aPQ o3 <| o4
 refine gM ?_
 exact w2 rfl rfl rfl
theorem aKx (G : aG) (k : Nat) (d n m a imm : Int) (h : aT ⟨13, d, n, m, a, imm⟩ = true) : bD.f G (k + 5) [mV 13 d n m a imm] [] = some (.tup [cX (cS ⟨13, d, n, m, a, imm⟩), .bool true], []) := by
 have r1 : ∀ H, aD (fO.f G (k + 4)) [.int .i64 13] H = _ := fun H => aE (H := H) (iO G k 13) rfl rfl
 have r2 : ∀ H, aD (eH.f G (k + 4)) [mV 13 d n m a imm, (aO 13).v] H = _ := fun H => aE (H := H) (gN G (k + 1) 13 d n m a imm (aO 13) (gO 13)) rfl rfl
 have r3 : ∀ H, aD (cT.f G (k + 4)) [mV 13 d n m a imm] H = _ := fun H => aE (H := H) (fT G (k + 3) ⟨13, d, n, m, a, imm⟩ h) rfl rfl
 unfold aT at h
 rw [Bool.and_eq_true] at h
 obtain ⟨_, h⟩ := h
 simp only at h
 rw [h] at r2
 simp [aO, fD, gI, dU, gS, fC, dS] at h
 have c1 : aJ .u32 (I6 d) = some (cX d) := bF (by omega) (by omega)
 have c2 : aJ .u32 (I6 n) = some (cX n) := bF (by omega) (by omega)
 have c3 : aJ .u32 (I6 m) = some (cX m) := bF (by omega) (by omega)
 have s1 := dA Tryd.prog 71 true (v := n) (p := 32) (b := 5) 5 rfl (by decide) rfl (by omega) (by omega)
 have s2 := dA Tryd.prog 71 true (v := m) (p := 65536) (b := 16) 16 rfl (by decide) rfl (by omega) (by omega)
 have o1 := iD Tryd.prog 71 false (x := 3544186880) (v := d) (q := 32) 5 rfl (by omega) (by omega) (by omega) (by omega) (by omega)
 have o2 := dN Tryd.prog 71 false (x := 3544186880 + d) (v := n) (p := 32) (q := 32) 5 5 rfl rfl (by omega) (by omega) (by omega) (by omega) (by omega)
 have o3 := dN Tryd.prog 71 false (x := 3544186880 + d + n * 32) (v := m) (p := 65536) (q := 1) 16 0 rfl rfl (by omega) (by omega) (by omega) (by omega) (by omega)
 have e4 : fH 13 a imm = imm * 65536 + 63 * 1024 := rfl
 have o4 : aQ Tryd.prog .or 71 false (cX (3544186880 + d + n * 32 + m * 65536)) (cX (fH 13 a imm)) = some (cX (3544186880 + d + n * 32 + m * 65536 + fH 13 a imm)) := by
  rw [e4]
  exact lF Tryd.prog 71 false (aAx (gR (x := 3544186880 + d + n * 32 + m * 65536) (v := imm) (p := 65536) (q := 64) 16 6 rfl rfl (by omega) (by omega) (by omega) (by omega)) (gR (x := 3544186880 + d + n * 32 + m * 65536) (v := 63) (p := 1024) (q := 64) 10 6 rfl rfl (by omega) (by omega) (by omega) (by omega)) (gR (x := imm * 65536) (v := 63) (p := 1024) (q := 64) 10 6 rfl rfl (by omega) (by omega) (by omega) (by omega)) (by omega)) (by omega)
 have ef : aO 13 = ⟨(aO 13).nm, 3544186880, true, true, false, (aO 13).a, (aO 13).b⟩ := rfl
 have eo : kK 13 = true := rfl
 have ew : cS ⟨13, d, n, m, a, imm⟩ = 3544186880 + d + n * 32 + m * 65536 + fH 13 a imm := rfl
 rw [ew]
 rw [eo, ef] at r1
 rw [ef] at r2
 rw [bD.step]
 unfold bD.c
 unfold Form.v at r1 r2
 clear e4 ef eo h ew
 generalize (aO 13).nm = nm at *
 generalize (aO 13).a = fa at *
 generalize (aO 13).b = fb at *
 generalize fH 13 a imm = z at *
 refine eZ ?_
 have fx := aPQ r1 <| aPQ r2 <| aPQ r3 <| aPQ c1 <| aPQ c2 <| aPQ c3 <| aPQ s1 <| aPQ s2 <| aPQ o1 <| aPQ o2 <| aPQ o3 <| o4
 refine gM ?_
 exact w2 rfl rfl rfl
theorem aLo (G : aG) (k : Nat) (d n m a imm : Int) (h : aT ⟨14, d, n, m, a, imm⟩ = true) : bD.f G (k + 5) [mV 14 d n m a imm] [] = some (.tup [cX (cS ⟨14, d, n, m, a, imm⟩), .bool true], []) := by
 have r1 : ∀ H, aD (fO.f G (k + 4)) [.int .i64 14] H = _ := fun H => aE (H := H) (iO G k 14) rfl rfl
 have r2 : ∀ H, aD (eH.f G (k + 4)) [mV 14 d n m a imm, (aO 14).v] H = _ := fun H => aE (H := H) (gN G (k + 1) 14 d n m a imm (aO 14) (gO 14)) rfl rfl
 have r3 : ∀ H, aD (cT.f G (k + 4)) [mV 14 d n m a imm] H = _ := fun H => aE (H := H) (fT G (k + 3) ⟨14, d, n, m, a, imm⟩ h) rfl rfl
 unfold aT at h
 rw [Bool.and_eq_true] at h
 obtain ⟨_, h⟩ := h
 simp only at h
 rw [h] at r2
 simp [aO, fD, gI, dU, gS, fC, dS] at h
 have c1 : aJ .u32 (I6 d) = some (cX d) := bF (by omega) (by omega)
 have c2 : aJ .u32 (I6 n) = some (cX n) := bF (by omega) (by omega)
 have c3 : aJ .u32 (I6 m) = some (cX m) := bF (by omega) (by omega)
 have s1 := dA Tryd.prog 71 true (v := n) (p := 32) (b := 5) 5 rfl (by decide) rfl (by omega) (by omega)
 have s2 := dA Tryd.prog 71 true (v := m) (p := 65536) (b := 16) 16 rfl (by decide) rfl (by omega) (by omega)
 have o1 := iD Tryd.prog 71 false (x := 2470509568) (v := d) (q := 32) 5 rfl (by omega) (by omega) (by omega) (by omega) (by omega)
 have o2 := dN Tryd.prog 71 false (x := 2470509568 + d) (v := n) (p := 32) (q := 32) 5 5 rfl rfl (by omega) (by omega) (by omega) (by omega) (by omega)
 have o3 := dN Tryd.prog 71 false (x := 2470509568 + d + n * 32) (v := m) (p := 65536) (q := 1) 16 0 rfl rfl (by omega) (by omega) (by omega) (by omega) (by omega)
 have e4 : fH 14 a imm = imm * 65536 := rfl
 have o4 : aQ Tryd.prog .or 71 false (cX (2470509568 + d + n * 32 + m * 65536)) (cX (fH 14 a imm)) = some (cX (2470509568 + d + n * 32 + m * 65536 + fH 14 a imm)) := by
  rw [e4]
  exact lF Tryd.prog 71 false ((gR (x := 2470509568 + d + n * 32 + m * 65536) (v := imm) (p := 65536) (q := 64) 16 6 rfl rfl (by omega) (by omega) (by omega) (by omega))) (by omega)
 have ef : aO 14 = ⟨(aO 14).nm, 2470509568, true, true, false, (aO 14).a, (aO 14).b⟩ := rfl
 have eo : kK 14 = true := rfl
 have ew : cS ⟨14, d, n, m, a, imm⟩ = 2470509568 + d + n * 32 + m * 65536 + fH 14 a imm := rfl
 rw [ew]
 rw [eo, ef] at r1
 rw [ef] at r2
 rw [bD.step]
 unfold bD.c
 unfold Form.v at r1 r2
 clear e4 ef eo h ew
 generalize (aO 14).nm = nm at *
 generalize (aO 14).a = fa at *
 generalize (aO 14).b = fb at *
 generalize fH 14 a imm = z at *
 refine eZ ?_
 have fx := aPQ r1 <| aPQ r2 <| aPQ r3 <| aPQ c1 <| aPQ c2 <| aPQ c3 <| aPQ s1 <| aPQ s2 <| aPQ o1 <| aPQ o2 <| aPQ o3 <| o4
 refine gM ?_
 exact w2 rfl rfl rfl
theorem aKD (G : aG) (k : Nat) (d n m a imm : Int) (h : aT ⟨15, d, n, m, a, imm⟩ = true) : bD.f G (k + 5) [mV 15 d n m a imm] [] = some (.tup [cX (cS ⟨15, d, n, m, a, imm⟩), .bool true], []) := by
 have r1 : ∀ H, aD (fO.f G (k + 4)) [.int .i64 15] H = _ := fun H => aE (H := H) (iO G k 15) rfl rfl
 have r2 : ∀ H, aD (eH.f G (k + 4)) [mV 15 d n m a imm, (aO 15).v] H = _ := fun H => aE (H := H) (gN G (k + 1) 15 d n m a imm (aO 15) (gO 15)) rfl rfl
 have r3 : ∀ H, aD (cT.f G (k + 4)) [mV 15 d n m a imm] H = _ := fun H => aE (H := H) (fT G (k + 3) ⟨15, d, n, m, a, imm⟩ h) rfl rfl
 unfold aT at h
 rw [Bool.and_eq_true] at h
 obtain ⟨_, h⟩ := h
 simp only at h
 rw [h] at r2
 simp [aO, fD, gI, dU, gS, fC, dS] at h
 have c1 : aJ .u32 (I6 d) = some (cX d) := bF (by omega) (by omega)
 have c2 : aJ .u32 (I6 n) = some (cX n) := bF (by omega) (by omega)
 have c3 : aJ .u32 (I6 m) = some (cX m) := bF (by omega) (by omega)
 have s1 := dA Tryd.prog 71 true (v := n) (p := 32) (b := 5) 5 rfl (by decide) rfl (by omega) (by omega)
 have s2 := dA Tryd.prog 71 true (v := m) (p := 65536) (b := 16) 16 rfl (by decide) rfl (by omega) (by omega)
 have o1 := iD Tryd.prog 71 false (x := 3942645791) (v := d) (q := 1) 0 rfl (by omega) (by omega) (by omega) (by omega) (by omega)
 have o2 := dN Tryd.prog 71 false (x := 3942645791 + d) (v := n) (p := 32) (q := 32) 5 5 rfl rfl (by omega) (by omega) (by omega) (by omega) (by omega)
 have o3 := dN Tryd.prog 71 false (x := 3942645791 + d + n * 32) (v := m) (p := 65536) (q := 32) 16 5 rfl rfl (by omega) (by omega) (by omega) (by omega) (by omega)
 have e4 : fH 15 a imm = 0 := rfl
 have o4 : aQ Tryd.prog .or 71 false (cX (3942645791 + d + n * 32 + m * 65536)) (cX (fH 15 a imm)) = some (cX (3942645791 + d + n * 32 + m * 65536 + fH 15 a imm)) := by
  rw [e4]
  exact lF Tryd.prog 71 false (qS (x := 3942645791 + d + n * 32 + m * 65536) (by omega)) (by omega)
 have ef : aO 15 = ⟨(aO 15).nm, 3942645791, false, true, true, (aO 15).a, (aO 15).b⟩ := rfl
 have eo : kK 15 = true := rfl
 have ew : cS ⟨15, d, n, m, a, imm⟩ = 3942645791 + d + n * 32 + m * 65536 + fH 15 a imm := rfl
 rw [ew]
 rw [eo, ef] at r1
 rw [ef] at r2
 rw [bD.step]
 unfold bD.c
 unfold Form.v at r1 r2
 clear e4 ef eo h ew
 generalize (aO 15).nm = nm at *
 generalize (aO 15).a = fa at *
 generalize (aO 15).b = fb at *
 generalize fH 15 a imm = z at *
 refine eZ ?_
 have fx := aPQ r1 <| aPQ r2 <| aPQ r3 <| aPQ c1 <| aPQ c2 <| aPQ c3 <| aPQ s1 <| aPQ s2 <| aPQ o1 <| aPQ o2 <| aPQ o3 <| o4
 refine gM ?_
 exact w2 rfl rfl rfl
theorem aKU (G : aG) (k : Nat) (d n m a imm : Int) (h : aT ⟨16, d, n, m, a, imm⟩ = true) : bD.f G (k + 5) [mV 16 d n m a imm] [] = some (.tup [cX (cS ⟨16, d, n, m, a, imm⟩), .bool true], []) := by
 have r1 : ∀ H, aD (fO.f G (k + 4)) [.int .i64 16] H = _ := fun H => aE (H := H) (iO G k 16) rfl rfl
 have r2 : ∀ H, aD (eH.f G (k + 4)) [mV 16 d n m a imm, (aO 16).v] H = _ := fun H => aE (H := H) (gN G (k + 1) 16 d n m a imm (aO 16) (gO 16)) rfl rfl
 have r3 : ∀ H, aD (cT.f G (k + 4)) [mV 16 d n m a imm] H = _ := fun H => aE (H := H) (fT G (k + 3) ⟨16, d, n, m, a, imm⟩ h) rfl rfl
 unfold aT at h
 rw [Bool.and_eq_true] at h
 obtain ⟨_, h⟩ := h
 simp only at h
 rw [h] at r2
 simp [aO, fD, gI, dU, gS, fC, dS] at h
 have c1 : aJ .u32 (I6 d) = some (cX d) := bF (by omega) (by omega)
 have c2 : aJ .u32 (I6 n) = some (cX n) := bF (by omega) (by omega)
 have c3 : aJ .u32 (I6 m) = some (cX m) := bF (by omega) (by omega)
 have s1 := dA Tryd.prog 71 true (v := n) (p := 32) (b := 5) 5 rfl (by decide) rfl (by omega) (by omega)
 have s2 := dA Tryd.prog 71 true (v := m) (p := 65536) (b := 16) 16 rfl (by decide) rfl (by omega) (by omega)
 have o1 := iD Tryd.prog 71 false (x := 2592079872) (v := d) (q := 32) 5 rfl (by omega) (by omega) (by omega) (by omega) (by omega)
 have o2 := dN Tryd.prog 71 false (x := 2592079872 + d) (v := n) (p := 32) (q := 32) 5 5 rfl rfl (by omega) (by omega) (by omega) (by omega) (by omega)
 have o3 := dN Tryd.prog 71 false (x := 2592079872 + d + n * 32) (v := m) (p := 65536) (q := 32) 16 5 rfl rfl (by omega) (by omega) (by omega) (by omega) (by omega)
 have e4 : fH 16 a imm = a * 4096 := rfl
 have o4 : aQ Tryd.prog .or 71 false (cX (2592079872 + d + n * 32 + m * 65536)) (cX (fH 16 a imm)) = some (cX (2592079872 + d + n * 32 + m * 65536 + fH 16 a imm)) := by
  rw [e4]
  exact lF Tryd.prog 71 false ((gR (x := 2592079872 + d + n * 32 + m * 65536) (v := a) (p := 4096) (q := 16) 12 4 rfl rfl (by omega) (by omega) (by omega) (by omega))) (by omega)
 have ef : aO 16 = ⟨(aO 16).nm, 2592079872, true, true, true, (aO 16).a, (aO 16).b⟩ := rfl
 have eo : kK 16 = true := rfl
 have ew : cS ⟨16, d, n, m, a, imm⟩ = 2592079872 + d + n * 32 + m * 65536 + fH 16 a imm := rfl
 rw [ew]
 rw [eo, ef] at r1
 rw [ef] at r2
 rw [bD.step]
 unfold bD.c
 unfold Form.v at r1 r2
 clear e4 ef eo h ew
 generalize (aO 16).nm = nm at *
 generalize (aO 16).a = fa at *
 generalize (aO 16).b = fb at *
 generalize fH 16 a imm = z at *
 refine eZ ?_
 have fx := aPQ r1 <| aPQ r2 <| aPQ r3 <| aPQ c1 <| aPQ c2 <| aPQ c3 <| aPQ s1 <| aPQ s2 <| aPQ o1 <| aPQ o2 <| aPQ o3 <| o4
 refine gM ?_
 exact w2 rfl rfl rfl
theorem aKq (G : aG) (k : Nat) (d n m a imm : Int) (h : aT ⟨17, d, n, m, a, imm⟩ = true) : bD.f G (k + 5) [mV 17 d n m a imm] [] = some (.tup [cX (cS ⟨17, d, n, m, a, imm⟩), .bool true], []) := by
 have r1 : ∀ H, aD (fO.f G (k + 4)) [.int .i64 17] H = _ := fun H => aE (H := H) (iO G k 17) rfl rfl
 have r2 : ∀ H, aD (eH.f G (k + 4)) [mV 17 d n m a imm, (aO 17).v] H = _ := fun H => aE (H := H) (gN G (k + 1) 17 d n m a imm (aO 17) (gO 17)) rfl rfl
 have r3 : ∀ H, aD (cT.f G (k + 4)) [mV 17 d n m a imm] H = _ := fun H => aE (H := H) (fT G (k + 3) ⟨17, d, n, m, a, imm⟩ h) rfl rfl
 unfold aT at h
 rw [Bool.and_eq_true] at h
 obtain ⟨_, h⟩ := h
 simp only at h
 rw [h] at r2
 simp [aO, fD, gI, dU, gS, fC, dS] at h
 have c1 : aJ .u32 (I6 d) = some (cX d) := bF (by omega) (by omega)
 have c2 : aJ .u32 (I6 n) = some (cX n) := bF (by omega) (by omega)
 have c3 : aJ .u32 (I6 m) = some (cX m) := bF (by omega) (by omega)
 have s1 := dA Tryd.prog 71 true (v := n) (p := 32) (b := 5) 5 rfl (by decide) rfl (by omega) (by omega)
 have s2 := dA Tryd.prog 71 true (v := m) (p := 65536) (b := 16) 16 rfl (by decide) rfl (by omega) (by omega)
 have o1 := iD Tryd.prog 71 false (x := 2594113504) (v := d) (q := 32) 5 rfl (by omega) (by omega) (by omega) (by omega) (by omega)
 have o2 := dN Tryd.prog 71 false (x := 2594113504 + d) (v := n) (p := 32) (q := 1) 5 0 rfl rfl (by omega) (by omega) (by omega) (by omega) (by omega)
 have o3 := dN Tryd.prog 71 false (x := 2594113504 + d + n * 32) (v := m) (p := 65536) (q := 1) 16 0 rfl rfl (by omega) (by omega) (by omega) (by omega) (by omega)
 have e4 : fH 17 a imm = (if a % 2 = 0 then a + 1 else a - 1) * 4096 := rfl
 have o4 : aQ Tryd.prog .or 71 false (cX (2594113504 + d + n * 32 + m * 65536)) (cX (fH 17 a imm)) = some (cX (2594113504 + d + n * 32 + m * 65536 + fH 17 a imm)) := by
  rw [e4]
  exact lF Tryd.prog 71 false ((gR (x := 2594113504 + d + n * 32 + m * 65536) (v := (if a % 2 = 0 then a + 1 else a - 1)) (p := 4096) (q := 16) 12 4 rfl rfl (by omega) (by split <;> omega) (by split <;> omega) (by omega))) (by split <;> omega)
 have ef : aO 17 = ⟨(aO 17).nm, 2594113504, true, false, false, (aO 17).a, (aO 17).b⟩ := rfl
 have eo : kK 17 = true := rfl
 have ew : cS ⟨17, d, n, m, a, imm⟩ = 2594113504 + d + n * 32 + m * 65536 + fH 17 a imm := rfl
 rw [ew]
 rw [eo, ef] at r1
 rw [ef] at r2
 rw [bD.step]
 unfold bD.c
 unfold Form.v at r1 r2
 clear e4 ef eo h ew
 generalize (aO 17).nm = nm at *
 generalize (aO 17).a = fa at *
 generalize (aO 17).b = fb at *
 generalize fH 17 a imm = z at *
 refine eZ ?_
 have fx := aPQ r1 <| aPQ r2 <| aPQ r3 <| aPQ c1 <| aPQ c2 <| aPQ c3 <| aPQ s1 <| aPQ s2 <| aPQ o1 <| aPQ o2 <| aPQ o3 <| o4
 refine gM ?_
 exact w2 rfl rfl rfl
theorem aLw (G : aG) (k : Nat) (d n m a imm : Int) (h : aT ⟨18, d, n, m, a, imm⟩ = true) : bD.f G (k + 5) [mV 18 d n m a imm] [] = some (.tup [cX (cS ⟨18, d, n, m, a, imm⟩), .bool true], []) := by
 have r1 : ∀ H, aD (fO.f G (k + 4)) [.int .i64 18] H = _ := fun H => aE (H := H) (iO G k 18) rfl rfl
 have r2 : ∀ H, aD (eH.f G (k + 4)) [mV 18 d n m a imm, (aO 18).v] H = _ := fun H => aE (H := H) (gN G (k + 1) 18 d n m a imm (aO 18) (gO 18)) rfl rfl
 have r3 : ∀ H, aD (cT.f G (k + 4)) [mV 18 d n m a imm] H = _ := fun H => aE (H := H) (fT G (k + 3) ⟨18, d, n, m, a, imm⟩ h) rfl rfl
 unfold aT at h
 rw [Bool.and_eq_true] at h
 obtain ⟨_, h⟩ := h
 simp only at h
 rw [h] at r2
 simp [aO, fD, gI, dU, gS, fC, dS] at h
 have c1 : aJ .u32 (I6 d) = some (cX d) := bF (by omega) (by omega)
 have c2 : aJ .u32 (I6 n) = some (cX n) := bF (by omega) (by omega)
 have c3 : aJ .u32 (I6 m) = some (cX m) := bF (by omega) (by omega)
 have s1 := dA Tryd.prog 71 true (v := n) (p := 32) (b := 5) 5 rfl (by decide) rfl (by omega) (by omega)
 have s2 := dA Tryd.prog 71 true (v := m) (p := 65536) (b := 16) 16 rfl (by decide) rfl (by omega) (by omega)
 have o1 := iD Tryd.prog 71 false (x := 4181721088) (v := d) (q := 32) 5 rfl (by omega) (by omega) (by omega) (by omega) (by omega)
 have o2 := dN Tryd.prog 71 false (x := 4181721088 + d) (v := n) (p := 32) (q := 32) 5 5 rfl rfl (by omega) (by omega) (by omega) (by omega) (by omega)
 have o3 := dN Tryd.prog 71 false (x := 4181721088 + d + n * 32) (v := m) (p := 65536) (q := 1) 16 0 rfl rfl (by omega) (by omega) (by omega) (by omega) (by omega)
 have e4 : fH 18 a imm = imm * 1024 := rfl
 have o4 : aQ Tryd.prog .or 71 false (cX (4181721088 + d + n * 32 + m * 65536)) (cX (fH 18 a imm)) = some (cX (4181721088 + d + n * 32 + m * 65536 + fH 18 a imm)) := by
  rw [e4]
  exact lF Tryd.prog 71 false ((gR (x := 4181721088 + d + n * 32 + m * 65536) (v := imm) (p := 1024) (q := 4096) 10 12 rfl rfl (by omega) (by omega) (by omega) (by omega))) (by omega)
 have ef : aO 18 = ⟨(aO 18).nm, 4181721088, true, true, false, (aO 18).a, (aO 18).b⟩ := rfl
 have eo : kK 18 = true := rfl
 have ew : cS ⟨18, d, n, m, a, imm⟩ = 4181721088 + d + n * 32 + m * 65536 + fH 18 a imm := rfl
 rw [ew]
 rw [eo, ef] at r1
 rw [ef] at r2
 rw [bD.step]
 unfold bD.c
 unfold Form.v at r1 r2
 clear e4 ef eo h ew
 generalize (aO 18).nm = nm at *
 generalize (aO 18).a = fa at *
 generalize (aO 18).b = fb at *
 generalize fH 18 a imm = z at *
 refine eZ ?_
 have fx := aPQ r1 <| aPQ r2 <| aPQ r3 <| aPQ c1 <| aPQ c2 <| aPQ c3 <| aPQ s1 <| aPQ s2 <| aPQ o1 <| aPQ o2 <| aPQ o3 <| o4
 refine gM ?_
 exact w2 rfl rfl rfl
theorem aJW (G : aG) (k : Nat) (d n m a imm : Int) (h : aT ⟨19, d, n, m, a, imm⟩ = true) : bD.f G (k + 5) [mV 19 d n m a imm] [] = some (.tup [cX (cS ⟨19, d, n, m, a, imm⟩), .bool true], []) := by
 have r1 : ∀ H, aD (fO.f G (k + 4)) [.int .i64 19] H = _ := fun H => aE (H := H) (iO G k 19) rfl rfl
 have r2 : ∀ H, aD (eH.f G (k + 4)) [mV 19 d n m a imm, (aO 19).v] H = _ := fun H => aE (H := H) (gN G (k + 1) 19 d n m a imm (aO 19) (gO 19)) rfl rfl
 have r3 : ∀ H, aD (cT.f G (k + 4)) [mV 19 d n m a imm] H = _ := fun H => aE (H := H) (fT G (k + 3) ⟨19, d, n, m, a, imm⟩ h) rfl rfl
 unfold aT at h
 rw [Bool.and_eq_true] at h
 obtain ⟨_, h⟩ := h
 simp only at h
 rw [h] at r2
 simp [aO, fD, gI, dU, gS, fC, dS] at h
 have c1 : aJ .u32 (I6 d) = some (cX d) := bF (by omega) (by omega)
 have c2 : aJ .u32 (I6 n) = some (cX n) := bF (by omega) (by omega)
 have c3 : aJ .u32 (I6 m) = some (cX m) := bF (by omega) (by omega)
 have s1 := dA Tryd.prog 71 true (v := n) (p := 32) (b := 5) 5 rfl (by decide) rfl (by omega) (by omega)
 have s2 := dA Tryd.prog 71 true (v := m) (p := 65536) (b := 16) 16 rfl (by decide) rfl (by omega) (by omega)
 have o1 := iD Tryd.prog 71 false (x := 4177526784) (v := d) (q := 32) 5 rfl (by omega) (by omega) (by omega) (by omega) (by omega)
 have o2 := dN Tryd.prog 71 false (x := 4177526784 + d) (v := n) (p := 32) (q := 32) 5 5 rfl rfl (by omega) (by omega) (by omega) (by omega) (by omega)
 have o3 := dN Tryd.prog 71 false (x := 4177526784 + d + n * 32) (v := m) (p := 65536) (q := 1) 16 0 rfl rfl (by omega) (by omega) (by omega) (by omega) (by omega)
 have e4 : fH 19 a imm = imm * 1024 := rfl
 have o4 : aQ Tryd.prog .or 71 false (cX (4177526784 + d + n * 32 + m * 65536)) (cX (fH 19 a imm)) = some (cX (4177526784 + d + n * 32 + m * 65536 + fH 19 a imm)) := by
  rw [e4]
  exact lF Tryd.prog 71 false ((gR (x := 4177526784 + d + n * 32 + m * 65536) (v := imm) (p := 1024) (q := 4096) 10 12 rfl rfl (by omega) (by omega) (by omega) (by omega))) (by omega)
 have ef : aO 19 = ⟨(aO 19).nm, 4177526784, true, true, false, (aO 19).a, (aO 19).b⟩ := rfl
 have eo : kK 19 = true := rfl
 have ew : cS ⟨19, d, n, m, a, imm⟩ = 4177526784 + d + n * 32 + m * 65536 + fH 19 a imm := rfl
 rw [ew]
 rw [eo, ef] at r1
 rw [ef] at r2
 rw [bD.step]
 unfold bD.c
 unfold Form.v at r1 r2
 clear e4 ef eo h ew
 generalize (aO 19).nm = nm at *
 generalize (aO 19).a = fa at *
 generalize (aO 19).b = fb at *
 generalize fH 19 a imm = z at *
 refine eZ ?_
 have fx := aPQ r1 <| aPQ r2 <| aPQ r3 <| aPQ c1 <| aPQ c2 <| aPQ c3 <| aPQ s1 <| aPQ s2 <| aPQ o1 <| aPQ o2 <| aPQ o3 <| o4
 refine gM ?_
 exact w2 rfl rfl rfl
theorem aKy (G : aG) (k : Nat) (d n m a imm : Int) (h : aT ⟨20, d, n, m, a, imm⟩ = true) : bD.f G (k + 5) [mV 20 d n m a imm] [] = some (.tup [cX (cS ⟨20, d, n, m, a, imm⟩), .bool true], []) := by
 have r1 : ∀ H, aD (fO.f G (k + 4)) [.int .i64 20] H = _ := fun H => aE (H := H) (iO G k 20) rfl rfl
 have r2 : ∀ H, aD (eH.f G (k + 4)) [mV 20 d n m a imm, (aO 20).v] H = _ := fun H => aE (H := H) (gN G (k + 1) 20 d n m a imm (aO 20) (gO 20)) rfl rfl
 have r3 : ∀ H, aD (cT.f G (k + 4)) [mV 20 d n m a imm] H = _ := fun H => aE (H := H) (fT G (k + 3) ⟨20, d, n, m, a, imm⟩ h) rfl rfl
 unfold aT at h
 rw [Bool.and_eq_true] at h
 obtain ⟨_, h⟩ := h
 simp only at h
 rw [h] at r2
 simp [aO, fD, gI, dU, gS, fC, dS] at h
 have c1 : aJ .u32 (I6 d) = some (cX d) := bF (by omega) (by omega)
 have c2 : aJ .u32 (I6 n) = some (cX n) := bF (by omega) (by omega)
 have c3 : aJ .u32 (I6 m) = some (cX m) := bF (by omega) (by omega)
 have s1 := dA Tryd.prog 71 true (v := n) (p := 32) (b := 5) 5 rfl (by decide) rfl (by omega) (by omega)
 have s2 := dA Tryd.prog 71 true (v := m) (p := 65536) (b := 16) 16 rfl (by decide) rfl (by omega) (by omega)
 have o1 := iD Tryd.prog 71 false (x := 335544320) (v := d) (q := 1) 0 rfl (by omega) (by omega) (by omega) (by omega) (by omega)
 have o2 := dN Tryd.prog 71 false (x := 335544320 + d) (v := n) (p := 32) (q := 1) 5 0 rfl rfl (by omega) (by omega) (by omega) (by omega) (by omega)
 have o3 := dN Tryd.prog 71 false (x := 335544320 + d + n * 32) (v := m) (p := 65536) (q := 1) 16 0 rfl rfl (by omega) (by omega) (by omega) (by omega) (by omega)
 have e4 : fH 20 a imm = imm % 67108864 := rfl
 have o4 : aQ Tryd.prog .or 71 false (cX (335544320 + d + n * 32 + m * 65536)) (cX (fH 20 a imm)) = some (cX (335544320 + d + n * 32 + m * 65536 + fH 20 a imm)) := by
  rw [e4]
  exact lF Tryd.prog 71 false ((by have := gR (x := 335544320 + d + n * 32 + m * 65536) (v := imm % 67108864) (p := 1) (q := 67108864) 0 26 rfl rfl (by omega) (by omega) (by omega) (by omega); rwa [Int.mul_one] at this)) (by omega)
 have ef : aO 20 = ⟨(aO 20).nm, 335544320, false, false, false, (aO 20).a, (aO 20).b⟩ := rfl
 have eo : kK 20 = true := rfl
 have ew : cS ⟨20, d, n, m, a, imm⟩ = 335544320 + d + n * 32 + m * 65536 + fH 20 a imm := rfl
 rw [ew]
 rw [eo, ef] at r1
 rw [ef] at r2
 rw [bD.step]
 unfold bD.c
 unfold Form.v at r1 r2
 clear e4 ef eo h ew
 generalize (aO 20).nm = nm at *
 generalize (aO 20).a = fa at *
 generalize (aO 20).b = fb at *
 generalize fH 20 a imm = z at *
 refine eZ ?_
 have fx := aPQ r1 <| aPQ r2 <| aPQ r3 <| aPQ c1 <| aPQ c2 <| aPQ c3 <| aPQ s1 <| aPQ s2 <| aPQ o1 <| aPQ o2 <| aPQ o3 <| o4
 refine gM ?_
 exact w2 rfl rfl rfl
theorem aLa (G : aG) (k : Nat) (d n m a imm : Int) (h : aT ⟨21, d, n, m, a, imm⟩ = true) : bD.f G (k + 5) [mV 21 d n m a imm] [] = some (.tup [cX (cS ⟨21, d, n, m, a, imm⟩), .bool true], []) := by
 have r1 : ∀ H, aD (fO.f G (k + 4)) [.int .i64 21] H = _ := fun H => aE (H := H) (iO G k 21) rfl rfl
 have r2 : ∀ H, aD (eH.f G (k + 4)) [mV 21 d n m a imm, (aO 21).v] H = _ := fun H => aE (H := H) (gN G (k + 1) 21 d n m a imm (aO 21) (gO 21)) rfl rfl
 have r3 : ∀ H, aD (cT.f G (k + 4)) [mV 21 d n m a imm] H = _ := fun H => aE (H := H) (fT G (k + 3) ⟨21, d, n, m, a, imm⟩ h) rfl rfl
 unfold aT at h
 rw [Bool.and_eq_true] at h
 obtain ⟨_, h⟩ := h
 simp only at h
 rw [h] at r2
 simp [aO, fD, gI, dU, gS, fC, dS] at h
 have c1 : aJ .u32 (I6 d) = some (cX d) := bF (by omega) (by omega)
 have c2 : aJ .u32 (I6 n) = some (cX n) := bF (by omega) (by omega)
 have c3 : aJ .u32 (I6 m) = some (cX m) := bF (by omega) (by omega)
 have s1 := dA Tryd.prog 71 true (v := n) (p := 32) (b := 5) 5 rfl (by decide) rfl (by omega) (by omega)
 have s2 := dA Tryd.prog 71 true (v := m) (p := 65536) (b := 16) 16 rfl (by decide) rfl (by omega) (by omega)
 have o1 := iD Tryd.prog 71 false (x := 1409286144) (v := d) (q := 1) 0 rfl (by omega) (by omega) (by omega) (by omega) (by omega)
 have o2 := dN Tryd.prog 71 false (x := 1409286144 + d) (v := n) (p := 32) (q := 1) 5 0 rfl rfl (by omega) (by omega) (by omega) (by omega) (by omega)
 have o3 := dN Tryd.prog 71 false (x := 1409286144 + d + n * 32) (v := m) (p := 65536) (q := 1) 16 0 rfl rfl (by omega) (by omega) (by omega) (by omega) (by omega)
 have e4 : fH 21 a imm = a + imm % 524288 * 32 := rfl
 have o4 : aQ Tryd.prog .or 71 false (cX (1409286144 + d + n * 32 + m * 65536)) (cX (fH 21 a imm)) = some (cX (1409286144 + d + n * 32 + m * 65536 + fH 21 a imm)) := by
  rw [e4]
  exact lF Tryd.prog 71 false (aAx (by have := gR (x := 1409286144 + d + n * 32 + m * 65536) (v := a) (p := 1) (q := 16) 0 4 rfl rfl (by omega) (by omega) (by omega) (by omega); rwa [Int.mul_one] at this) (gR (x := 1409286144 + d + n * 32 + m * 65536) (v := imm % 524288) (p := 32) (q := 524288) 5 19 rfl rfl (by omega) (by omega) (by omega) (by omega)) (gR (x := a) (v := imm % 524288) (p := 32) (q := 524288) 5 19 rfl rfl (by omega) (by omega) (by omega) (by omega)) (by omega)) (by omega)
 have ef : aO 21 = ⟨(aO 21).nm, 1409286144, false, false, false, (aO 21).a, (aO 21).b⟩ := rfl
 have eo : kK 21 = true := rfl
 have ew : cS ⟨21, d, n, m, a, imm⟩ = 1409286144 + d + n * 32 + m * 65536 + fH 21 a imm := rfl
 rw [ew]
 rw [eo, ef] at r1
 rw [ef] at r2
 rw [bD.step]
 unfold bD.c
 unfold Form.v at r1 r2
 clear e4 ef eo h ew
 generalize (aO 21).nm = nm at *
 generalize (aO 21).a = fa at *
 generalize (aO 21).b = fb at *
 generalize fH 21 a imm = z at *
 refine eZ ?_
 have fx := aPQ r1 <| aPQ r2 <| aPQ r3 <| aPQ c1 <| aPQ c2 <| aPQ c3 <| aPQ s1 <| aPQ s2 <| aPQ o1 <| aPQ o2 <| aPQ o3 <| o4
 refine gM ?_
 exact w2 rfl rfl rfl
theorem aKb (G : aG) (k : Nat) (d n m a imm : Int) (h : aT ⟨22, d, n, m, a, imm⟩ = true) : bD.f G (k + 5) [mV 22 d n m a imm] [] = some (.tup [cX (cS ⟨22, d, n, m, a, imm⟩), .bool true], []) := by
 have r1 : ∀ H, aD (fO.f G (k + 4)) [.int .i64 22] H = _ := fun H => aE (H := H) (iO G k 22) rfl rfl
 have r2 : ∀ H, aD (eH.f G (k + 4)) [mV 22 d n m a imm, (aO 22).v] H = _ := fun H => aE (H := H) (gN G (k + 1) 22 d n m a imm (aO 22) (gO 22)) rfl rfl
 have r3 : ∀ H, aD (cT.f G (k + 4)) [mV 22 d n m a imm] H = _ := fun H => aE (H := H) (fT G (k + 3) ⟨22, d, n, m, a, imm⟩ h) rfl rfl
 unfold aT at h
 rw [Bool.and_eq_true] at h
 obtain ⟨_, h⟩ := h
 simp only at h
 rw [h] at r2
 simp [aO, fD, gI, dU, gS, fC, dS] at h
 have c1 : aJ .u32 (I6 d) = some (cX d) := bF (by omega) (by omega)
 have c2 : aJ .u32 (I6 n) = some (cX n) := bF (by omega) (by omega)
 have c3 : aJ .u32 (I6 m) = some (cX m) := bF (by omega) (by omega)
 have s1 := dA Tryd.prog 71 true (v := n) (p := 32) (b := 5) 5 rfl (by decide) rfl (by omega) (by omega)
 have s2 := dA Tryd.prog 71 true (v := m) (p := 65536) (b := 16) 16 rfl (by decide) rfl (by omega) (by omega)
 have o1 := iD Tryd.prog 71 false (x := 3019898880) (v := d) (q := 32) 5 rfl (by omega) (by omega) (by omega) (by omega) (by omega)
 have o2 := dN Tryd.prog 71 false (x := 3019898880 + d) (v := n) (p := 32) (q := 1) 5 0 rfl rfl (by omega) (by omega) (by omega) (by omega) (by omega)
 have o3 := dN Tryd.prog 71 false (x := 3019898880 + d + n * 32) (v := m) (p := 65536) (q := 1) 16 0 rfl rfl (by omega) (by omega) (by omega) (by omega) (by omega)
 have e4 : fH 22 a imm = imm % 524288 * 32 := rfl
 have o4 : aQ Tryd.prog .or 71 false (cX (3019898880 + d + n * 32 + m * 65536)) (cX (fH 22 a imm)) = some (cX (3019898880 + d + n * 32 + m * 65536 + fH 22 a imm)) := by
  rw [e4]
  exact lF Tryd.prog 71 false ((gR (x := 3019898880 + d + n * 32 + m * 65536) (v := imm % 524288) (p := 32) (q := 524288) 5 19 rfl rfl (by omega) (by omega) (by omega) (by omega))) (by omega)
 have ef : aO 22 = ⟨(aO 22).nm, 3019898880, true, false, false, (aO 22).a, (aO 22).b⟩ := rfl
 have eo : kK 22 = true := rfl
 have ew : cS ⟨22, d, n, m, a, imm⟩ = 3019898880 + d + n * 32 + m * 65536 + fH 22 a imm := rfl
 rw [ew]
 rw [eo, ef] at r1
 rw [ef] at r2
 rw [bD.step]
 unfold bD.c
 unfold Form.v at r1 r2
 clear e4 ef eo h ew
 generalize (aO 22).nm = nm at *
 generalize (aO 22).a = fa at *
 generalize (aO 22).b = fb at *
 generalize fH 22 a imm = z at *
 refine eZ ?_
 have fx := aPQ r1 <| aPQ r2 <| aPQ r3 <| aPQ c1 <| aPQ c2 <| aPQ c3 <| aPQ s1 <| aPQ s2 <| aPQ o1 <| aPQ o2 <| aPQ o3 <| o4
 refine gM ?_
 exact w2 rfl rfl rfl
theorem aKA (G : aG) (k : Nat) (d n m a imm : Int) (h : aT ⟨23, d, n, m, a, imm⟩ = true) : bD.f G (k + 5) [mV 23 d n m a imm] [] = some (.tup [cX (cS ⟨23, d, n, m, a, imm⟩), .bool true], []) := by
 have r1 : ∀ H, aD (fO.f G (k + 4)) [.int .i64 23] H = _ := fun H => aE (H := H) (iO G k 23) rfl rfl
 have r2 : ∀ H, aD (eH.f G (k + 4)) [mV 23 d n m a imm, (aO 23).v] H = _ := fun H => aE (H := H) (gN G (k + 1) 23 d n m a imm (aO 23) (gO 23)) rfl rfl
 have r3 : ∀ H, aD (cT.f G (k + 4)) [mV 23 d n m a imm] H = _ := fun H => aE (H := H) (fT G (k + 3) ⟨23, d, n, m, a, imm⟩ h) rfl rfl
 unfold aT at h
 rw [Bool.and_eq_true] at h
 obtain ⟨_, h⟩ := h
 simp only at h
 rw [h] at r2
 simp [aO, fD, gI, dU, gS, fC, dS] at h
 have c1 : aJ .u32 (I6 d) = some (cX d) := bF (by omega) (by omega)
 have c2 : aJ .u32 (I6 n) = some (cX n) := bF (by omega) (by omega)
 have c3 : aJ .u32 (I6 m) = some (cX m) := bF (by omega) (by omega)
 have s1 := dA Tryd.prog 71 true (v := n) (p := 32) (b := 5) 5 rfl (by decide) rfl (by omega) (by omega)
 have s2 := dA Tryd.prog 71 true (v := m) (p := 65536) (b := 16) 16 rfl (by decide) rfl (by omega) (by omega)
 have o1 := iD Tryd.prog 71 false (x := 3036676096) (v := d) (q := 32) 5 rfl (by omega) (by omega) (by omega) (by omega) (by omega)
 have o2 := dN Tryd.prog 71 false (x := 3036676096 + d) (v := n) (p := 32) (q := 1) 5 0 rfl rfl (by omega) (by omega) (by omega) (by omega) (by omega)
 have o3 := dN Tryd.prog 71 false (x := 3036676096 + d + n * 32) (v := m) (p := 65536) (q := 1) 16 0 rfl rfl (by omega) (by omega) (by omega) (by omega) (by omega)
 have e4 : fH 23 a imm = imm % 524288 * 32 := rfl
 have o4 : aQ Tryd.prog .or 71 false (cX (3036676096 + d + n * 32 + m * 65536)) (cX (fH 23 a imm)) = some (cX (3036676096 + d + n * 32 + m * 65536 + fH 23 a imm)) := by
  rw [e4]
  exact lF Tryd.prog 71 false ((gR (x := 3036676096 + d + n * 32 + m * 65536) (v := imm % 524288) (p := 32) (q := 524288) 5 19 rfl rfl (by omega) (by omega) (by omega) (by omega))) (by omega)
 have ef : aO 23 = ⟨(aO 23).nm, 3036676096, true, false, false, (aO 23).a, (aO 23).b⟩ := rfl
 have eo : kK 23 = true := rfl
 have ew : cS ⟨23, d, n, m, a, imm⟩ = 3036676096 + d + n * 32 + m * 65536 + fH 23 a imm := rfl
 rw [ew]
 rw [eo, ef] at r1
 rw [ef] at r2
 rw [bD.step]
 unfold bD.c
 unfold Form.v at r1 r2
 clear e4 ef eo h ew
 generalize (aO 23).nm = nm at *
 generalize (aO 23).a = fa at *
 generalize (aO 23).b = fb at *
 generalize fH 23 a imm = z at *
 refine eZ ?_
 have fx := aPQ r1 <| aPQ r2 <| aPQ r3 <| aPQ c1 <| aPQ c2 <| aPQ c3 <| aPQ s1 <| aPQ s2 <| aPQ o1 <| aPQ o2 <| aPQ o3 <| o4
 refine gM ?_
 exact w2 rfl rfl rfl
theorem aKg (G : aG) (k : Nat) (d n m a imm : Int) (h : aT ⟨24, d, n, m, a, imm⟩ = true) : bD.f G (k + 5) [mV 24 d n m a imm] [] = some (.tup [cX (cS ⟨24, d, n, m, a, imm⟩), .bool true], []) := by
 have r1 : ∀ H, aD (fO.f G (k + 4)) [.int .i64 24] H = _ := fun H => aE (H := H) (iO G k 24) rfl rfl
 have r2 : ∀ H, aD (eH.f G (k + 4)) [mV 24 d n m a imm, (aO 24).v] H = _ := fun H => aE (H := H) (gN G (k + 1) 24 d n m a imm (aO 24) (gO 24)) rfl rfl
 have r3 : ∀ H, aD (cT.f G (k + 4)) [mV 24 d n m a imm] H = _ := fun H => aE (H := H) (fT G (k + 3) ⟨24, d, n, m, a, imm⟩ h) rfl rfl
 unfold aT at h
 rw [Bool.and_eq_true] at h
 obtain ⟨_, h⟩ := h
 simp only at h
 rw [h] at r2
 simp [aO, fD, gI, dU, gS, fC, dS] at h
 have c1 : aJ .u32 (I6 d) = some (cX d) := bF (by omega) (by omega)
 have c2 : aJ .u32 (I6 n) = some (cX n) := bF (by omega) (by omega)
 have c3 : aJ .u32 (I6 m) = some (cX m) := bF (by omega) (by omega)
 have s1 := dA Tryd.prog 71 true (v := n) (p := 32) (b := 5) 5 rfl (by decide) rfl (by omega) (by omega)
 have s2 := dA Tryd.prog 71 true (v := m) (p := 65536) (b := 16) 16 rfl (by decide) rfl (by omega) (by omega)
 have o1 := iD Tryd.prog 71 false (x := 3560964096) (v := d) (q := 1) 0 rfl (by omega) (by omega) (by omega) (by omega) (by omega)
 have o2 := dN Tryd.prog 71 false (x := 3560964096 + d) (v := n) (p := 32) (q := 1) 5 0 rfl rfl (by omega) (by omega) (by omega) (by omega) (by omega)
 have o3 := dN Tryd.prog 71 false (x := 3560964096 + d + n * 32) (v := m) (p := 65536) (q := 1) 16 0 rfl rfl (by omega) (by omega) (by omega) (by omega) (by omega)
 have e4 : fH 24 a imm = imm * 32 := rfl
 have o4 : aQ Tryd.prog .or 71 false (cX (3560964096 + d + n * 32 + m * 65536)) (cX (fH 24 a imm)) = some (cX (3560964096 + d + n * 32 + m * 65536 + fH 24 a imm)) := by
  rw [e4]
  exact lF Tryd.prog 71 false ((gR (x := 3560964096 + d + n * 32 + m * 65536) (v := imm) (p := 32) (q := 65536) 5 16 rfl rfl (by omega) (by omega) (by omega) (by omega))) (by omega)
 have ef : aO 24 = ⟨(aO 24).nm, 3560964096, false, false, false, (aO 24).a, (aO 24).b⟩ := rfl
 have eo : kK 24 = true := rfl
 have ew : cS ⟨24, d, n, m, a, imm⟩ = 3560964096 + d + n * 32 + m * 65536 + fH 24 a imm := rfl
 rw [ew]
 rw [eo, ef] at r1
 rw [ef] at r2
 rw [bD.step]
 unfold bD.c
 unfold Form.v at r1 r2
 clear e4 ef eo h ew
 generalize (aO 24).nm = nm at *
 generalize (aO 24).a = fa at *
 generalize (aO 24).b = fb at *
 generalize fH 24 a imm = z at *
 refine eZ ?_
 have fx := aPQ r1 <| aPQ r2 <| aPQ r3 <| aPQ c1 <| aPQ c2 <| aPQ c3 <| aPQ s1 <| aPQ s2 <| aPQ o1 <| aPQ o2 <| aPQ o3 <| o4
 refine gM ?_
 exact w2 rfl rfl rfl
theorem aBA (G : aG) (k : Nat) (i : MI) : bD.f G (k + 5) [i.v] [] = some (.tup [cX (mX i), .bool (aT i)], []) := by
 cases hr : aT i
 ·have e : mX i = 0 := by unfold mX; rw [hr]; rfl
  rw [e]
  obtain ⟨op, d, n, m, a, imm⟩ := i
  show bD.f G (k + 5) [mV op d n m a imm] [] = _
  rw [bD.step]
  unfold bD.c
  unfold aT at hr
  have r1 : ∀ H, aD (fO.f G (k + 4)) [I6 op] H = _ := fun H => aE (H := H) (iO G k op) rfl rfl
  have r2 : ∀ H, aD (eH.f G (k + 4)) [mV op d n m a imm, (aO op).v] H = _ := fun H => aE (H := H) (gN G (k + 1) op d n m a imm (aO op) (gO op)) rfl rfl
  simp only at hr
  generalize fD ⟨op, d, n, m, a, imm⟩ (aO op) = g2 at *
  generalize kK op = g1 at *
  obtain ⟨nm, w, fd, fn, fm, fa, fb⟩ := aO op
  unfold Form.v at *
  refine eZ ?_
  cases g1
  ·have fx := aPQ r1 <| r2
   refine gM ?_
   exact w2 rfl rfl rfl
  ·cases g2
   ·have fx := aPQ r1 <| r2
    refine gM ?_
    exact w2 rfl rfl rfl
   ·cases hr
 ·have e : mX i = cS i := by unfold mX; rw [hr]; rfl
  rw [e]
  obtain ⟨op, d, n, m, a, imm⟩ := i
  show bD.f G (k + 5) [mV op d n m a imm] [] = _
  have h24 := (Bool.and_eq_true_iff.1 hr).1
  have h24 : 1 ≤ op ∧ op ≤ 24 := of_decide_eq_true h24
  rcases xA h24 with rfl | rfl | rfl | rfl | rfl | rfl | rfl | rfl | rfl | rfl | rfl | rfl | rfl | rfl | rfl | rfl | rfl | rfl | rfl | rfl | rfl | rfl | rfl | rfl
  ·exact aMo G k d n m a imm hr
  ·exact aNr G k d n m a imm hr
  ·exact aNH G k d n m a imm hr
  ·exact aMZ G k d n m a imm hr
  ·exact aND G k d n m a imm hr
  ·exact aMP G k d n m a imm hr
  ·exact aMr G k d n m a imm hr
  ·exact aMM G k d n m a imm hr
  ·exact aNM G k d n m a imm hr
  ·exact aKM G k d n m a imm hr
  ·exact aKm G k d n m a imm hr
  ·exact aLf G k d n m a imm hr
  ·exact aKx G k d n m a imm hr
  ·exact aLo G k d n m a imm hr
  ·exact aKD G k d n m a imm hr
  ·exact aKU G k d n m a imm hr
  ·exact aKq G k d n m a imm hr
  ·exact aLw G k d n m a imm hr
  ·exact aJW G k d n m a imm hr
  ·exact aKy G k d n m a imm hr
  ·exact aLa G k d n m a imm hr
  ·exact aKb G k d n m a imm hr
  ·exact aKA G k d n m a imm hr
  ·exact aKg G k d n m a imm hr
def x1F (v : Int) : Int := if v % 2 = 0 then v + 1 else v - 1
def aAm (n h : Int) : Int := if h ≤ n then n - 2 * h else n
def exA (op w : Int) : Int :=
 if op = 1 ∨ op = 2 then w / 2097152 % 4
 else if op = 8 then w / 1024 % 32
 else if op = 16 then w / 4096 % 16
 else if op = 17 then x1F (w / 4096 % 16)
 else if op = 21 then w % 16
 else 0
def exI (op w : Int) : Int :=
 if op = 1 ∨ op = 2 then w / 32 % 65536
 else if op = 10 ∨ op = 11 ∨ op = 18 ∨ op = 19 then w / 1024 % 4096
 else if op = 12 then 63 - w / 1024 % 64
 else if op = 13 ∨ op = 14 then w / 65536 % 64
 else if op = 20 then aAm (w % 67108864) 33554432
 else if op = 21 ∨ op = 22 ∨ op = 23 then aAm (w / 32 % 524288) 262144
 else if op = 24 then w / 32 % 65536
 else 0
def uG (op w : Int) : MI := ⟨op, if (aO op).d = true then w % 32 else 0, if (aO op).n = true then w / 32 % 32 else 0, if (aO op).m = true then w / 65536 % 32 else 0, exA op w, exI op w⟩
theorem aCa (P : Program) (t : Nat) (c : Bool) (kk : IntKind) {v p b : Int} (s : Nat) (hb : b = (s : Int)) (hs : s ≤ 32) (hp : p = ((2 ^ s : Nat) : Int)) (h0 : 0 ≤ v) : aQ P .shr t c (cX v) (.int kk b) = some (cX (v / p)) := by
 subst hb
 rw [zA _ _ _ _ _ _ _ (Int.natCast_nonneg s), Int.toNat_natCast]
 have e : min s IntKind.u32.bits = s := Nat.min_eq_left hs
 have e2 : ((2 : Int) ^ s) = p := by rw [hp]; exact_mod_cast rfl
 rw [e, e2, Int.fdiv_eq_ediv_of_nonneg _ (by rw [hp]; exact Int.natCast_nonneg _)]
theorem jI (G : aG) (k : Nat) (w : Int) (h0 : 0 ≤ w) (h1 : w < 4294967296) {a b p q : Int} (s : Nat) (ha : a = (s : Int)) (hs : s ≤ 31) (hp : p = ((2 ^ s : Nat) : Int)) (g : Nat) (hb : b = (g : Int)) (hg : g ≤ 26) (hq : q = ((2 ^ g : Nat) : Int)) :
  cZ.f G (k + 1) [cX w, I6 a, I6 b] [] = some (I6 (w / p % q), []) := by
 rw [cZ.step]
 unfold cZ.c
 have p0 : 0 < p := by rw [hp]; exact_mod_cast Nat.two_pow_pos s
 have d0 : 0 ≤ w / p := Int.ediv_nonneg h0 (by omega)
 have d1 : w / p ≤ w := Int.ediv_le_self _ h0
 have hl : (2 ^ g : Nat) ≤ 2 ^ 26 := Nat.pow_le_pow_right (by decide) hg
 have q0 : 0 < q := by rw [hq]; exact_mod_cast Nat.two_pow_pos g
 have q1 : q ≤ 67108864 := by
  have e : (2 ^ 26 : Nat) = 67108864 := by decide
  rw [hq]; omega
 have s1 := aCa Tryd.prog 71 false .i64 (v := w) (p := p) (b := a) s ha (by omega) hp h0
 have s2 : aQ Tryd.prog .shl 71 true (.int .u32 1) (I6 b) = some (cX q) := by
  subst hb
  rw [aCP _ _ _ _ _ _ _ (Int.natCast_nonneg g), Int.toNat_natCast]
  have e : min g IntKind.u32.bits = g := Nat.min_eq_left (by show g ≤ 32; omega)
  have e2 : ((2 : Int) ^ g) = q := by rw [hq]; exact_mod_cast rfl
  rw [e, e2, Int.one_mul, mK (by omega) (by omega)]
 have s3 : aQ Tryd.prog .sub 71 true (cX q) (.int .u32 1) = some (cX (q - 1)) := aDN _ _ _ (by omega) (by omega) (by omega)
 have s4 : aQ Tryd.prog .and 71 false (cX (w / p)) (cX (q - 1)) = some (cX (w / p % q)) := by
  have := jL Tryd.prog 71 false (x := w / p) (q := q - 1) g (by omega) (by rw [hq]; have := Nat.two_pow_pos g; omega) d0 (by omega)
  rw [this]; congr 2; rw [Int.sub_add_cancel]
 have m0 : 0 ≤ w / p % q := Int.emod_nonneg _ (by omega)
 have m1 : w / p % q < q := Int.emod_lt_of_pos _ q0
 have s5 : aJ .i64 (cX (w / p % q)) = some (I6 (w / p % q)) := aGi (by omega) (by omega)
 clear ha hb hp hq
 generalize w / p % q = z at *
 generalize w / p = z2 at *
 refine eZ ?_
 have fx := aPQ s1 <| aPQ s2 <| aPQ s3 <| aPQ s4 <| s5
 refine gM ?_
 exact tA rfl
theorem aCg (G : aG) (k : Nat) (n b h : Int) (hb : (b = 19 ∧ h = 262144) ∨ (b = 26 ∧ h = 33554432)) (n0 : 0 ≤ n) (n1 : n < 67108864) : gK.f G (k + 1) [I6 n, I6 b] [] = some (I6 (aAm n h), []) := by
 rw [gK.step]
 unfold gK.c aAm
 obtain ⟨s1, s2, s3⟩ : aQ Tryd.prog .sub 3 true (I6 b) (.int .i64 1) = some (I6 (b - 1)) ∧ aQ Tryd.prog .shl 3 true (.int .i64 1) (I6 (b - 1)) = some (I6 h) ∧ aQ Tryd.prog .shl 3 true (.int .i64 1) (I6 b) = some (I6 (2 * h)) := by
  clear n0 n1
  rcases hb with ⟨rfl, rfl⟩ | ⟨rfl, rfl⟩
  ·exact ⟨by kernel_rfl, by kernel_rfl, by kernel_rfl⟩
  ·exact ⟨by kernel_rfl, by kernel_rfl, by kernel_rfl⟩
 have hh : 0 ≤ h ∧ h ≤ 33554432 := by omega
 clear hb
 refine eZ ?_
 by_cases hc : h ≤ n
 ·rw [if_pos hc]
  have fx := aPQ s1 <| aPQ s2 <| s3
  refine gM ?_
  exact tA rfl
 ·rw [if_neg hc]
  have fx := aPQ s1 <| aPQ s2 <| s3
  refine gM ?_
  exact tA rfl
theorem aHJ (P : Program) (t : Nat) (c : Bool) {a : Int} (h0 : 0 ≤ a) (h1 : a < 16) : aQ P .xor t c (I6 a) (.int .i64 1) = some (I6 (x1F a)) := by
 have h : a = 0 ∨ a = 1 ∨ a = 2 ∨ a = 3 ∨ a = 4 ∨ a = 5 ∨ a = 6 ∨ a = 7 ∨ a = 8 ∨ a = 9 ∨ a = 10 ∨ a = 11 ∨ a = 12 ∨ a = 13 ∨ a = 14 ∨ a = 15 := by omega
 rcases h with rfl | rfl | rfl | rfl | rfl | rfl | rfl | rfl | rfl | rfl | rfl | rfl | rfl | rfl | rfl | rfl <;> (clear h0 h1; show _ = _; kernel_rfl)
theorem aEy (G : aG) (k : Nat) (op w : Int) (hop : 1 ≤ op ∧ op ≤ 24) (h0 : 0 ≤ w) (h1 : w < 4294967296) : fM.f G (k + 2) [I6 op, cX w] [] = some (.tup [I6 (exA op w), I6 (exI op w)], []) := by
 rw [fM.step]
 unfold fM.c
 have f1 : ∀ H, aD (cZ.f G (k + 1)) [cX w, .int .i64 21, .int .i64 2] H = some (I6 (w / 2097152 % 4), H) := fun H => aE (H := H) (jI G k w h0 h1 21 rfl (by decide) rfl 2 rfl (by decide) rfl) rfl rfl
 have f2 : ∀ H, aD (cZ.f G (k + 1)) [cX w, .int .i64 5, .int .i64 16] H = some (I6 (w / 32 % 65536), H) := fun H => aE (H := H) (jI G k w h0 h1 5 rfl (by decide) rfl 16 rfl (by decide) rfl) rfl rfl
 have f3 : ∀ H, aD (cZ.f G (k + 1)) [cX w, .int .i64 10, .int .i64 5] H = some (I6 (w / 1024 % 32), H) := fun H => aE (H := H) (jI G k w h0 h1 10 rfl (by decide) rfl 5 rfl (by decide) rfl) rfl rfl
 have f4 : ∀ H, aD (cZ.f G (k + 1)) [cX w, .int .i64 12, .int .i64 4] H = some (I6 (w / 4096 % 16), H) := fun H => aE (H := H) (jI G k w h0 h1 12 rfl (by decide) rfl 4 rfl (by decide) rfl) rfl rfl
 have f5 : ∀ H, aD (cZ.f G (k + 1)) [cX w, .int .i64 10, .int .i64 12] H = some (I6 (w / 1024 % 4096), H) := fun H => aE (H := H) (jI G k w h0 h1 10 rfl (by decide) rfl 12 rfl (by decide) rfl) rfl rfl
 have f6 : ∀ H, aD (cZ.f G (k + 1)) [cX w, .int .i64 10, .int .i64 6] H = some (I6 (w / 1024 % 64), H) := fun H => aE (H := H) (jI G k w h0 h1 10 rfl (by decide) rfl 6 rfl (by decide) rfl) rfl rfl
 have f7 : ∀ H, aD (cZ.f G (k + 1)) [cX w, .int .i64 16, .int .i64 6] H = some (I6 (w / 65536 % 64), H) := fun H => aE (H := H) (jI G k w h0 h1 16 rfl (by decide) rfl 6 rfl (by decide) rfl) rfl rfl
 have f8 : ∀ H, aD (cZ.f G (k + 1)) [cX w, .int .i64 0, .int .i64 26] H = some (I6 (w / 1 % 67108864), H) := fun H => aE (H := H) (jI G k w h0 h1 0 rfl (by decide) rfl 26 rfl (by decide) rfl) rfl rfl
 have f9 : ∀ H, aD (cZ.f G (k + 1)) [cX w, .int .i64 0, .int .i64 4] H = some (I6 (w / 1 % 16), H) := fun H => aE (H := H) (jI G k w h0 h1 0 rfl (by decide) rfl 4 rfl (by decide) rfl) rfl rfl
 have f10 : ∀ H, aD (cZ.f G (k + 1)) [cX w, .int .i64 5, .int .i64 19] H = some (I6 (w / 32 % 524288), H) := fun H => aE (H := H) (jI G k w h0 h1 5 rfl (by decide) rfl 19 rfl (by decide) rfl) rfl rfl
 rw [Int.ediv_one] at f8 f9
 have g1 : ∀ H, aD (gK.f G (k + 1)) [I6 (w % 67108864), .int .i64 26] H = some (I6 (aAm (w % 67108864) 33554432), H) := fun H => aE (H := H) (aCg G k _ 26 33554432 (.inr ⟨rfl, rfl⟩) (by omega) (by omega)) rfl rfl
 have g2 : ∀ H, aD (gK.f G (k + 1)) [I6 (w / 32 % 524288), .int .i64 19] H = some (I6 (aAm (w / 32 % 524288) 262144), H) := fun H => aE (H := H) (aCg G k _ 19 262144 (.inl ⟨rfl, rfl⟩) (by omega) (by omega)) rfl rfl
 have g3 := aHJ Tryd.prog 3 true (a := w / 4096 % 16) (by omega) (by omega)
 have g4 : aQ Tryd.prog .sub 3 true (.int .i64 63) (I6 (w / 1024 % 64)) = some (I6 (63 - w / 1024 % 64)) := aGQ (by omega) (by omega)
 refine eZ ?_
 rcases xA hop with rfl | rfl | rfl | rfl | rfl | rfl | rfl | rfl | rfl | rfl | rfl | rfl | rfl | rfl | rfl | rfl | rfl | rfl | rfl | rfl | rfl | rfl | rfl | rfl
 all_goals (
  have fx := aPQ f1 <| aPQ f2 <| aPQ f3 <| aPQ f4 <| aPQ f5 <| aPQ f6 <| aPQ f7 <| aPQ f8 <| aPQ f9 <| aPQ f10 <| aPQ g1 <| aPQ g2 <| aPQ g3 <| g4
  refine gM ?_
  exact w2 rfl rfl rfl)
theorem lW {x y : AV} {H : aF} (hx : cG 0 x = true) (hy : cG 0 y = true) {m : Option AV} (hm : m = some x) : fK [m, some y] 0 H = some (.ret, [.tup [x, y]], []) := by
 subst hm
 have : cG 0 (.tup [x, y]) = true := by simp [cG, dH, hx, hy]
 unfold fK
 exact aAo hx hy H
def asB (op w : Int) : Bool := aT (uG op w) && decide (cS (uG op w) = w)
theorem aKX (G : aG) (k : Nat) (op w : Int) (hop : 1 ≤ op ∧ op ≤ 24) (h0 : 0 ≤ w) (h1 : w < 4294967296) : jE.f G (k + 6) [I6 op, cX w] [] = some (.tup [(uG op w).v, .bool (asB op w)], []) := by
 rw [jE.step]
 unfold jE.c
 have r1 : ∀ H, aD (fO.f G (k + 5)) [I6 op] H = _ := fun H => aE (H := H) (iO G (k + 1) op) rfl rfl
 have r2 : ∀ H, aD (fM.f G (k + 5)) [I6 op, cX w] H = _ := fun H => aE (H := H) (aEy G (k + 3) op w hop h0 h1) rfl rfl
 have f1 : ∀ H, aD (cZ.f G (k + 5)) [cX w, .int .i64 0, .int .i64 5] H = some (I6 (w / 1 % 32), H) := fun H => aE (H := H) (jI G (k + 4) w h0 h1 0 rfl (by decide) rfl 5 rfl (by decide) rfl) rfl rfl
 have f2 : ∀ H, aD (cZ.f G (k + 5)) [cX w, .int .i64 5, .int .i64 5] H = some (I6 (w / 32 % 32), H) := fun H => aE (H := H) (jI G (k + 4) w h0 h1 5 rfl (by decide) rfl 5 rfl (by decide) rfl) rfl rfl
 have f3 : ∀ H, aD (cZ.f G (k + 5)) [cX w, .int .i64 16, .int .i64 5] H = some (I6 (w / 65536 % 32), H) := fun H => aE (H := H) (jI G (k + 4) w h0 h1 16 rfl (by decide) rfl 5 rfl (by decide) rfl) rfl rfl
 rw [Int.ediv_one] at f1
 have r3 : ∀ H, aD (bD.f G (k + 5)) [(uG op w).v] H = _ := fun H => aE (H := H) (aBA G k (uG op w)) rfl rfl
 have r4 : aT (uG op w) = true → mX (uG op w) = cS (uG op w) := fun h => by unfold mX; rw [if_pos h]
 unfold asB
 generalize mX (uG op w) = zr at *
 generalize cS (uG op w) = zf at *
 generalize aT (uG op w) = b at *
 unfold uG at *
 generalize aO op = F at *
 obtain ⟨nm, w0, fd, fn, fm, fa, fb⟩ := F
 generalize kK op = go at *
 generalize exA op w = xa at *
 generalize exI op w = xi at *
 unfold MI.v Form.v at *
 simp only at *
 generalize w % 32 = y1 at *
 generalize w / 32 % 32 = y2 at *
 generalize w / 65536 % 32 = y3 at *
 have key : ∀ c : Bool, b = c → b = (b && decide (zf = w)) ∨ zf ≠ w := fun _ _ => by
  by_cases h : zf = w
  ·left; rw [decide_eq_true h, Bool.and_true]
  ·exact .inr h
 refine eZ ?_
 cases fd <;> cases fn <;> cases fm
 all_goals (
  simp only [if_true, if_false, Bool.false_eq_true, ↓reduceIte] at r3 ⊢
  cases b
  ·have fx := aPQ r1 <| aPQ r2 <| aPQ r3 <| aPQ f1 <| aPQ f2 <| f3
   refine kM ?_
   exact oF (lW rfl rfl rfl)
  ·have r4 := r4 rfl
   subst r4
   by_cases hz : zr = w
   ·have fx := aPQ r1 <| aPQ r2 <| aPQ r3 <| aPQ f1 <| aPQ f2 <| f3
    refine kM ?_
    rw [decide_eq_true hz]
    exact oF (lW rfl rfl rfl)
   ·have fx := aPQ r1 <| aPQ r2 <| aPQ r3 <| aPQ f1 <| aPQ f2 <| f3
    refine kM ?_
    rw [decide_eq_false hz]
    exact oF (lW rfl rfl rfl))
def okB (op w : Int) : Bool := asB op w && (decide (op ≠ 12) || decide ((uG op w).imm ≠ 0))
def tM : Nat → Int → Int → Option MI
 | 0, _, _ => none
 | d + 1, op, w => if okB op w = true then some (uG op w) else tM d (op + 1) w
def ofF (w : Int) : Option MI := tM 24 1 w
def ofV (q : Option MI) : AV := match q with
 | some i => .tup [i.v, .bool true]
 | none => .tup [mV 0 0 0 0 0 0, .bool false]
def rN (q : Option MI) (w : Int) (T : aF) : gH := match q with
 | some i => (.ret, [cX w, .ptr 0 1 0 0, .bool true, I6 i.op], ⟨57, 6, [i.v]⟩ :: T)
 | none => (.exit 0, [cX w, .ptr 0 1 0 0, .bool false, I6 25], ⟨57, 6, [mV 0 0 0 0 0 0]⟩ :: T)
theorem aGs (G : aG) (k : Nat) (self : cN) (w : Int) (h0 : 0 ≤ w) (h1 : w < 4294967296) : ∀ (d f : Nat) (op : Int) (T : aF), op + (d : Int) = 25 → 1 ≤ op → d < f →
  ∃ T', gV (iH.l2 G (k + 6) 1 self) f [cX w, .ptr 0 1 0 0, .bool false, I6 op] (⟨57, 6, [mV 0 0 0 0 0 0]⟩ :: T) = some (rN (tM d op w) w T')
 | d, 0, op, T, h, _, hf => by omega
 | 0, f + 1, op, T, h, _, hf => by
  rw [fJ, iH.l2]
  have hc : iR 1 [cX w, .ptr 0 1 0 0, .bool false, I6 op] (⟨57, 6, [mV 0 0 0 0 0 0]⟩ :: T) = some [⟨57, 6, [mV 0 0 0 0 0 0]⟩] := rfl
  have e : op = 25 := by omega
  subst e
  refine ⟨[], ?_⟩
  refine jT ?_
  refine eC hc ?_
  have fx := True.intro
  refine gM ?_
  refine iA ?_; rfl
 | d + 1, f + 1, op, T, h, hop, hf => by
  rw [fJ, iH.l2]
  have hc : iR 1 [cX w, .ptr 0 1 0 0, .bool false, I6 op] (⟨57, 6, [mV 0 0 0 0 0 0]⟩ :: T) = some [⟨57, 6, [mV 0 0 0 0 0 0]⟩] := rfl
  have ih := fun T => aGs G k self w h0 h1 d f (op + 1) T (by omega) (by omega) (by omega)
  have r1 : ∀ H, aD (jE.f G (k + 6)) [I6 op, cX w] H = _ := fun H => aE (H := H) (aKX G k op w (by omega) h0 h1) rfl rfl
  have e0 : (uG op w).op = op := rfl
  have q1 : aQ Tryd.prog .leq 3 true (I6 op) (.int .i64 24) = some (.bool true) := sO (by omega)
  have q2 : aQ Tryd.prog .add 3 true (I6 op) (.int .i64 1) = some (I6 (op + 1)) := aBz (by omega) (by omega)
  unfold tM okB
  generalize asB op w = b at *
  generalize uG op w = i at *
  obtain ⟨op', xd, xn, xm, xa, xi⟩ := i
  simp only at e0
  subst e0
  unfold MI.v at *
  simp only at *
  clear h1 h hf hop h0
  cases b
  ·rw [if_neg (by simp)]
   obtain ⟨T', ih⟩ := ih [⟨57, 6, [.agg [I6 op', I6 xd, I6 xn, I6 xm, I6 xa, I6 xi]]⟩]
   refine ⟨T', ?_⟩
   refine jT ?_
   refine eC hc ?_
   have fx := aPQ r1 <| aPQ q1 <| q2
   refine gM ?_
   exact ih
  ·by_cases h12 : op' = 12
   ·by_cases hi : xi = 0
    ·rw [if_neg (by simp [h12, hi])]
     obtain ⟨T', ih⟩ := ih [⟨57, 6, [.agg [I6 op', I6 xd, I6 xn, I6 xm, I6 xa, I6 xi]]⟩]
     refine ⟨T', ?_⟩
     refine jT ?_
     refine eC hc ?_
     have fx := aPQ r1 <| aPQ q1 <| q2
     refine gM ?_
     exact ih
    ·rw [if_pos (by simp [h12, hi])]
     refine ⟨[⟨57, 6, [.agg [I6 op', I6 xd, I6 xn, I6 xm, I6 xa, I6 xi]]⟩], ?_⟩
     refine jT ?_
     refine eC hc ?_
     have fx := aPQ r1 <| aPQ q1 <| q2
     refine gM ?_
     refine iA ?_; rfl
   ·rw [if_pos (by simp [h12])]
    refine ⟨[⟨57, 6, [.agg [I6 op', I6 xd, I6 xn, I6 xm, I6 xa, I6 xi]]⟩], ?_⟩
    refine jT ?_
    refine eC hc ?_
    have fx := aPQ r1 <| aPQ q1 <| q2
    refine gM ?_
    refine iA ?_; rfl
theorem aLq (G : aG) (k : Nat) (w : Int) (h0 : 0 ≤ w) (h1 : w < 4294967296) : iH.f G (k + 40) [cX w] [] = some (ofV (ofF w), []) := by
 rw [iH.step]
 unfold iH.c
 obtain ⟨T', lp⟩ : ∃ T', gV (iH.l2 G (k + 39) 1 (iH.f G (k + 39))) (k + 39) [cX w, .ptr 0 1 0 0, .bool false, .int .i64 1] [⟨57, 6, [mV 0 0 0 0 0 0]⟩] = some (rN (tM 24 1 w) w T') := aGs G (k + 33) (iH.f G (k + 39)) w h0 h1 24 (k + 39) 1 [] (by decide) (by decide) (by omega)
 unfold ofF
 generalize tM 24 1 w = q at *
 refine eZ ?_
 cases q with
 | none =>
  unfold rN at lp
  simp only at lp
  have fx := True.intro
  have lx1 := lp
  refine gM ?_
  exact oF (lW rfl rfl rfl)
 | some i =>
  unfold rN at lp
  simp only at lp
  have fx := True.intro
  have lx1 := lp
  refine gM ?_
  exact oF (lW rfl rfl rfl)
theorem qO {i : MI} (h : aT i = true) : 1 ≤ i.op ∧ i.op ≤ 24 := by
 unfold aT at h
 rw [Bool.and_eq_true] at h
 exact of_decide_eq_true h.1
def cls (w : Int) : Int :=
 if w < 402653184 then 20 else if w < 1426063360 then 21 else if w < 2317352960 then 5 else if w < 2334130176 then 3 else if w < 2436890624 then 10
 else if w < 2474639360 then 14 else if w < 2594177024 then (if w / 1024 % 4 = 1 then 17 else 16) else if w < 2602565632 then 8 else if w < 2615148544 then 9
 else if w < 2854223872 then 6 else if w < 3036676096 then 22 else if w < 3053453312 then 23 else if w < 3391094784 then 7 else if w < 3407872000 then 4
 else if w < 3510632448 then 11 else if w < 3539992576 then 1 else if w < 3548381184 then (if w / 1024 % 64 = 63 then 13 else 12) else if w < 3563061248 then 24
 else if w < 3944742912 then 15 else if w < 4076863488 then 2 else if w < 4181721088 then 19 else 18
theorem rK {i : MI} (h : aT i = true) : 0 ≤ cS i ∧ cS i < 4294967296 ∧ uG i.op (cS i) = i ∧ cls (cS i) = (if i.op = 12 ∧ i.imm = 0 then 13 else i.op) := by
 have h24 := qO h
 obtain ⟨op, d, n, m, a, imm⟩ := i
 unfold aT at h
 rw [Bool.and_eq_true] at h
 obtain ⟨_, h⟩ := h
 simp only at h24
 obtain ⟨w, hw⟩ : ∃ w, w = cS ⟨op, d, n, m, a, imm⟩ := ⟨_, rfl⟩
 rw [← hw]
 rcases xA h24 with rfl | rfl | rfl | rfl | rfl | rfl | rfl | rfl | rfl | rfl | rfl | rfl | rfl | rfl | rfl | rfl | rfl | rfl | rfl | rfl | rfl | rfl | rfl | rfl
 all_goals (
  simp [aO, fD, gI, dU, gS, fC, dS] at h
  have hw2 := hw
  simp [cS, aO, fH] at hw2
  clear hw
  refine ⟨by omega, by omega, ?_, ?_⟩
  ·simp [uG, aO, exA, exI, aAm, x1F]
   first | omega | (refine ⟨?_, ?_, ?_, ?_⟩ <;> omega)
  ·unfold cls
   simp (disch := omega) only [if_pos, if_neg]
   first | done | omega | (by_cases hi : imm = 0 <;> simp [hi] <;> omega))
theorem aKw {op w : Int} : asB op w = true ↔ aT (uG op w) = true ∧ cS (uG op w) = w := by
 unfold asB; simp
theorem vC {op w : Int} : okB op w = true ↔ (aT (uG op w) = true ∧ cS (uG op w) = w) ∧ ¬ (op = 12 ∧ (uG op w).imm = 0) := by
 unfold okB
 rw [Bool.and_eq_true, aKw]
 simp
 intro _ _
 constructor
 ·rintro (h | h)
  ·intro h2; exact absurd h2 h
  ·intro _; exact h
 ·intro h
  by_cases h2 : op = 12
  ·exact .inr (h h2)
  ·exact .inl h2
theorem aLE {op w : Int} (h : okB op w = true) : cls w = op := by
 obtain ⟨⟨h1, h2⟩, h3⟩ := vC.1 h
 have := (rK h1).2.2.2
 rw [h2] at this
 have h3' : ¬ ((uG op w).op = 12 ∧ (uG op w).imm = 0) := h3
 rw [this, if_neg h3']
 rfl
theorem aBO : ∀ {d : Nat} {op w : Int}, tM d op w = none → ∀ o : Int, op ≤ o → o < op + d → okB o w = false
 | 0, op, w, _, o, h1, h2 => by omega
 | d + 1, op, w, h, o, h1, h2 => by
  unfold tM at h
  by_cases hk : okB op w = true
  ·rw [if_pos hk] at h; cases h
  ·rw [if_neg hk] at h
   by_cases ho : o = op
   ·subst ho; simpa using hk
   ·exact aBO h o (by omega) (by omega)
theorem xK : ∀ {d : Nat} {op w : Int} {i : MI}, tM d op w = some i → ∃ o, okB o w = true ∧ i = uG o w ∧ op ≤ o ∧ o < op + d
 | 0, op, w, i, h => by cases h
 | d + 1, op, w, i, h => by
  unfold tM at h
  by_cases hk : okB op w = true
  ·rw [if_pos hk] at h
   simp at h
   exact ⟨op, hk, h.symm, by omega, by omega⟩
  ·rw [if_neg hk] at h
   obtain ⟨o, h1, h2, h3, h4⟩ := xK h
   exact ⟨o, h1, h2, by omega, by omega⟩
theorem aCr {w : Int} {i : MI} (h : ofF w = some i) : aT i = true ∧ cS i = w ∧ ¬ (i.op = 12 ∧ i.imm = 0) := by
 obtain ⟨o, h1, rfl, _, _⟩ := xK h
 obtain ⟨⟨h2, h3⟩, h4⟩ := vC.1 h1
 exact ⟨h2, h3, h4⟩
theorem uV {i : MI} (h : aT i = true) (hs : ¬ (i.op = 12 ∧ i.imm = 0)) : ofF (cS i) = some i := by
 obtain ⟨w0, w1, w2, w3⟩ := rK h
 rw [if_neg hs] at w3
 have h24 := qO h
 have hk : okB i.op (cS i) = true := by
  rw [vC, w2]
  exact ⟨⟨h, rfl⟩, hs⟩
 cases hq : ofF (cS i) with
 | none =>
  have := aBO hq i.op h24.1 (by omega)
  rw [hk] at this; cases this
 | some j =>
  obtain ⟨o, h1, rfl, _, _⟩ := xK hq
  have := aLE h1
  rw [w3] at this
  rw [← this, w2]
theorem aFn {w : Int} {i : MI} : ofF w = some i ↔ aT i = true ∧ cS i = w ∧ ¬ (i.op = 12 ∧ i.imm = 0) := by
 constructor
 ·exact aCr
 ·rintro ⟨h1, rfl, h3⟩; exact uV h1 h3
theorem mL (a : Nat) (h : a < 18446744073709551616) : (BitVec.ofInt 64 (a : Int)).toNat = a := by
 rw [BitVec.toNat_ofInt]
 omega
theorem uO (a b : Nat) (ha : a < 18446744073709551616) (hb : b < 18446744073709551616) : bits .and .u64 (a : Int) (b : Int) = ((a &&& b : Nat) : Int) := by
 have hx : a &&& b ≤ a := Nat.and_le_left
 show IntKind.u64.wrap ((BitVec.ofInt 64 (a : Int) &&& BitVec.ofInt 64 (b : Int)).toNat : Int) = _
 rw [BitVec.toNat_and, mL a ha, mL b hb, fF (by omega) (by omega)]
theorem aIm (a b : Nat) (ha : a < 18446744073709551616) (hb : b < 18446744073709551616) : bits .or .u64 (a : Int) (b : Int) = ((a ||| b : Nat) : Int) := by
 have hx : a ||| b < 2 ^ 64 := Nat.or_lt_two_pow (by omega) (by omega)
 show IntKind.u64.wrap ((BitVec.ofInt 64 (a : Int) ||| BitVec.ofInt 64 (b : Int)).toNat : Int) = _
 rw [BitVec.toNat_or, mL a ha, mL b hb, fF (by omega) (by omega)]
theorem zB (a b : Nat) (ha : a < 18446744073709551616) (hb : b < 18446744073709551616) : bits .xor .u64 (a : Int) (b : Int) = ((a ^^^ b : Nat) : Int) := by
 have hx : a ^^^ b < 2 ^ 64 := Nat.xor_lt_two_pow (by omega) (by omega)
 show IntKind.u64.wrap ((BitVec.ofInt 64 (a : Int) ^^^ BitVec.ofInt 64 (b : Int)).toNat : Int) = _
 rw [BitVec.toNat_xor, mL a ha, mL b hb, fF (by omega) (by omega)]
theorem qV (n : Nat) : IntKind.u64.wrap (n : Int) = ((n % 18446744073709551616 : Nat) : Int) := by rw [nS]; rfl
theorem qN (P : Program) (t : Nat) (c : Bool) (a b : Nat) : aQ P .add t c (Un a) (Un b) = some (Un ((a + b) % 18446744073709551616)) := by
 rw [kL, ← Int.natCast_add, qV]
theorem vH (P : Program) (t : Nat) (c : Bool) (a b : Nat) : aQ P .mul t c (Un a) (Un b) = some (Un (a * b % 18446744073709551616)) := by
 rw [zO, ← Int.natCast_mul, qV]
theorem zL (P : Program) (t : Nat) (c : Bool) (a b : Nat) (hb : b < 18446744073709551616) : aQ P .sub t c (Un a) (Un b) = some (Un ((a + 18446744073709551616 - b) % 18446744073709551616)) := by
 rw [zJ, nS]; congr 2; omega
theorem sM (P : Program) (t : Nat) (c : Bool) (k : IntKind) (a n : Nat) (h : n ≤ 64) : aQ P .shr t c (Un a) (.int k (n : Int)) = some (Un (a / 2 ^ n)) := by
 rw [zA _ _ _ _ _ _ _ (Int.natCast_nonneg n)]
 have e : min ((n : Int)).toNat IntKind.u64.bits = n := by rw [Int.toNat_natCast]; exact Nat.min_eq_left h
 rw [e, aDb]
theorem uW (P : Program) (t : Nat) (c : Bool) (k : IntKind) (a n : Nat) (h : n ≤ 64) : aQ P .shl t c (Un a) (.int k (n : Int)) = some (Un (a * 2 ^ n % 18446744073709551616)) := by
 rw [aCP _ _ _ _ _ _ _ (Int.natCast_nonneg n)]
 have e : min ((n : Int)).toNat IntKind.u64.bits = n := by rw [Int.toNat_natCast]; exact Nat.min_eq_left h
 have e2 : ((a : Int) * 2 ^ n : Int) = ((a * 2 ^ n : Nat) : Int) := by push_cast; rfl
 rw [e, e2, qV]
def mT (a : Nat) : Int := if a ≥ 9223372036854775808 then (a : Int) - 18446744073709551616 else (a : Int)
def u64 (n : Int) : Nat := (n % 18446744073709551616).toNat
theorem jD (n : Int) : u64 n < 18446744073709551616 := by unfold u64; omega
theorem uS (a : Nat) (h : a < 18446744073709551616) : aJ .i64 (Un a) = some (I6 (mT a)) := by
 rw [fE, xV]; unfold mT; congr 2; split <;> split <;> omega
theorem iG (k : IntKind) (n : Int) : aJ .u64 (.int k n) = some (Un (u64 n)) := by
 rw [fE, nS]; unfold u64; congr 2; omega
theorem aLr (a : Nat) (h : a < 18446744073709551616) : u64 (mT a) = a := by unfold u64 mT; split <;> omega
theorem aKJ (n : Nat) (h : n < 18446744073709551616) : u64 (n : Int) = n := by unfold u64; omega
theorem aLl (x0 x1 y0 y1 : Nat) (hx0 : x0 < 4294967296) (hx1 : x1 < 4294967296) (hy0 : y0 < 4294967296) (hy1 : y1 < 4294967296) :
  x0 * y0 ≤ 18446744065119617025 ∧ x1 * y0 ≤ 18446744065119617025 ∧ x0 * y1 ≤ 18446744065119617025 ∧ x1 * y1 ≤ 18446744065119617025 ∧
  (x1 * 4294967296 + x0) * (y1 * 4294967296 + y0) = x1 * y1 * 18446744073709551616 + (x1 * y0 + x0 * y1) * 4294967296 + x0 * y0 := by
 have b : ∀ p q : Nat, p < 4294967296 → q < 4294967296 → p * q ≤ 18446744065119617025 := fun p q hp hq => by
  have := Nat.mul_le_mul (show p ≤ 4294967295 by omega) (show q ≤ 4294967295 by omega)
  omega
 refine ⟨b _ _ hx0 hy0, b _ _ hx1 hy0, b _ _ hx0 hy1, b _ _ hx1 hy1, ?_⟩
 simp only [Nat.add_mul, Nat.mul_add]
 have e1 : x1 * 4294967296 * (y1 * 4294967296) = x1 * y1 * 18446744073709551616 := by
  rw [Nat.mul_mul_mul_comm]
 have e2 : x1 * 4294967296 * y0 = x1 * y0 * 4294967296 := by rw [Nat.mul_right_comm]
 have e3 : x0 * (y1 * 4294967296) = x0 * y1 * 4294967296 := by rw [Nat.mul_assoc]
 rw [e1, e2, e3]; omega
theorem aNt (n : Nat) : n &&& 4294967295 = n % 4294967296 := Nat.and_two_pow_sub_one_eq_mod n 32
theorem zS (G : aG) (k : Nat) (a b : Nat) (ha : a < 18446744073709551616) (hb : b < 18446744073709551616) :
  cE.f G (k + 1) [Un a, Un b] [] = some (.tup [Un (a * b / 18446744073709551616), Un (a * b % 18446744073709551616)], []) := by
 rw [cE.step]
 unfold cE.c
 have and32 : ∀ n : Nat, n < 18446744073709551616 → aQ Tryd.prog .and 43 true (Un n) (.int .u64 4294967295) = some (Un (n % 4294967296)) := fun n hn => by
  rw [pJ]; have := uO n 4294967295 hn (by omega); rw [aNt] at this; exact congrArg (fun z => some (AV.int .u64 z)) this
 have shr32 : ∀ n : Nat, aQ Tryd.prog .shr 43 true (Un n) (.int .u64 32) = some (Un (n / 4294967296)) := fun n => sM Tryd.prog 43 true .u64 n 32 (by omega)
 obtain ⟨x0, hx0⟩ : ∃ z, z = a % 4294967296 := ⟨_, rfl⟩
 obtain ⟨x1, hx1⟩ : ∃ z, z = a / 4294967296 := ⟨_, rfl⟩
 obtain ⟨y0, hy0⟩ : ∃ z, z = b % 4294967296 := ⟨_, rfl⟩
 obtain ⟨y1, hy1⟩ : ∃ z, z = b / 4294967296 := ⟨_, rfl⟩
 have c0 := and32 a ha
 have c1 := shr32 a
 have c2 := and32 b hb
 have c3 := shr32 b
 rw [← hx0] at c0
 rw [← hx1] at c1
 rw [← hy0] at c2
 rw [← hy1] at c3
 obtain ⟨b1, b2, b3, b4, hm⟩ := aLl x0 x1 y0 y1 (by omega) (by omega) (by omega) (by omega)
 have hab : a * b = x1 * y1 * 18446744073709551616 + (x1 * y0 + x0 * y1) * 4294967296 + x0 * y0 := by
  rw [← hm]; congr 1 <;> omega
 have m : ∀ p q : Nat, p * q ≤ 18446744065119617025 → aQ Tryd.prog .mul 43 false (Un p) (Un q) = some (Un (p * q)) := fun p q h => by rw [vH, Nat.mod_eq_of_lt (by omega)]
 have ad : ∀ p q : Nat, p + q < 18446744073709551616 → aQ Tryd.prog .add 43 false (Un p) (Un q) = some (Un (p + q)) := fun p q h => by rw [qN, Nat.mod_eq_of_lt h]
 have c4 := m x0 y0 b1
 have c5 := m x1 y0 b2
 have c10 := m x0 y1 b3
 have c12 := m x1 y1 b4
 have c16 := vH Tryd.prog 43 false a b
 rw [hab] at c16 ⊢
 generalize x0 * y0 = A at *
 generalize x1 * y0 = B at *
 generalize x0 * y1 = C at *
 generalize x1 * y1 = D at *
 have c6 := shr32 A
 have c7 := ad B (A / 4294967296) (by omega)
 obtain ⟨E, hE⟩ : ∃ z, z = B + A / 4294967296 := ⟨_, rfl⟩
 rw [← hE] at c7
 have c8 := and32 E (by omega)
 have c9 := shr32 E
 have c11 := ad (E % 4294967296) C (by omega)
 obtain ⟨F, hF⟩ : ∃ z, z = E % 4294967296 + C := ⟨_, rfl⟩
 rw [← hF] at c11
 have c13 := ad D (E / 4294967296) (by omega)
 have c14 := shr32 F
 have c15 := ad (D + E / 4294967296) (F / 4294967296) (by omega)
 have r1 : (D * 18446744073709551616 + (B + C) * 4294967296 + A) / 18446744073709551616 = D + E / 4294967296 + F / 4294967296 := by omega
 rw [r1]
 generalize (D * 18446744073709551616 + (B + C) * 4294967296 + A) % 18446744073709551616 = Z at *
 generalize D + E / 4294967296 + F / 4294967296 = Y at *
 generalize D + E / 4294967296 = X at *
 generalize F / 4294967296 = X2 at *
 generalize E / 4294967296 = X3 at *
 generalize E % 4294967296 = X4 at *
 generalize A / 4294967296 = X5 at *
 clear hE hF hab hm
 repeat first
  | refine oB (by first | (simp only [aCk, eG, eF, aDV, aEv, aDx, aDm, aDq, qK, pM, aAJ, c0, c1, c2, c3, c4, c5, c6, c7, c8, c9, c10, c11, c12, c13, c14, c15, c16]; first | done | (with_reducible exact rfl) | (with_reducible exact ⟨rfl, rfl⟩)) | (with_reducible exact rfl)) ?_
  | refine lB (by first | (simp only [aCk, eG, eF, aDV, aEv, aDx, aDm, aDq, qK, pM, aAJ, c0, c1, c2, c3, c4, c5, c6, c7, c8, c9, c10, c11, c12, c13, c14, c15, c16]; first | done | (with_reducible exact rfl) | (with_reducible exact ⟨rfl, rfl⟩)) | (with_reducible exact rfl)) ?_
  | refine oT ?_
  | refine oN ?_
  | refine oX ?_
  | refine oXn ?_
  | refine oXr ?_
  | exact oF (aHq ..)
  | apply oK
  | refine lT ?_
  | refine lN ?_
  | refine lX ?_
  | refine lXn ?_
  | refine lXr ?_
  | apply lK
  | refine oI ?_
  | refine oJ rfl ?_
  | refine lI ?_
  | refine lJ rfl ?_
  | (with_reducible exact rfl)
 exact oF (aAo rfl rfl _)
def aCw (a n : Nat) : Nat := u64 ((mT a).fdiv (2 ^ n))
def pC (d k s : Nat) : Nat := u64 (bits .or .u64 (bits .andNot .u64 d ((65535 * 2 ^ s % 18446744073709551616 : Nat) : Int)) ((k * 2 ^ s % 18446744073709551616 : Nat) : Int))
def jN (op a imm : Int) (d n m x : Nat) (h : Bool) : Nat :=
 if op = 1 then u64 imm * 2 ^ (16 * a).toNat % 18446744073709551616
 else if op = 2 then pC d (u64 imm) (16 * a).toNat
 else if op = 3 then (n + m) % 18446744073709551616
 else if op = 4 then (n + 18446744073709551616 - m) % 18446744073709551616
 else if op = 5 then n &&& m
 else if op = 6 then n ||| m
 else if op = 7 then n ^^^ m
 else if op = 8 then (n * m % 18446744073709551616 + x) % 18446744073709551616
 else if op = 9 then n * m / 18446744073709551616
 else if op = 10 then (n + u64 imm) % 18446744073709551616
 else if op = 11 then (n + 18446744073709551616 - u64 imm) % 18446744073709551616
 else if op = 12 then n * 2 ^ (u64 imm) % 18446744073709551616
 else if op = 13 then n / 2 ^ (u64 imm)
 else if op = 14 then aCw n (u64 imm)
 else if op = 16 then (if h = true then n else m)
 else (if h = true then 1 else 0)
def fits (op a imm : Int) : Prop := (op = 1 ∨ op = 2 → 0 ≤ a ∧ a ≤ 3) ∧ (12 ≤ op → op ≤ 14 → 0 ≤ imm ∧ imm ≤ 63)
def bT (l : List Nat) : List AV := l.map fun n => Un n
theorem bN (l : List Nat) : (bT l).length = l.length := by simp [bT]
theorem gY (n : Nat) (l : List Nat) : dH n (bT l) = true := lV n _ (fun _ => rfl) l
theorem gX (l : List Nat) : eO (bT l) = true := oV _ (fun _ => rfl) l
theorem kR (l : List Nat) : jH (bT l) = true := pD _ (fun _ => rfl) l
theorem lQ (l : List Nat) (j : Nat) (h : j < l.length) : (bT l)[j]? = some (Un (l.getD j 0)) := by
 simp [bT, List.getD, List.getElem?_eq_getElem h]
theorem sQ (l : List Nat) (j x : Nat) : bT (l.set j x) = (bT l).set j (Un x) := by simp [bT, List.map_set]
abbrev eQ (l : List Nat) : AV := .agg (bT l)
structure FL where
 n : Bool
 z : Bool
 c : Bool
 v : Bool
def FL.a (f : FL) : AV := .agg [.bool f.n, .bool f.z, .bool f.c, .bool f.v]
def jO : FL := ⟨false, false, false, false⟩
def cO (r : List Nat) (j : Int) : Nat := if j = 31 then 0 else r.getD j.toNat 0
def gC (r : List Nat) (j : Int) (x : Nat) : List Nat := if j = 31 then r else r.set j.toNat x
def jR (c : Int) (f : FL) : Bool :=
 if c = 0 then f.z else if c = 1 then !f.z else if c = 2 then f.c else if c = 3 then !f.c else if c = 8 then f.c && !f.z else if c = 9 then !f.c || f.z else false
def aGk (a b x : Nat) : FL := ⟨decide (x / 2 ^ 63 = 1), decide (x = 0), decide (b ≤ a), decide (((a ^^^ b) &&& (a ^^^ x)) / 2 ^ 63 = 1)⟩
def tH (a b : Nat) : FL := aGk a b ((a + 18446744073709551616 - b) % 18446744073709551616)
theorem aFA {x y z : AV} (hx : cG 0 x = true) (hy : cG 0 y = true) (hz : cG 0 z = true) (H : aF) : bH [x, y, z] 0 H = some (.ret, [.tup [x, y, z]], []) := by
 have : cG 0 (.tup [x, y, z]) = true := by simp [cG, dH, hx, hy, hz]
 simp [bH, rC, mI this, sR]
section
variable (G : aG) (k : Nat)
def dD (i : MI) (r : List Nat) (f : FL) : List Nat × FL :=
 if i.op = 15 then (r, tH (cO r i.n) (cO r i.m))
 else if i.op = 16 ∨ i.op = 17 then (gC r i.d (jN i.op i.a i.imm (cO r i.d) (cO r i.n) (cO r i.m) 0 (jR i.a f)), f)
 else if i.op = 8 then (gC r i.d (jN i.op i.a i.imm (cO r i.d) (cO r i.n) (cO r i.m) (cO r i.a) false), f)
 else (gC r i.d (jN i.op i.a i.imm (cO r i.d) (cO r i.n) (cO r i.m) 0 false), f)
structure MI.Ok (i : MI) : Prop where
 d : 0 ≤ i.d ∧ i.d ≤ 31
 n : 0 ≤ i.n ∧ i.n ≤ 31
 m : 0 ≤ i.m ∧ i.m ≤ 31
 a : 0 ≤ i.a ∧ i.a ≤ 31
 fits : fits i.op i.a i.imm
structure RgOk (r : List Nat) : Prop where
 len : r.length = 31
 lt : ∀ x ∈ r, x < 18446744073709551616
theorem RgOk.get {r : List Nat} (h : RgOk r) (j : Int) : cO r j < 18446744073709551616 := by
 unfold cO
 split
 ·decide
 ·rw [List.getD_eq_getElem?_getD]
  cases hq : r[j.toNat]? with
  | none => decide
  | some x => exact h.lt x (List.mem_of_getElem? hq)
theorem jG {i : MI} (h : aT i = true) : (1 ≤ i.op ∧ i.op ≤ 24) ∧ i.Ok := by
 obtain ⟨op, d, n, m, a, imm⟩ := i
 unfold aT at h
 rw [Bool.and_eq_true] at h
 have h24 : 1 ≤ op ∧ op ≤ 24 := of_decide_eq_true h.1
 refine ⟨h24, ?_⟩
 obtain ⟨_, h⟩ := h
 rcases xA h24 with rfl | rfl | rfl | rfl | rfl | rfl | rfl | rfl | rfl | rfl | rfl | rfl | rfl | rfl | rfl | rfl | rfl | rfl | rfl | rfl | rfl | rfl | rfl | rfl
 all_goals (
  simp [aO, fD, gI, dU, gS, fC, dS] at h
  constructor <;> simp [fits] <;> omega)
def aJe (i : MI) (r : List Nat) (f : FL) : List Nat × FL × Bool :=
 if aT i = true ∧ i.op ≤ 17 then ((dD i r f).1, (dD i r f).2, true) else (List.replicate 31 0, jO, false)
abbrev pT (q : List Nat × FL × Bool) : AV := .tup [eQ q.1, q.2.1.a, .bool q.2.2]
theorem aHu {j : Nat} {H : aF} {r : List Nat} (hr : r.length = 31) (e : H[j]? = some ⟨44, 31, [eQ r]⟩) : aC G true 31 (.ptr j 1 0 0) H = some (eQ r) := by
 unfold aC
 simp only [e, List.length_singleton, if_true, List.getElem?_cons_zero, AV.cells, mW]
 show (if 0 + 31 ≤ (bT r).length then some (AV.agg (List.take 31 (List.drop 0 (bT r)))) else none) = _
 rw [if_pos (by rw [bN, hr]; omega), List.drop_zero, List.take_of_length_le (by rw [bN, hr]; omega)]
theorem zF {r : List Nat} (h : RgOk r) (j : Int) (x : Nat) (hx : x < 18446744073709551616) : RgOk (gC r j x) := by
 unfold gC
 split
 ·exact h
 ·refine ⟨by simp [h.len], fun y hy => ?_⟩
  rcases List.mem_or_eq_of_mem_set hy with h1 | rfl
  ·exact h.lt y h1
  ·exact hx
theorem aIO (op a imm : Int) (d n m x : Nat) (h : Bool) (hd : d < 18446744073709551616) (hn : n < 18446744073709551616) (hm : m < 18446744073709551616) : jN op a imm d n m x h < 18446744073709551616 := by
 have hM : ∀ n : Nat, n % 18446744073709551616 < 18446744073709551616 := fun n => Nat.mod_lt _ (by decide)
 unfold jN
 by_cases e1 : op = 1
 ·rw [if_pos e1]; exact hM _
 rw [if_neg e1]
 by_cases e2 : op = 2
 ·rw [if_pos e2]; exact jD _
 rw [if_neg e2]
 by_cases e3 : op = 3
 ·rw [if_pos e3]; exact hM _
 rw [if_neg e3]
 by_cases e4 : op = 4
 ·rw [if_pos e4]; exact hM _
 rw [if_neg e4]
 by_cases e5 : op = 5
 ·rw [if_pos e5]; exact Nat.lt_of_le_of_lt Nat.and_le_left hn
 rw [if_neg e5]
 by_cases e6 : op = 6
 ·rw [if_pos e6]; exact Nat.or_lt_two_pow (n := 64) hn hm
 rw [if_neg e6]
 by_cases e7 : op = 7
 ·rw [if_pos e7]; exact Nat.xor_lt_two_pow (n := 64) hn hm
 rw [if_neg e7]
 by_cases e8 : op = 8
 ·rw [if_pos e8]; exact hM _
 rw [if_neg e8]
 by_cases e9 : op = 9
 ·rw [if_pos e9]; exact Nat.div_lt_of_lt_mul (Nat.mul_lt_mul'' hn hm)
 rw [if_neg e9]
 by_cases e10 : op = 10
 ·rw [if_pos e10]; exact hM _
 rw [if_neg e10]
 by_cases e11 : op = 11
 ·rw [if_pos e11]; exact hM _
 rw [if_neg e11]
 by_cases e12 : op = 12
 ·rw [if_pos e12]; exact hM _
 rw [if_neg e12]
 by_cases e13 : op = 13
 ·rw [if_pos e13]; exact Nat.lt_of_le_of_lt (Nat.div_le_self _ _) hn
 rw [if_neg e13]
 by_cases e14 : op = 14
 ·rw [if_pos e14]; exact jD _
 rw [if_neg e14]
 by_cases e16 : op = 16
 ·rw [if_pos e16]; cases h
  ·exact hm
  ·exact hn
 rw [if_neg e16]; cases h <;> decide
theorem aEh (i : MI) {r : List Nat} (h : RgOk r) (f : FL) : RgOk (dD i r f).1 := by
 have m := fun x hh => aIO i.op i.a i.imm (cO r i.d) (cO r i.n) (cO r i.m) x hh (h.get _) (h.get _) (h.get _)
 unfold dD
 split
 ·exact h
 ·split
  ·exact zF h _ _ (m _ _)
  ·split
   ·exact zF h _ _ (m _ _)
   ·exact zF h _ _ (m _ _)
end
instance : Inhabited MI := ⟨⟨0, 0, 0, 0, 0, 0⟩⟩
def kW (p : Int × Int) : AV := .agg [I6 p.1, I6 p.2]
def iM (l : List (Int × Int)) : List AV := l.map kW
def dE (cs : List MI) : List AV := cs.map MI.v
theorem kO (l : List (Int × Int)) : (iM l).length = l.length := by simp [iM]
theorem jA (l : List MI) : (dE l).length = l.length := by simp [dE]
theorem oH (n : Nat) (l : List (Int × Int)) : dH n (iM l) = true := lV n _ (fun _ => rfl) l
theorem mR (n : Nat) (l : List MI) : dH n (dE l) = true := lV n _ (fun _ => rfl) l
structure QS where
 code : Int
 mem : List Nat
 regs : List Nat
 leaks : List (Int × Int)
 steps : Nat
 flags : FL
 at_ : Int
def QS.leak (s : QS) (kind at_ : Int) : QS := { s with leaks := s.leaks ++ [(kind, at_)] }
def QS.goes (s : QS) (i : MI) : Bool := if i.op = 21 then jR i.a s.flags else if i.op = 22 then decide (cO s.regs i.d = 0) else decide (cO s.regs i.d ≠ 0)
def QS.addr (s : QS) (i : MI) : Nat := (cO s.regs i.n + 8 * u64 i.imm % 18446744073709551616) % 18446744073709551616
def QS.touch (s : QS) (i : MI) : QS × Bool :=
 let s1 := s.leak 3 (mT (s.addr i))
 if s.addr i % 8 ≠ 0 ∨ s.mem.length ≤ s.addr i / 8 then ({ s1 with code := 3 }, false)
 else if i.op = 18 then ({ s1 with regs := gC s.regs i.d (s.mem.getD (s.addr i / 8) 0) }, true)
 else ({ s1 with mem := s.mem.set (s.addr i / 8) (cO s.regs i.d) }, true)
def QS.branch (s : QS) (i : MI) : QS :=
 if i.op = 20 then { s with at_ := s.at_ + (i.imm - 1) }
 else if s.goes i = true then { s.leak 2 1 with at_ := s.at_ + (i.imm - 1) }
 else s.leak 2 0
def QS.act (s : QS) (i : MI) : QS × Bool :=
 if i.op = 18 ∨ i.op = 19 then s.touch i
 else if i.op = 20 ∨ i.op = 21 ∨ i.op = 22 ∨ i.op = 23 then (s.branch i, true)
 else if i.op = 24 then ({ s with code := if i.imm ≤ 2 then i.imm else 3 }, false)
 else ({ s with regs := (dD i s.regs s.flags).1, flags := (dD i s.regs s.flags).2 }, true)
def QS.next (s : QS) : QS := { s with at_ := s.at_ + 1 }
def QS.step (s : QS) (w : Int) : QS × Bool :=
 match ofF w with
 | none => ({ s with code := 3 }, false)
 | some i => s.next.act i
def QS.tail (n : Nat) (s : QS) : List AV := [.sl 6 s.leaks.length 0 s.leaks.length 2, Nn s.steps, .bool s.flags.n, .bool s.flags.z, .bool s.flags.c, .bool s.flags.v, I6 s.at_, .sl 1 n 0 n 6]
def QS.cells (n : Nat) (s : QS) : List AV := I6 s.code :: .sl 4 s.mem.length 0 s.mem.length 1 :: (bT s.regs ++ s.tail n)
section
variable (G : aG) (b0 : ABlk) (T : aF) (kn : List MI) (s : QS)
variable (hr : s.regs.length = 31)
end
section
variable (G : aG) (b0 : ABlk) (T : aF) (hb : dH 7 b0.elems = true) (hT : ∀ n, 7 ≤ n → dY n T = true) (kn : List MI) (s : QS)
end
structure QS.Ok (s : QS) : Prop where
 rg : RgOk s.regs
 mem : ∀ x ∈ s.mem, x < 18446744073709551616
 leaks : s.leaks.length ≤ 3 * s.steps
 big : s.mem.length ≤ 1000000
 few : s.steps ≤ 100000
section
variable (G : aG) (b0 : ABlk) (T : aF) (hb : dH 7 b0.elems = true) (hT : ∀ n, 7 ≤ n → dY n T = true) (kn : List MI) (s : QS) (i : MI) (hr : RgOk s.regs) (hl : s.leaks.length ≤ 999990)
theorem bx (H : aF) : dV i.v H = some (.rp false i.v 0, H) := rfl
theorem aIk (P : Program) (t : Nat) (c : Bool) (a : Nat) : aQ P .rem t c (Un a) (.int .u64 8) = some (Un (a % 8)) := by
 rw [aCp _ _ _ _ _ _ (by decide), Int.tmod_eq_emod_of_nonneg (by omega)]; rfl
theorem aJL (P : Program) (t : Nat) (c : Bool) (a : Nat) (ha : a < 18446744073709551616) : aQ P .quo t c (Un a) (.int .u64 8) = some (Un (a / 8)) := by
 rw [aLv _ _ _ _ _ _ (by decide), Int.tdiv_eq_ediv_of_nonneg (by omega), fF (by omega) (by omega)]; rfl
end
section
variable (G : aG) (b0 : ABlk) (T : aF) (hb : dH 7 b0.elems = true) (hT : ∀ n, 7 ≤ n → dY n T = true) (kn : List MI) (s : QS) (i : MI) (hr : RgOk s.regs) (hl : s.leaks.length ≤ 999990)
end
structure KN (cs : List Int) (kn : List MI) : Prop where
 len : kn.length = cs.length
 is : ∀ j, j < cs.length → (kn.getD j default).op = 0 ∨ ofF (cs.getD j 0) = some (kn.getD j default)
theorem aHr {i : MI} (h : aT i = true) : -100000000 ≤ i.imm ∧ i.imm ≤ 100000000 := by
 have h24 := qO h
 obtain ⟨op, d, n, m, a, imm⟩ := i
 unfold aT at h
 rw [Bool.and_eq_true] at h
 obtain ⟨_, h⟩ := h
 rcases xA h24 with rfl | rfl | rfl | rfl | rfl | rfl | rfl | rfl | rfl | rfl | rfl | rfl | rfl | rfl | rfl | rfl | rfl | rfl | rfl | rfl | rfl | rfl | rfl | rfl
 all_goals (
  simp [aO, fD, gI, dU, gS, fC, dS] at h
  simp only
  omega)
section
variable (G : aG) (b0 : ABlk) (kn : List MI) (s : QS) (i : MI)
abbrev TB (i : MI) : aF := [⟨57, 6, [i.v]⟩]
end
theorem zC {l : List Nat} {j x : Nat} (h : ∀ y ∈ l, y < 18446744073709551616) (hx : x < 18446744073709551616) : ∀ y ∈ l.set j x, y < 18446744073709551616 := by
 intro y hy
 rcases List.mem_or_eq_of_mem_set hy with h1 | rfl
 ·exact h y h1
 ·exact hx
theorem QS.Ok.mg {s : QS} (h : s.Ok) (i : Nat) : s.mem.getD i 0 < 18446744073709551616 := by
 rw [List.getD_eq_getElem?_getD]
 cases hq : s.mem[i]? with
 | none => decide
 | some x => exact h.mem x (List.mem_of_getElem? hq)
theorem QS.step_ok {s : QS} (h : s.Ok) (w : Int) (hl : s.leaks.length + 1 ≤ 3 * s.steps) : (s.step w).1.Ok ∧ (s.step w).1.steps = s.steps ∧ (s.step w).1.mem.length = s.mem.length := by
 have hl' : s.leaks.length ≤ 3 * s.steps := by omega
 unfold QS.step
 cases ofF w with
 | none => exact ⟨⟨h.rg, h.mem, hl', h.big, h.few⟩, rfl, rfl⟩
 | some i =>
  simp only
  unfold QS.act
  split
  ·unfold QS.touch
   generalize s.next.addr i = ad
   simp only
   split
   ·exact ⟨⟨h.rg, h.mem, by simpa [QS.leak, QS.next] using hl, h.big, h.few⟩, rfl, rfl⟩
   ·split
    ·exact ⟨⟨zF h.rg _ _ (h.mg _), h.mem, by simpa [QS.leak, QS.next] using hl, h.big, h.few⟩, rfl, rfl⟩
    ·exact ⟨⟨h.rg, zC h.mem (h.rg.get _), by simpa [QS.leak, QS.next] using hl, by simpa [QS.leak, QS.next] using h.big, h.few⟩, rfl, by simp [QS.leak, QS.next]⟩
  ·split
   ·unfold QS.branch
    split
    ·exact ⟨⟨h.rg, h.mem, hl', h.big, h.few⟩, rfl, rfl⟩
    ·split
     ·exact ⟨⟨h.rg, h.mem, by simpa [QS.leak, QS.next] using hl, h.big, h.few⟩, rfl, rfl⟩
     ·exact ⟨⟨h.rg, h.mem, by simpa [QS.leak, QS.next] using hl, h.big, h.few⟩, rfl, rfl⟩
   ·split
    ·exact ⟨⟨h.rg, h.mem, hl', h.big, h.few⟩, rfl, rfl⟩
    ·exact ⟨⟨aEh i h.rg s.flags, h.mem, hl', h.big, h.few⟩, rfl, rfl⟩
def QS.tick (s : QS) : QS := ({ s with steps := s.steps + 1 } : QS).leak 1 s.at_
def pR (cs : List Int) (fuel : Int) : Nat → QS → Option QS
 | 0, _ => none
 | f + 1, s =>
  if s.at_ < 0 ∨ (cs.length : Int) ≤ s.at_ then some { s with code := 3 }
  else if (s.steps : Int) = fuel then some { s with code := 4 }
  else match s.tick.step (cs.getD s.at_.toNat 0) with
   | (s', true) => pR cs fuel f s'
   | (s', false) => some s'
def iC (cs : List Int) : List AV := cs.map cX
theorem qA (cs : List Int) : (iC cs).length = cs.length := by simp [iC]
theorem nL (n : Nat) (cs : List Int) : dH n (iC cs) = true := lV n _ (fun _ => rfl) cs
def rsL (m l : AV) (s : QS) : List AV := I6 s.code :: m :: (bT s.regs ++ [l, Nn s.steps])
theorem aKS (m l : AV) (s : QS) (hr : s.regs.length = 31) : (rsL m l s).length = 35 := by simp [rsL, bN, hr]
def bR (T : Nat) (cs : List AV) : ABlk := ⟨T, 35, [.agg cs]⟩
def zR : List AV := I6 0 :: .nils :: (bT (List.replicate 31 0) ++ [.sl 5 0 0 0 2, .int .i64 0])
section
variable (G : aG)
theorem wAt (bor : Bool) (cs : List Int) (j : Int) (h0 : 0 ≤ j) (h : j < cs.length) : cJ 1 (.ro bor (iC cs)) (I6 j) = some (.rp bor (cX (cs.getD j.toNat 0)) 0) := by
 have e : (iC cs)[j.toNat]? = some (cX (cs.getD j.toNat 0)) := by
  have : j.toNat < cs.length := by omega
  simp [iC, List.getElem?_map, List.getD, List.getElem?_eq_getElem this]
 unfold cJ
 simp only [e]
 rw [if_pos h0]
 rfl
end
theorem aBP (cs : List Int) (fuel : Int) : ∀ (f : Nat) (s : QS), (s.steps : Int) ≤ fuel → fuel - s.steps < f → ∃ s', pR cs fuel f s = some s'
 | 0, s, h, h2 => by omega
 | f + 1, s, h, h2 => by
  simp only [pR]
  by_cases h1 : s.at_ < 0 ∨ (cs.length : Int) ≤ s.at_
  ·rw [if_pos h1]; exact ⟨_, rfl⟩
  rw [if_neg h1]
  by_cases h3 : (s.steps : Int) = fuel
  ·rw [if_pos h3]; exact ⟨_, rfl⟩
  rw [if_neg h3]
  have e : ∀ w, (s.tick.step w).1.steps = s.steps + 1 := fun w => by
   unfold QS.step
   cases ofF w with
   | none => rfl
   | some i =>
    simp only
    unfold QS.act QS.touch QS.branch
    repeat' split
    all_goals rfl
  have e' := e (cs.getD s.at_.toNat 0)
  obtain ⟨s2, b, hsb⟩ : ∃ s2 b, s.tick.step (cs.getD s.at_.toNat 0) = (s2, b) := ⟨_, _, rfl⟩
  rw [hsb] at e' ⊢
  cases b
  ·exact ⟨_, rfl⟩
  ·exact aBP cs fuel f s2 (by simp only at e'; omega) (by simp only at e'; omega)
def q0 (c : Int) (mem : List Nat) : QS := ⟨c, mem, List.replicate 31 0, [], 0, jO, 0⟩
theorem aLO (c : Int) (mem : List Nat) (hm : ∀ x ∈ mem, x < 18446744073709551616) (hl : mem.length ≤ 1000000) : (q0 c mem).Ok :=
 ⟨⟨by simp [q0], fun x hx => by simp [q0] at hx; omega⟩, hm, by simp [q0], hl, by simp [q0]⟩
theorem aGC (l : List Nat) : pV 1 (bT l) = true := sK 1 _ (fun _ => rfl) l
theorem aGR (l : List (Int × Int)) : pV 2 (iM l) = true := sK 2 _ (fun _ => rfl) l
theorem aGw (l : List (Int × Int)) : jH (iM l) = true := pD _ (fun _ => rfl) l
def aHa (s : QS) : AV := .agg (rsL (.ro false (bT s.mem)) (.ro false (iM s.leaks)) s)
theorem aAB : ∀ xs ys : List AV, jH xs = true → jH ys = true → jH (xs ++ ys) = true
 | [], ys, _, h => h
 | x :: xs, ys, h1, h2 => by
  simp only [jH, Bool.and_eq_true] at h1
  simp [jH, h1.1, aAB xs ys h1.2 h2]
theorem aFm (s : QS) : fZ (aHa s) = true := by
 simp [aHa, rsL, fZ, jH, kR, aGw, aAB]
theorem aEC {f : AV → Option AV} : ∀ {xs xs' ys ys' : List AV}, nP f xs = some xs' → nP f ys = some ys' → nP f (xs ++ ys) = some (xs' ++ ys')
 | [], xs', ys, ys', h1, h2 => by simp [nP] at h1; subst h1; exact h2
 | x :: xs, xs', ys, ys', h1, h2 => by
  simp only [nP] at h1
  cases hx : f x with
  | none => simp [hx] at h1
  | some y =>
   cases hs : nP f xs with
   | none => simp [hx, hs] at h1
   | some zs =>
    simp [hx, hs] at h1; subst h1
    simp only [List.cons_append, nP, hx, aEC hs h2]
end Go.Proofs.YtdfglgnflldkpaaDoor.Mir
