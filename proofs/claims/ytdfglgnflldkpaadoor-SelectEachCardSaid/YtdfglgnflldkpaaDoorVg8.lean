/- Part 8 of the proof: what these functions do. -/
import Derived.Test.YtdfglgnflldkpaaDoorVg7
import Derived.Test.YtdfglgnflldkpaaDoorRows
import Derived.KernelRfl
import Derived.SizedLaws
namespace Go.Proofs.YtdfglgnflldkpaaDoor
open Go Go.ChangeShapes Go.WideShapes Go.RowKit Mir
set_option linter.unusedVariables false
set_option linter.unusedSimpArgs false
namespace Rk
theorem own : ownKnob Tryd.prog.godebug = none := by kernel_rfl
theorem laidOut : laidOutB Tryd.prog = true := by kernel_rfl
theorem aNI : "*" ++ "errors.errorString" = "*errors.errorString" := by decide
theorem row (u : TypeId) (h : Tryd.prog.typeName? 3 u = some "*errors.errorString") : u = 180 :=
 typeName_ptr_named (nm := "errors.errorString") (by rw [aNI]; kernel_rfl) (by kernel_rfl) (by decide) u (by rw [aNI]; exact h)
noncomputable def low : Nat := (World.holding Tryd.prog default ⟨#[], #[], []⟩).heap.size
end Rk
end Go.Proofs.YtdfglgnflldkpaaDoor
namespace Go.Proofs.YtdfglgnflldkpaaDoor.Mir
open Go
set_option linter.unusedSimpArgs false
set_option linter.unusedVariables false
set_option maxHeartbeats 8000000
set_option maxRecDepth 20000
abbrev I6 (n : Int) : AV := .int .i64 n
abbrev Nn (n : Nat) : AV := .int .i64 (n : Int)
abbrev Un (n : Nat) : AV := .int .u64 (n : Int)
abbrev cX (n : Int) : AV := .int .u32 n
structure MI where
 op : Int
 d : Int
 n : Int
 m : Int
 a : Int
 imm : Int
abbrev mV (op d n m a imm : Int) : AV := .agg [I6 op, I6 d, I6 n, I6 m, I6 a, I6 imm]
def MI.v (i : MI) : AV := mV i.op i.d i.n i.m i.a i.imm
structure Form where
 nm : ByteArray
 w : Int
 d : Bool
 n : Bool
 m : Bool
 a : Bool
 b : Int
def Form.v (f : Form) : AV := .agg [.str f.nm, cX f.w, .bool f.d, .bool f.n, .bool f.m, .bool f.a, I6 f.b]
def aN (op : Int) : Form :=
 if op = 1 then ⟨⟨#[109, 111, 118, 122]⟩, 3531603968, true, false, false, true, 16⟩ else
 if op = 2 then ⟨⟨#[109, 111, 118, 107]⟩, 4068474880, true, false, false, true, 16⟩ else
 if op = 3 then ⟨⟨#[97, 100, 100]⟩, 2332033024, true, true, true, false, 0⟩ else
 if op = 4 then ⟨⟨#[115, 117, 98]⟩, 3405774848, true, true, true, false, 0⟩ else
 if op = 5 then ⟨⟨#[97, 110, 100]⟩, 2315255808, true, true, true, false, 0⟩ else
 if op = 6 then ⟨⟨#[111, 114, 114]⟩, 2852126720, true, true, true, false, 0⟩ else
 if op = 7 then ⟨⟨#[101, 111, 114]⟩, 3388997632, true, true, true, false, 0⟩ else
 if op = 8 then ⟨⟨#[109, 97, 100, 100]⟩, 2600468480, true, true, true, true, 0⟩ else
 if op = 9 then ⟨⟨#[117, 109, 117, 108, 104]⟩, 2613083136, true, true, true, false, 0⟩ else
 if op = 10 then ⟨⟨#[97, 100, 100, 105]⟩, 2432696320, true, true, false, false, 12⟩ else
 if op = 11 then ⟨⟨#[115, 117, 98, 105]⟩, 3506438144, true, true, false, false, 12⟩ else
 if op = 12 then ⟨⟨#[108, 115, 108]⟩, 3544186880, true, true, false, false, 6⟩ else
 if op = 13 then ⟨⟨#[108, 115, 114]⟩, 3544186880, true, true, false, false, 6⟩ else
 if op = 14 then ⟨⟨#[97, 115, 114]⟩, 2470509568, true, true, false, false, 6⟩ else
 if op = 15 then ⟨⟨#[99, 109, 112]⟩, 3942645791, false, true, true, false, 0⟩ else
 if op = 16 then ⟨⟨#[99, 115, 101, 108]⟩, 2592079872, true, true, true, true, 0⟩ else
 if op = 17 then ⟨⟨#[99, 115, 101, 116]⟩, 2594113504, true, false, false, true, 0⟩ else
 if op = 18 then ⟨⟨#[108, 100, 114]⟩, 4181721088, true, true, false, false, 12⟩ else
 if op = 19 then ⟨⟨#[115, 116, 114]⟩, 4177526784, true, true, false, false, 12⟩ else
 if op = 20 then ⟨⟨#[98]⟩, 335544320, false, false, false, false, 26⟩ else
 if op = 21 then ⟨⟨#[98, 99, 99]⟩, 1409286144, false, false, false, true, 19⟩ else
 if op = 22 then ⟨⟨#[99, 98, 122]⟩, 3019898880, true, false, false, false, 19⟩ else
 if op = 23 then ⟨⟨#[99, 98, 110, 122]⟩, 3036676096, true, false, false, false, 19⟩ else
 if op = 24 then ⟨⟨#[104, 108, 116]⟩, 3560964096, false, false, false, false, 16⟩ else
 ⟨⟨#[]⟩, 0, false, false, false, false, 0⟩
def jQ (op : Int) : Bool := decide (1 ≤ op ∧ op ≤ 24)
theorem xE {op : Int} (h : 1 ≤ op ∧ op ≤ 24) : op = 1 ∨ op = 2 ∨ op = 3 ∨ op = 4 ∨ op = 5 ∨ op = 6 ∨ op = 7 ∨ op = 8 ∨ op = 9 ∨ op = 10 ∨ op = 11 ∨ op = 12 ∨ op = 13 ∨ op = 14 ∨ op = 15 ∨ op = 16 ∨ op = 17 ∨ op = 18 ∨ op = 19 ∨ op = 20 ∨ op = 21 ∨ op = 22 ∨ op = 23 ∨ op = 24 := by omega
theorem pK {op : Int} (h : ¬ (1 ≤ op ∧ op ≤ 24)) : aN op = ⟨⟨#[]⟩, 0, false, false, false, false, 0⟩ := by
 unfold aN
 simp (disch := omega) only [if_neg]
theorem fS (op : Int) : (aN op).b = 0 ∨ (aN op).b = 6 ∨ (aN op).b = 12 ∨ (aN op).b = 16 ∨ (aN op).b = 19 ∨ (aN op).b = 26 := by
 by_cases h : 1 ≤ op ∧ op ≤ 24
 ·rcases xE h with rfl | rfl | rfl | rfl | rfl | rfl | rfl | rfl | rfl | rfl | rfl | rfl | rfl | rfl | rfl | rfl | rfl | rfl | rfl | rfl | rfl | rfl | rfl | rfl <;> simp [aN]
 ·rw [pK h]; simp
theorem aJv (G : aI) (k : Nat) (op : Int) (h : ¬ (1 ≤ op ∧ op ≤ 24)) : eZ.f G (k + 4) [I6 op] [] = some (.tup [.agg [.str ⟨#[]⟩, cX 0, .bool false, .bool false, .bool false, .bool false, I6 0], .bool false], []) := by
 have pl : fH.f G (k + 3) [I6 op] [] = some (.tup [.agg [.str ⟨#[]⟩, cX 0, .bool false, .bool false, .bool false, .bool false, I6 0], .bool false], []) := by
  rw [fH.step]
  unfold fH.c
  refine dX ?_
  have fx := True.intro
  refine gC ?_
  all_goals first | omega | (refine oF ?_; rfl)
 rw [eZ.step]
 unfold eZ.c
 have r : ∀ H, aE (fH.f G (k + 3)) [I6 op] H = _ := fun H => aD (H := H) pl rfl rfl
 refine dX ?_
 have fx := r
 refine gC ?_
 all_goals first | omega | (refine oF ?_; rfl)
theorem hU (G : aI) (k : Nat) (op : Int) : eZ.f G (k + 4) [I6 op] [] = some (.tup [(aN op).v, .bool (jQ op)], []) := by
 by_cases h : 1 ≤ op ∧ op ≤ 24
 ·rcases xE h with rfl | rfl | rfl | rfl | rfl | rfl | rfl | rfl | rfl | rfl | rfl | rfl | rfl | rfl | rfl | rfl | rfl | rfl | rfl | rfl | rfl | rfl | rfl | rfl <;> (clear h; show _ = _; kernel_rfl)
 ·have e : jQ op = false := decide_eq_false h
  rw [pK h, e]
  exact aJv G k op h
def fP (r : Int) (is : Bool) : Bool := decide (r = 0 ∨ (is = true ∧ 0 < r ∧ r ≤ 31))
theorem aAz (G : aI) (k : Nat) (r : Int) (is : Bool) : dJ.f G (k + 1) [I6 r, .bool is] [] = some (.bool (fP r is), []) := by
 rw [dJ.step]
 unfold dJ.c fP
 refine dX ?_
 cases is
 all_goals (
  repeat' first
   | (with_reducible first | refine eT ?_ | refine eN ?_ | refine eS ?_ | refine eXn ?_ | refine eXr ?_ | refine eX ?_ | refine eI ?_ | refine eK ?_ | refine eV0 ?_ | refine wX ?_ | refine xA ?_ | refine wU ?_ | refine wZ ?_ | refine wV ?_ | refine wW ?_)
   | ((with_reducible apply eCn); (simp only [eG, eF]; first | done | (with_reducible exact rfl)))
   | ((with_reducible apply eJ); (rfl))
   | ((with_reducible apply wY); (first | rfl | (simp only [eG, eF]; rfl)))
   | ((with_reducible apply eB); (first | (with_reducible exact rfl) | (simp (disch := omega) only [qa, jM, AV.cells, fF, aZ, kZ, eP, fN, kS, Nat.reduceLeDiff, Nat.reduceLT, Nat.reduceAdd, ↓reduceIte]; first | done | (with_reducible exact rfl) | (with_reducible exact ⟨rfl, rfl⟩))))
   | ((with_reducible apply eR); (simp only [eG, eF]; (with_reducible exact rfl)))
   | ((with_reducible first | refine zS ?_ ?_ | refine zX ?_ ?_ | refine zW ?_ ?_ | refine zV ?_ ?_ | refine zU ?_ ?_ | refine zT ?_ ?_ | refine zY ?_ ?_ | refine qZ ?_ ?_ | refine sGd ?_ ?_ | refine qK ?_ ?_) <;> intro hq <;> try subst hq)
  all_goals (refine xG ?_; simp; try omega))
def dA (op a : Int) : Bool :=
 if op = 1 ∨ op = 2 then decide (0 ≤ a ∧ a ≤ 3)
 else if op = 16 ∨ op = 17 ∨ op = 21 then decide ((0 ≤ a ∧ a ≤ 3) ∨ a = 8 ∨ a = 9)
 else decide (0 ≤ a ∧ a ≤ 31)
theorem aEh (G : aI) (k : Nat) (op d n m a imm : Int) : fG.f G (k + 1) [mV op d n m a imm] [] = some (.bool (dA op a), []) := by
 rw [fG.step]
 unfold fG.c dA
 refine dX ?_
 by_cases h1 : op = 1 ∨ op = 2
 ·rw [if_pos h1]
  have fx := True.intro
  exact wkC
 rw [if_neg h1]
 by_cases h2 : op = 16 ∨ op = 17 ∨ op = 21
 ·rw [if_pos h2]
  have fx := True.intro
  exact wkC
 rw [if_neg h2]
 have fx := True.intro
 exact wkC
def dB (op d n : Int) : Bool := decide (((op = 10 ∨ op = 11) ∧ (d = 31 ∨ n = 31)) ∨ ((op = 18 ∨ op = 19) ∧ n = 31))
theorem aEN (G : aI) (k : Nat) (op d n m a imm : Int) : fI.f G (k + 1) [mV op d n m a imm] [] = some (.bool (dB op d n), []) := by
 rw [fI.step]
 unfold fI.c dB
 refine dX ?_
 have fx := True.intro
 exact wkC
theorem aDJ (G : aI) (k : Nat) (op : Int) : eO.f G (k + 1) [I6 op] [] = some (.bool (decide (20 ≤ op ∧ op ≤ 23)), []) := by
 rw [eO.step]
 unfold eO.c
 refine dX ?_
 have fx := True.intro
 exact wkC
def dU (b : Int) : Int := if b = 6 then 32 else if b = 12 then 2048 else if b = 16 then 32768 else if b = 19 then 262144 else 33554432
def fW (op imm b : Int) : Bool :=
 if b = 0 then decide (imm = 0)
 else if 20 ≤ op ∧ op ≤ 23 then decide (-(dU b) ≤ imm ∧ imm < dU b)
 else decide (0 ≤ imm ∧ imm < 2 * dU b)
theorem aHj (G : aI) (k : Nat) (op d n m a imm b : Int) (hb : b = 0 ∨ b = 6 ∨ b = 12 ∨ b = 16 ∨ b = 19 ∨ b = 26) : gO.f G (k + 2) [mV op d n m a imm, I6 b] [] = some (.bool (fW op imm b), []) := by
 rw [gO.step]
 unfold gO.c fW
 have r : ∀ H, aE (eO.f G (k + 1)) [I6 op] H = _ := fun H => aD (H := H) (aDJ G k op) rfl rfl
 refine dX ?_
 by_cases h0 : b = 0
 ·rw [if_pos h0]
  have fx := True.intro
  exact wkC
 rw [if_neg h0]
 have hb' : b = 6 ∨ b = 12 ∨ b = 16 ∨ b = 19 ∨ b = 26 := by omega
 obtain ⟨z, hz, s1, s2, s3, s4⟩ : ∃ z : Int, dU b = z ∧ aQ Tryd.prog .sub 3 true (I6 b) (.int .i64 1) = some (I6 (b - 1)) ∧ aQ Tryd.prog .shl 3 true (.int .i64 1) (I6 (b - 1)) = some (I6 z) ∧ un .neg (I6 z) = some (I6 (-z)) ∧ aQ Tryd.prog .shl 3 true (.int .i64 1) (I6 b) = some (I6 (2 * z)) := by
  clear hb h0 r
  rcases hb' with rfl | rfl | rfl | rfl | rfl
  ·exact ⟨32, rfl, by kernel_rfl, by kernel_rfl, by kernel_rfl, by kernel_rfl⟩
  ·exact ⟨2048, rfl, by kernel_rfl, by kernel_rfl, by kernel_rfl, by kernel_rfl⟩
  ·exact ⟨32768, rfl, by kernel_rfl, by kernel_rfl, by kernel_rfl, by kernel_rfl⟩
  ·exact ⟨262144, rfl, by kernel_rfl, by kernel_rfl, by kernel_rfl, by kernel_rfl⟩
  ·exact ⟨33554432, rfl, by kernel_rfl, by kernel_rfl, by kernel_rfl, by kernel_rfl⟩
 rw [hz]
 clear hz hb hb'
 by_cases hs : 20 ≤ op ∧ op ≤ 23
 ·rw [if_pos hs]
  rw [decide_eq_true hs] at r
  have fx := aOO r <| aOO s1 <| aOO s2 <| aOO s3 <| s4
  exact wkC
 ·rw [if_neg hs]
  rw [decide_eq_false hs] at r
  have fx := aOO r <| aOO s1 <| aOO s2 <| aOO s3 <| s4
  exact wkC
def dS (i : MI) (f : Form) : Bool :=
 fP i.d f.d && fP i.n f.n && fP i.m f.m && (if f.a = true then dA i.op i.a else decide (i.a = 0)) && fW i.op i.imm f.b && !dB i.op i.d i.n
theorem fR (G : aI) (k : Nat) (op d n m a imm : Int) (f : Form) (hb : f.b = 0 ∨ f.b = 6 ∨ f.b = 12 ∨ f.b = 16 ∨ f.b = 19 ∨ f.b = 26) : dG.f G (k + 3) [mV op d n m a imm, f.v] [] = some (.bool (dS ⟨op, d, n, m, a, imm⟩ f), []) := by
 obtain ⟨nm, w, fd, fn, fm, fa, fb⟩ := f
 rw [dG.step]
 unfold dG.c dS Form.v
 have r1 : ∀ r is H, aE (dJ.f G (k + 2)) [I6 r, .bool is] H = _ := fun r is H => aD (H := H) (aAz G (k + 1) r is) rfl rfl
 have r2 : ∀ H, aE (fG.f G (k + 2)) [mV op d n m a imm] H = _ := fun H => aD (H := H) (aEh G (k + 1) op d n m a imm) rfl rfl
 have r3 : ∀ H, aE (gO.f G (k + 2)) [mV op d n m a imm, I6 fb] H = _ := fun H => aD (H := H) (aHj G k op d n m a imm fb hb) rfl rfl
 have r4 : ∀ H, aE (fI.f G (k + 2)) [mV op d n m a imm] H = _ := fun H => aD (H := H) (aEN G (k + 1) op d n m a imm) rfl rfl
 simp only
 generalize fW op imm fb = g3 at *
 generalize dA op a = g2 at *
 generalize dB op d n = g4 at *
 have c1 := r1 d fd
 have c2 := r1 n fn
 have c3 := r1 m fm
 generalize fP d fd = t1 at *
 generalize fP n fn = t2 at *
 generalize fP m fm = t3 at *
 clear r1
 refine dX ?_
 cases t1
 ·have fx := aOO c1 <| aOO c2 <| aOO c3 <| aOO r2 <| aOO r3 <| r4
  refine gC ?_
  exact xG (by simp)
 cases t2
 ·have fx := aOO c1 <| aOO c2 <| aOO c3 <| aOO r2 <| aOO r3 <| r4
  refine gC ?_
  exact xG (by simp)
 cases t3
 ·have fx := aOO c1 <| aOO c2 <| aOO c3 <| aOO r2 <| aOO r3 <| r4
  refine gC ?_
  exact xG (by simp)
 cases fa
 ·by_cases ha : a = 0
  ·subst ha
   cases g3
   ·have fx := aOO c1 <| aOO c2 <| aOO c3 <| aOO r2 <| aOO r3 <| r4
    refine gC ?_
    exact xG (by simp)
   ·cases g4
    ·have fx := aOO c1 <| aOO c2 <| aOO c3 <| aOO r2 <| aOO r3 <| r4
     refine gC ?_
     exact xG (by simp)
    ·have fx := aOO c1 <| aOO c2 <| aOO c3 <| aOO r2 <| aOO r3 <| r4
     refine gC ?_
     exact xG (by simp)
  ·have fx := aOO c1 <| aOO c2 <| aOO c3 <| aOO r2 <| aOO r3 <| r4
   refine gC ?_
   exact xG (by simp [ha])
 ·cases g2
  ·have fx := aOO c1 <| aOO c2 <| aOO c3 <| aOO r2 <| aOO r3 <| r4
   refine gC ?_
   exact xG (by simp)
  ·cases g3
   ·have fx := aOO c1 <| aOO c2 <| aOO c3 <| aOO r2 <| aOO r3 <| r4
    refine gC ?_
    exact xG (by simp)
   ·cases g4
    ·have fx := aOO c1 <| aOO c2 <| aOO c3 <| aOO r2 <| aOO r3 <| r4
     refine gC ?_
     exact xG (by simp)
    ·have fx := aOO c1 <| aOO c2 <| aOO c3 <| aOO r2 <| aOO r3 <| r4
     refine gC ?_
     exact xG (by simp)
def aT (i : MI) : Bool := jQ i.op && dS i (aN i.op)
theorem aNT (x : Int) : aJ .u32 (I6 x) = some (cX (IntKind.u32.wrap x)) := dW ..
theorem rL (a : Nat) (h : a < 4294967296) : (BitVec.ofInt 32 (a : Int)).toNat = a := by
 rw [BitVec.toNat_ofInt]
 omega
theorem aMw (a b : Nat) (ha : a < 4294967296) (hb : b < 4294967296) : IntKind.u32.wrap ((BitVec.ofInt 32 (a : Int) ||| BitVec.ofInt 32 (b : Int)).toNat : Int) = ((a ||| b : Nat) : Int) := by
 have hx : a ||| b < 2 ^ 32 := Nat.or_lt_two_pow (by omega) (by omega)
 rw [BitVec.toNat_or, rL a ha, rL b hb, mR (by omega) (by omega)]
theorem aKe (a b : Nat) (ha : a < 4294967296) (hb : b < 4294967296) : bits .and .u32 (a : Int) (b : Int) = ((a &&& b : Nat) : Int) := by
 have hx : a &&& b ≤ a := Nat.and_le_left
 show IntKind.u32.wrap ((BitVec.ofInt 32 (a : Int) &&& BitVec.ofInt 32 (b : Int)).toNat : Int) = _
 rw [BitVec.toNat_and, rL a ha, rL b hb, mR (by omega) (by omega)]
theorem aHC {x y : Nat} (h : x &&& y = 0) (hb : x + y < 2 ^ 64) : x ||| y = x + y := by
 have e : (BitVec.ofNat 64 x &&& BitVec.ofNat 64 y) = 0#64 := by
  apply BitVec.eq_of_toNat_eq
  rw [BitVec.toNat_and, BitVec.toNat_ofNat, BitVec.toNat_ofNat, Nat.mod_eq_of_lt (by omega), Nat.mod_eq_of_lt (by omega), h]
  rfl
 have h2 := BitVec.add_eq_or_of_and_eq_zero _ _ e
 have h3 := congrArg BitVec.toNat h2
 rw [BitVec.toNat_add, BitVec.toNat_or, BitVec.toNat_ofNat, BitVec.toNat_ofNat, Nat.mod_eq_of_lt (show x < 2 ^ 64 by omega), Nat.mod_eq_of_lt (show y < 2 ^ 64 by omega), Nat.mod_eq_of_lt hb] at h3
 exact h3.symm
def dj (x y : Int) : Prop := 0 ≤ x ∧ 0 ≤ y ∧ x.toNat &&& y.toNat = 0
theorem fU {x v p q : Int} (s w : Nat) (hp : p = ((2 ^ s : Nat) : Int)) (hq : q = ((2 ^ w : Nat) : Int)) (x0 : 0 ≤ x) (v0 : 0 ≤ v) (v1 : v < q) (hz : x / p % q = 0) : dj x (v * p) := by
 obtain ⟨X, rfl⟩ : ∃ X : Nat, x = X := ⟨x.toNat, by omega⟩
 obtain ⟨V, rfl⟩ : ∃ V : Nat, v = V := ⟨v.toNat, by omega⟩
 subst hp; subst hq
 have hV : V < 2 ^ w := by exact_mod_cast v1
 have hZ : X / 2 ^ s % 2 ^ w = 0 := by exact_mod_cast hz
 refine ⟨x0, by exact_mod_cast Nat.zero_le (V * 2 ^ s), ?_⟩
 have e : ((V : Int) * ((2 ^ s : Nat) : Int)).toNat = V * 2 ^ s := by rw [← Int.natCast_mul]; rfl
 rw [e, Int.toNat_natCast]
 apply Nat.eq_of_testBit_eq
 intro j
 rw [Nat.testBit_and, Nat.testBit_mul_two_pow, Nat.zero_testBit]
 by_cases hs : s ≤ j
 ·by_cases hw : j - s < w
  ·have h1 : (X / 2 ^ s % 2 ^ w).testBit (j - s) = X.testBit j := by
    rw [Nat.testBit_mod_two_pow, Nat.testBit_div_two_pow, Nat.sub_add_cancel hs]; simp [hw]
   rw [hZ, Nat.zero_testBit] at h1
   rw [← h1]; rfl
  ·have h1 : V.testBit (j - s) = false := Nat.testBit_lt_two_pow (Nat.lt_of_lt_of_le hV (Nat.pow_le_pow_right (by decide) (by omega)))
   rw [h1]; simp
 ·simp [hs]
theorem yK {x y z : Int} (h1 : dj x y) (h2 : dj x z) (h3 : dj y z) (hb : y + z < 18446744073709551616) : dj x (y + z) := by
 obtain ⟨x0, y0, h1⟩ := h1
 obtain ⟨_, z0, h2⟩ := h2
 obtain ⟨_, _, h3⟩ := h3
 refine ⟨x0, by omega, ?_⟩
 have e : (y + z).toNat = y.toNat + z.toNat := by omega
 rw [e, ← aHC h3 (by omega), Nat.and_or_distrib_left, h1, h2]
 rfl
theorem kF (P : Program) (t : Nat) (c : Bool) {x y : Int} (h : dj x y) (hb : x + y < 4294967296) : aQ P .or t c (cX x) (cX y) = some (cX (x + y)) := by
 obtain ⟨x0, y0, h⟩ := h
 obtain ⟨X, rfl⟩ : ∃ X : Nat, x = X := ⟨x.toNat, by omega⟩
 obtain ⟨Y, rfl⟩ : ∃ Y : Nat, y = Y := ⟨y.toNat, by omega⟩
 rw [Int.toNat_natCast, Int.toNat_natCast] at h
 rw [aBy]
 show some (AV.int .u32 (IntKind.u32.wrap ((BitVec.ofInt 32 (X : Int) ||| BitVec.ofInt 32 (Y : Int)).toNat : Int))) = _
 rw [aMw X Y (by omega) (by omega), aHC h (by omega)]
 rfl
theorem cY (P : Program) (t : Nat) (c : Bool) {x v p q : Int} (s w : Nat) (hp : p = ((2 ^ s : Nat) : Int)) (hq : q = ((2 ^ w : Nat) : Int)) (x0 : 0 ≤ x) (v0 : 0 ≤ v) (v1 : v < q) (hz : x / p % q = 0) (hb : x + v * p < 4294967296) :
  aQ P .or t c (cX x) (cX (v * p)) = some (cX (x + v * p)) := kF P t c (fU s w hp hq x0 v0 v1 hz) hb
theorem gJ (P : Program) (t : Nat) (c : Bool) {x v q : Int} (w : Nat) (hq : q = ((2 ^ w : Nat) : Int)) (x0 : 0 ≤ x) (v0 : 0 ≤ v) (v1 : v < q) (hz : x % q = 0) (hb : x + v < 4294967296) :
  aQ P .or t c (cX x) (cX v) = some (cX (x + v)) := by
 have h := fU (x := x) (v := v) (p := 1) 0 w rfl hq x0 v0 v1 (by rw [Int.ediv_one]; exact hz)
 rw [Int.mul_one] at h
 exact kF P t c h hb
theorem iT (P : Program) (t : Nat) (c : Bool) {x q : Int} (w : Nat) (hw : w ≤ 31) (hq : q = ((2 ^ w - 1 : Nat) : Int)) (x0 : 0 ≤ x) (x1 : x < 4294967296) : aQ P .and t c (cX x) (cX q) = some (cX (x % (q + 1))) := by
 obtain ⟨X, rfl⟩ : ∃ X : Nat, x = X := ⟨x.toNat, by omega⟩
 have hl : 2 ^ w ≤ 2 ^ 31 := Nat.pow_le_pow_right (by decide) hw
 have hl' : 0 < 2 ^ w := Nat.two_pow_pos w
 rw [nC, hq, aKe X _ (by omega) (by omega), Nat.and_two_pow_sub_one_eq_mod]
 congr 2
 have e : ((2 ^ w - 1 : Nat) : Int) + 1 = ((2 ^ w : Nat) : Int) := by omega
 rw [e]; rfl
theorem cN (P : Program) (t : Nat) (c : Bool) {v p b : Int} (s : Nat) (hb : b = (s : Int)) (hs : s ≤ 32) (hp : p = ((2 ^ s : Nat) : Int)) (h0 : 0 ≤ v * p) (h1 : v * p < 4294967296) : aQ P .shl t c (cX v) (.int .u64 b) = some (cX (v * p)) := by
 subst hb
 rw [aFf _ _ _ _ _ _ _ (Int.natCast_nonneg s), Int.toNat_natCast]
 have e : min s IntKind.u32.bits = s := Nat.min_eq_left hs
 have e2 : ((2 : Int) ^ s) = p := by rw [hp]; exact_mod_cast rfl
 rw [e, e2, mR h0 h1]
def eE (op a imm : Int) : Int :=
 if op = 1 ∨ op = 2 then a * 2097152 + imm * 32
 else if op = 8 then a * 1024
 else if op = 16 then a * 4096
 else if op = 17 then (if a % 2 = 0 then a + 1 else a - 1) * 4096
 else if op = 10 ∨ op = 11 ∨ op = 18 ∨ op = 19 then imm * 1024
 else if op = 12 then (64 - imm) % 64 * 65536 + (63 - imm) * 1024
 else if op = 13 then imm * 65536 + 64512
 else if op = 14 then imm * 65536
 else if op = 20 then imm % 67108864
 else if op = 21 then a + imm % 524288 * 32
 else if op = 22 ∨ op = 23 then imm % 524288 * 32
 else if op = 24 then imm * 32
 else 0
def cI (i : MI) : Int := (aN i.op).w + i.d + i.n * 32 + i.m * 65536 + eE i.op i.a i.imm
theorem aOl (P : Program) (t : Nat) (c : Bool) {a : Int} (h0 : 0 ≤ a) (h1 : a ≤ 9) : aQ P .xor t c (cX a) (.int .u32 1) = some (cX (if a % 2 = 0 then a + 1 else a - 1)) := by
 have h : a = 0 ∨ a = 1 ∨ a = 2 ∨ a = 3 ∨ a = 4 ∨ a = 5 ∨ a = 6 ∨ a = 7 ∨ a = 8 ∨ a = 9 := by omega
 rcases h with rfl | rfl | rfl | rfl | rfl | rfl | rfl | rfl | rfl | rfl <;> (clear h0 h1; show _ = _; kernel_rfl)
theorem aKW (P : Program) (t : Nat) (c : Bool) {a : Int} (h0 : 0 ≤ a) : aQ P .rem t c (cX a) (.int .u32 64) = some (cX (a % 64)) := by
 rw [xK _ _ _ _ _ _ (by decide), Int.tmod_eq_emod_of_nonneg h0]
theorem aFW (P : Program) (t : Nat) (c : Bool) {a b : Int} (h0 : b ≤ a) (h1 : 0 ≤ b) (h2 : a < 4294967296) : aQ P .sub t c (cX a) (cX b) = some (cX (a - b)) := by
 rw [xM, mR (by omega) (by omega)]
theorem cvM (x : Int) : aJ .u32 (I6 x) = some (cX (x % 4294967296)) := by rw [aNT, aDS]
theorem eU (G : aI) (k : Nat) (i : MI) (h : aT i = true) : cG.f G (k + 1) [i.v] [] = some (cX (eE i.op i.a i.imm), []) := by
 obtain ⟨op, d, n, m, a, imm⟩ := i
 show cG.f G (k + 1) [mV op d n m a imm] [] = _
 unfold aT at h
 rw [Bool.and_eq_true] at h
 have h24 : 1 ≤ op ∧ op ≤ 24 := of_decide_eq_true h.1
 obtain ⟨_, h⟩ := h
 rw [cG.step]
 unfold cG.c
 simp only
 refine dX ?_
 rcases xE h24 with rfl | rfl | rfl | rfl | rfl | rfl | rfl | rfl | rfl | rfl | rfl | rfl | rfl | rfl | rfl | rfl | rfl | rfl | rfl | rfl | rfl | rfl | rfl | rfl
 all_goals (simp [aN, dS, fP, dA, fW, dU, dB] at h)
 ·
  have s1 := cN Tryd.prog 71 true (v := a) (p := 2097152) (b := 21) 21 rfl (by decide) rfl (by omega) (by omega)
  have s2 := cN Tryd.prog 71 true (v := imm) (p := 32) (b := 5) 5 rfl (by decide) rfl (by omega) (by omega)
  have s3 := cY Tryd.prog 71 false (x := a * 2097152) (v := imm) (p := 32) (q := 65536) 5 16 rfl rfl (by omega) (by omega) (by omega) (by omega) (by omega)
  have fx := aOO s1 <| aOO s2 <| s3
  refine gC ?_
  exact sN rfl
 ·
  have s1 := cN Tryd.prog 71 true (v := a) (p := 2097152) (b := 21) 21 rfl (by decide) rfl (by omega) (by omega)
  have s2 := cN Tryd.prog 71 true (v := imm) (p := 32) (b := 5) 5 rfl (by decide) rfl (by omega) (by omega)
  have s3 := cY Tryd.prog 71 false (x := a * 2097152) (v := imm) (p := 32) (q := 65536) 5 16 rfl rfl (by omega) (by omega) (by omega) (by omega) (by omega)
  have fx := aOO s1 <| aOO s2 <| s3
  refine gC ?_
  exact sN rfl
 ·
  have fx := True.intro
  refine gC ?_
  exact sN rfl
 ·
  have fx := True.intro
  refine gC ?_
  exact sN rfl
 ·
  have fx := True.intro
  refine gC ?_
  exact sN rfl
 ·
  have fx := True.intro
  refine gC ?_
  exact sN rfl
 ·
  have fx := True.intro
  refine gC ?_
  exact sN rfl
 ·
  have s1 := cN Tryd.prog 71 true (v := a) (p := 1024) (b := 10) 10 rfl (by decide) rfl (by omega) (by omega)
  have fx := s1
  refine gC ?_
  exact sN rfl
 ·
  have fx := True.intro
  refine gC ?_
  exact sN rfl
 ·
  have s1 := cN Tryd.prog 71 true (v := imm) (p := 1024) (b := 10) 10 rfl (by decide) rfl (by omega) (by omega)
  have fx := s1
  refine gC ?_
  exact sN rfl
 ·
  have s1 := cN Tryd.prog 71 true (v := imm) (p := 1024) (b := 10) 10 rfl (by decide) rfl (by omega) (by omega)
  have fx := s1
  refine gC ?_
  exact sN rfl
 ·
  have s0 := aFW Tryd.prog 71 true (a := 64) (b := imm) (by omega) (by omega) (by omega)
  have s1 := aKW Tryd.prog 71 true (a := 64 - imm) (by omega)
  have s2 := cN Tryd.prog 71 true (v := (64 - imm) % 64) (p := 65536) (b := 16) 16 rfl (by decide) rfl (by omega) (by omega)
  have s3 := aFW Tryd.prog 71 true (a := 63) (b := imm) (by omega) (by omega) (by omega)
  have s4 := cN Tryd.prog 71 true (v := 63 - imm) (p := 1024) (b := 10) 10 rfl (by decide) rfl (by omega) (by omega)
  have s5 := cY Tryd.prog 71 false (x := (64 - imm) % 64 * 65536) (v := 63 - imm) (p := 1024) (q := 64) 10 6 rfl rfl (by omega) (by omega) (by omega) (by omega) (by omega)
  have fx := aOO s0 <| aOO s1 <| aOO s2 <| aOO s3 <| aOO s4 <| s5
  refine gC ?_
  exact sN rfl
 ·
  have s1 := cN Tryd.prog 71 true (v := imm) (p := 65536) (b := 16) 16 rfl (by decide) rfl (by omega) (by omega)
  have s2 : aQ Tryd.prog .or 71 true (cX (imm * 65536)) (.int .u32 64512) = some (cX (imm * 65536 + 64512)) := cY Tryd.prog 71 true (x := imm * 65536) (v := 63) (p := 1024) (q := 64) 10 6 rfl rfl (by omega) (by omega) (by omega) (by omega) (by omega)
  have fx := aOO s1 <| s2
  refine gC ?_
  exact sN rfl
 ·
  have s1 := cN Tryd.prog 71 true (v := imm) (p := 65536) (b := 16) 16 rfl (by decide) rfl (by omega) (by omega)
  have fx := s1
  refine gC ?_
  exact sN rfl
 ·
  have fx := True.intro
  refine gC ?_
  exact sN rfl
 ·
  have s1 := cN Tryd.prog 71 true (v := a) (p := 4096) (b := 12) 12 rfl (by decide) rfl (by omega) (by omega)
  have fx := s1
  refine gC ?_
  exact sN rfl
 ·
  have s0 := aOl Tryd.prog 71 true (a := a) (by omega) (by omega)
  have s1 := cN Tryd.prog 71 true (v := (if a % 2 = 0 then a + 1 else a - 1)) (p := 4096) (b := 12) 12 rfl (by decide) rfl (by split <;> omega) (by split <;> omega)
  have fx := aOO s0 <| s1
  refine gC ?_
  exact sN rfl
 ·
  have s1 := cN Tryd.prog 71 true (v := imm) (p := 1024) (b := 10) 10 rfl (by decide) rfl (by omega) (by omega)
  have fx := s1
  refine gC ?_
  exact sN rfl
 ·
  have s1 := cN Tryd.prog 71 true (v := imm) (p := 1024) (b := 10) 10 rfl (by decide) rfl (by omega) (by omega)
  have fx := s1
  refine gC ?_
  exact sN rfl
 ·
  have s1 : aQ Tryd.prog .and 71 true (cX (imm % 4294967296)) (.int .u32 67108863) = some (cX (imm % 67108864)) := by
   have := iT Tryd.prog 71 true (x := imm % 4294967296) (q := 67108863) 26 (by decide) rfl (by omega) (by omega)
   rw [this]; congr 2; omega
  have fx := aOO cvM <| s1
  refine gC ?_
  exact sN rfl
 ·
  have s1 : aQ Tryd.prog .and 71 true (cX (imm % 4294967296)) (.int .u32 524287) = some (cX (imm % 524288)) := by
   have := iT Tryd.prog 71 true (x := imm % 4294967296) (q := 524287) 19 (by decide) rfl (by omega) (by omega)
   rw [this]; congr 2; omega
  have s2 := cN Tryd.prog 71 true (v := imm % 524288) (p := 32) (b := 5) 5 rfl (by decide) rfl (by omega) (by omega)
  have s3 := cY Tryd.prog 71 false (x := a) (v := imm % 524288) (p := 32) (q := 524288) 5 19 rfl rfl (by omega) (by omega) (by omega) (by omega) (by omega)
  have s4 : aJ .u32 (I6 a) = some (cX a) := bB (by omega) (by omega)
  have fx := aOO s4 <| aOO cvM <| aOO s1 <| aOO s2 <| s3
  refine gC ?_
  exact sN rfl
 ·
  have s1 : aQ Tryd.prog .and 71 true (cX (imm % 4294967296)) (.int .u32 524287) = some (cX (imm % 524288)) := by
   have := iT Tryd.prog 71 true (x := imm % 4294967296) (q := 524287) 19 (by decide) rfl (by omega) (by omega)
   rw [this]; congr 2; omega
  have s2 := cN Tryd.prog 71 true (v := imm % 524288) (p := 32) (b := 5) 5 rfl (by decide) rfl (by omega) (by omega)
  have s3 : aQ Tryd.prog .or 71 false (.int .u32 0) (cX (imm % 524288 * 32)) = some (cX (0 + imm % 524288 * 32)) := cY Tryd.prog 71 false (x := 0) (v := imm % 524288) (p := 32) (q := 524288) 5 19 rfl rfl (by omega) (by omega) (by omega) (by omega) (by omega)
  have s4 : aJ .u32 (I6 a) = some (.int .u32 0) := by rw [show a = 0 by omega]; rfl
  have fx := aOO s4 <| aOO cvM <| aOO s1 <| aOO s2 <| s3
  refine gC ?_
  exact sN (Int.zero_add _)
 ·
  have s1 : aQ Tryd.prog .and 71 true (cX (imm % 4294967296)) (.int .u32 524287) = some (cX (imm % 524288)) := by
   have := iT Tryd.prog 71 true (x := imm % 4294967296) (q := 524287) 19 (by decide) rfl (by omega) (by omega)
   rw [this]; congr 2; omega
  have s2 := cN Tryd.prog 71 true (v := imm % 524288) (p := 32) (b := 5) 5 rfl (by decide) rfl (by omega) (by omega)
  have s3 : aQ Tryd.prog .or 71 false (.int .u32 0) (cX (imm % 524288 * 32)) = some (cX (0 + imm % 524288 * 32)) := cY Tryd.prog 71 false (x := 0) (v := imm % 524288) (p := 32) (q := 524288) 5 19 rfl rfl (by omega) (by omega) (by omega) (by omega) (by omega)
  have s4 : aJ .u32 (I6 a) = some (.int .u32 0) := by rw [show a = 0 by omega]; rfl
  have fx := aOO s4 <| aOO cvM <| aOO s1 <| aOO s2 <| s3
  refine gC ?_
  exact sN (Int.zero_add _)
 ·
  have s1 := cN Tryd.prog 71 true (v := imm) (p := 32) (b := 5) 5 rfl (by decide) rfl (by omega) (by omega)
  have fx := s1
  refine gC ?_
  exact sN rfl
theorem pJ {x : Int} (h : 0 ≤ x) : dj x 0 := ⟨h, by decide, by simp⟩
def nV (i : MI) : Int := if aT i = true then cI i else 0
theorem aMG (G : aI) (k : Nat) (d n m a imm : Int) (h : aT ⟨1, d, n, m, a, imm⟩ = true) : bA.f G (k + 5) [mV 1 d n m a imm] [] = some (.tup [cX (cI ⟨1, d, n, m, a, imm⟩), .bool true], []) := by
 have r1 : ∀ H, aE (eZ.f G (k + 4)) [.int .i64 1] H = _ := fun H => aD (H := H) (hU G k 1) rfl rfl
 have r2 : ∀ H, aE (dG.f G (k + 4)) [mV 1 d n m a imm, (aN 1).v] H = _ := fun H => aD (H := H) (fR G (k + 1) 1 d n m a imm (aN 1) (fS 1)) rfl rfl
 have r3 : ∀ H, aE (cG.f G (k + 4)) [mV 1 d n m a imm] H = _ := fun H => aD (H := H) (eU G (k + 3) ⟨1, d, n, m, a, imm⟩ h) rfl rfl
 unfold aT at h
 rw [Bool.and_eq_true] at h
 obtain ⟨_, h⟩ := h
 simp only at h
 rw [h] at r2
 simp [aN, dS, fP, dA, fW, dU, dB] at h
 have c1 : aJ .u32 (I6 d) = some (cX d) := bB (by omega) (by omega)
 have c2 : aJ .u32 (I6 n) = some (cX n) := bB (by omega) (by omega)
 have c3 : aJ .u32 (I6 m) = some (cX m) := bB (by omega) (by omega)
 have s1 := cN Tryd.prog 71 true (v := n) (p := 32) (b := 5) 5 rfl (by decide) rfl (by omega) (by omega)
 have s2 := cN Tryd.prog 71 true (v := m) (p := 65536) (b := 16) 16 rfl (by decide) rfl (by omega) (by omega)
 have o1 := gJ Tryd.prog 71 false (x := 3531603968) (v := d) (q := 32) 5 rfl (by omega) (by omega) (by omega) (by omega) (by omega)
 have o2 := cY Tryd.prog 71 false (x := 3531603968 + d) (v := n) (p := 32) (q := 1) 5 0 rfl rfl (by omega) (by omega) (by omega) (by omega) (by omega)
 have o3 := cY Tryd.prog 71 false (x := 3531603968 + d + n * 32) (v := m) (p := 65536) (q := 1) 16 0 rfl rfl (by omega) (by omega) (by omega) (by omega) (by omega)
 have e4 : eE 1 a imm = a * 2097152 + imm * 32 := rfl
 have o4 : aQ Tryd.prog .or 71 false (cX (3531603968 + d + n * 32 + m * 65536)) (cX (eE 1 a imm)) = some (cX (3531603968 + d + n * 32 + m * 65536 + eE 1 a imm)) := by
  rw [e4]
  exact kF Tryd.prog 71 false (yK (fU (x := 3531603968 + d + n * 32 + m * 65536) (v := a) (p := 2097152) (q := 4) 21 2 rfl rfl (by omega) (by omega) (by omega) (by omega)) (fU (x := 3531603968 + d + n * 32 + m * 65536) (v := imm) (p := 32) (q := 65536) 5 16 rfl rfl (by omega) (by omega) (by omega) (by omega)) (fU (x := a * 2097152) (v := imm) (p := 32) (q := 65536) 5 16 rfl rfl (by omega) (by omega) (by omega) (by omega)) (by omega)) (by omega)
 have ef : aN 1 = ⟨(aN 1).nm, 3531603968, true, false, false, (aN 1).a, (aN 1).b⟩ := rfl
 have eo : jQ 1 = true := rfl
 have ew : cI ⟨1, d, n, m, a, imm⟩ = 3531603968 + d + n * 32 + m * 65536 + eE 1 a imm := rfl
 rw [ew]
 rw [eo, ef] at r1
 rw [ef] at r2
 rw [bA.step]
 unfold bA.c
 unfold Form.v at r1 r2
 clear e4 ef eo h ew
 generalize (aN 1).nm = nm at *
 generalize (aN 1).a = fa at *
 generalize (aN 1).b = fb at *
 generalize eE 1 a imm = z at *
 refine dX ?_
 have fx := aOO r1 <| aOO r2 <| aOO r3 <| aOO c1 <| aOO c2 <| aOO c3 <| aOO s1 <| aOO s2 <| aOO o1 <| aOO o2 <| aOO o3 <| o4
 refine gC ?_
 exact w2 rfl rfl rfl
theorem aMH (G : aI) (k : Nat) (d n m a imm : Int) (h : aT ⟨2, d, n, m, a, imm⟩ = true) : bA.f G (k + 5) [mV 2 d n m a imm] [] = some (.tup [cX (cI ⟨2, d, n, m, a, imm⟩), .bool true], []) := by
 have r1 : ∀ H, aE (eZ.f G (k + 4)) [.int .i64 2] H = _ := fun H => aD (H := H) (hU G k 2) rfl rfl
 have r2 : ∀ H, aE (dG.f G (k + 4)) [mV 2 d n m a imm, (aN 2).v] H = _ := fun H => aD (H := H) (fR G (k + 1) 2 d n m a imm (aN 2) (fS 2)) rfl rfl
 have r3 : ∀ H, aE (cG.f G (k + 4)) [mV 2 d n m a imm] H = _ := fun H => aD (H := H) (eU G (k + 3) ⟨2, d, n, m, a, imm⟩ h) rfl rfl
 unfold aT at h
 rw [Bool.and_eq_true] at h
 obtain ⟨_, h⟩ := h
 simp only at h
 rw [h] at r2
 simp [aN, dS, fP, dA, fW, dU, dB] at h
 have c1 : aJ .u32 (I6 d) = some (cX d) := bB (by omega) (by omega)
 have c2 : aJ .u32 (I6 n) = some (cX n) := bB (by omega) (by omega)
 have c3 : aJ .u32 (I6 m) = some (cX m) := bB (by omega) (by omega)
 have s1 := cN Tryd.prog 71 true (v := n) (p := 32) (b := 5) 5 rfl (by decide) rfl (by omega) (by omega)
 have s2 := cN Tryd.prog 71 true (v := m) (p := 65536) (b := 16) 16 rfl (by decide) rfl (by omega) (by omega)
 have o1 := gJ Tryd.prog 71 false (x := 4068474880) (v := d) (q := 32) 5 rfl (by omega) (by omega) (by omega) (by omega) (by omega)
 have o2 := cY Tryd.prog 71 false (x := 4068474880 + d) (v := n) (p := 32) (q := 1) 5 0 rfl rfl (by omega) (by omega) (by omega) (by omega) (by omega)
 have o3 := cY Tryd.prog 71 false (x := 4068474880 + d + n * 32) (v := m) (p := 65536) (q := 1) 16 0 rfl rfl (by omega) (by omega) (by omega) (by omega) (by omega)
 have e4 : eE 2 a imm = a * 2097152 + imm * 32 := rfl
 have o4 : aQ Tryd.prog .or 71 false (cX (4068474880 + d + n * 32 + m * 65536)) (cX (eE 2 a imm)) = some (cX (4068474880 + d + n * 32 + m * 65536 + eE 2 a imm)) := by
  rw [e4]
  exact kF Tryd.prog 71 false (yK (fU (x := 4068474880 + d + n * 32 + m * 65536) (v := a) (p := 2097152) (q := 4) 21 2 rfl rfl (by omega) (by omega) (by omega) (by omega)) (fU (x := 4068474880 + d + n * 32 + m * 65536) (v := imm) (p := 32) (q := 65536) 5 16 rfl rfl (by omega) (by omega) (by omega) (by omega)) (fU (x := a * 2097152) (v := imm) (p := 32) (q := 65536) 5 16 rfl rfl (by omega) (by omega) (by omega) (by omega)) (by omega)) (by omega)
 have ef : aN 2 = ⟨(aN 2).nm, 4068474880, true, false, false, (aN 2).a, (aN 2).b⟩ := rfl
 have eo : jQ 2 = true := rfl
 have ew : cI ⟨2, d, n, m, a, imm⟩ = 4068474880 + d + n * 32 + m * 65536 + eE 2 a imm := rfl
 rw [ew]
 rw [eo, ef] at r1
 rw [ef] at r2
 rw [bA.step]
 unfold bA.c
 unfold Form.v at r1 r2
 clear e4 ef eo h ew
 generalize (aN 2).nm = nm at *
 generalize (aN 2).a = fa at *
 generalize (aN 2).b = fb at *
 generalize eE 2 a imm = z at *
 refine dX ?_
 have fx := aOO r1 <| aOO r2 <| aOO r3 <| aOO c1 <| aOO c2 <| aOO c3 <| aOO s1 <| aOO s2 <| aOO o1 <| aOO o2 <| aOO o3 <| o4
 refine gC ?_
 exact w2 rfl rfl rfl
theorem aMI (G : aI) (k : Nat) (d n m a imm : Int) (h : aT ⟨3, d, n, m, a, imm⟩ = true) : bA.f G (k + 5) [mV 3 d n m a imm] [] = some (.tup [cX (cI ⟨3, d, n, m, a, imm⟩), .bool true], []) := by
 have r1 : ∀ H, aE (eZ.f G (k + 4)) [.int .i64 3] H = _ := fun H => aD (H := H) (hU G k 3) rfl rfl
 have r2 : ∀ H, aE (dG.f G (k + 4)) [mV 3 d n m a imm, (aN 3).v] H = _ := fun H => aD (H := H) (fR G (k + 1) 3 d n m a imm (aN 3) (fS 3)) rfl rfl
 have r3 : ∀ H, aE (cG.f G (k + 4)) [mV 3 d n m a imm] H = _ := fun H => aD (H := H) (eU G (k + 3) ⟨3, d, n, m, a, imm⟩ h) rfl rfl
 unfold aT at h
 rw [Bool.and_eq_true] at h
 obtain ⟨_, h⟩ := h
 simp only at h
 rw [h] at r2
 simp [aN, dS, fP, dA, fW, dU, dB] at h
 have c1 : aJ .u32 (I6 d) = some (cX d) := bB (by omega) (by omega)
 have c2 : aJ .u32 (I6 n) = some (cX n) := bB (by omega) (by omega)
 have c3 : aJ .u32 (I6 m) = some (cX m) := bB (by omega) (by omega)
 have s1 := cN Tryd.prog 71 true (v := n) (p := 32) (b := 5) 5 rfl (by decide) rfl (by omega) (by omega)
 have s2 := cN Tryd.prog 71 true (v := m) (p := 65536) (b := 16) 16 rfl (by decide) rfl (by omega) (by omega)
 have o1 := gJ Tryd.prog 71 false (x := 2332033024) (v := d) (q := 32) 5 rfl (by omega) (by omega) (by omega) (by omega) (by omega)
 have o2 := cY Tryd.prog 71 false (x := 2332033024 + d) (v := n) (p := 32) (q := 32) 5 5 rfl rfl (by omega) (by omega) (by omega) (by omega) (by omega)
 have o3 := cY Tryd.prog 71 false (x := 2332033024 + d + n * 32) (v := m) (p := 65536) (q := 32) 16 5 rfl rfl (by omega) (by omega) (by omega) (by omega) (by omega)
 have e4 : eE 3 a imm = 0 := rfl
 have o4 : aQ Tryd.prog .or 71 false (cX (2332033024 + d + n * 32 + m * 65536)) (cX (eE 3 a imm)) = some (cX (2332033024 + d + n * 32 + m * 65536 + eE 3 a imm)) := by
  rw [e4]
  exact kF Tryd.prog 71 false (pJ (x := 2332033024 + d + n * 32 + m * 65536) (by omega)) (by omega)
 have ef : aN 3 = ⟨(aN 3).nm, 2332033024, true, true, true, (aN 3).a, (aN 3).b⟩ := rfl
 have eo : jQ 3 = true := rfl
 have ew : cI ⟨3, d, n, m, a, imm⟩ = 2332033024 + d + n * 32 + m * 65536 + eE 3 a imm := rfl
 rw [ew]
 rw [eo, ef] at r1
 rw [ef] at r2
 rw [bA.step]
 unfold bA.c
 unfold Form.v at r1 r2
 clear e4 ef eo h ew
 generalize (aN 3).nm = nm at *
 generalize (aN 3).a = fa at *
 generalize (aN 3).b = fb at *
 generalize eE 3 a imm = z at *
 refine dX ?_
 have fx := aOO r1 <| aOO r2 <| aOO r3 <| aOO c1 <| aOO c2 <| aOO c3 <| aOO s1 <| aOO s2 <| aOO o1 <| aOO o2 <| aOO o3 <| o4
 refine gC ?_
 exact w2 rfl rfl rfl
theorem aMJ (G : aI) (k : Nat) (d n m a imm : Int) (h : aT ⟨4, d, n, m, a, imm⟩ = true) : bA.f G (k + 5) [mV 4 d n m a imm] [] = some (.tup [cX (cI ⟨4, d, n, m, a, imm⟩), .bool true], []) := by
 have r1 : ∀ H, aE (eZ.f G (k + 4)) [.int .i64 4] H = _ := fun H => aD (H := H) (hU G k 4) rfl rfl
 have r2 : ∀ H, aE (dG.f G (k + 4)) [mV 4 d n m a imm, (aN 4).v] H = _ := fun H => aD (H := H) (fR G (k + 1) 4 d n m a imm (aN 4) (fS 4)) rfl rfl
 have r3 : ∀ H, aE (cG.f G (k + 4)) [mV 4 d n m a imm] H = _ := fun H => aD (H := H) (eU G (k + 3) ⟨4, d, n, m, a, imm⟩ h) rfl rfl
 unfold aT at h
 rw [Bool.and_eq_true] at h
 obtain ⟨_, h⟩ := h
 simp only at h
 rw [h] at r2
 simp [aN, dS, fP, dA, fW, dU, dB] at h
 have c1 : aJ .u32 (I6 d) = some (cX d) := bB (by omega) (by omega)
 have c2 : aJ .u32 (I6 n) = some (cX n) := bB (by omega) (by omega)
 have c3 : aJ .u32 (I6 m) = some (cX m) := bB (by omega) (by omega)
 have s1 := cN Tryd.prog 71 true (v := n) (p := 32) (b := 5) 5 rfl (by decide) rfl (by omega) (by omega)
 have s2 := cN Tryd.prog 71 true (v := m) (p := 65536) (b := 16) 16 rfl (by decide) rfl (by omega) (by omega)
 have o1 := gJ Tryd.prog 71 false (x := 3405774848) (v := d) (q := 32) 5 rfl (by omega) (by omega) (by omega) (by omega) (by omega)
 have o2 := cY Tryd.prog 71 false (x := 3405774848 + d) (v := n) (p := 32) (q := 32) 5 5 rfl rfl (by omega) (by omega) (by omega) (by omega) (by omega)
 have o3 := cY Tryd.prog 71 false (x := 3405774848 + d + n * 32) (v := m) (p := 65536) (q := 32) 16 5 rfl rfl (by omega) (by omega) (by omega) (by omega) (by omega)
 have e4 : eE 4 a imm = 0 := rfl
 have o4 : aQ Tryd.prog .or 71 false (cX (3405774848 + d + n * 32 + m * 65536)) (cX (eE 4 a imm)) = some (cX (3405774848 + d + n * 32 + m * 65536 + eE 4 a imm)) := by
  rw [e4]
  exact kF Tryd.prog 71 false (pJ (x := 3405774848 + d + n * 32 + m * 65536) (by omega)) (by omega)
 have ef : aN 4 = ⟨(aN 4).nm, 3405774848, true, true, true, (aN 4).a, (aN 4).b⟩ := rfl
 have eo : jQ 4 = true := rfl
 have ew : cI ⟨4, d, n, m, a, imm⟩ = 3405774848 + d + n * 32 + m * 65536 + eE 4 a imm := rfl
 rw [ew]
 rw [eo, ef] at r1
 rw [ef] at r2
 rw [bA.step]
 unfold bA.c
 unfold Form.v at r1 r2
 clear e4 ef eo h ew
 generalize (aN 4).nm = nm at *
 generalize (aN 4).a = fa at *
 generalize (aN 4).b = fb at *
 generalize eE 4 a imm = z at *
 refine dX ?_
 have fx := aOO r1 <| aOO r2 <| aOO r3 <| aOO c1 <| aOO c2 <| aOO c3 <| aOO s1 <| aOO s2 <| aOO o1 <| aOO o2 <| aOO o3 <| o4
 refine gC ?_
 exact w2 rfl rfl rfl
theorem aMK (G : aI) (k : Nat) (d n m a imm : Int) (h : aT ⟨5, d, n, m, a, imm⟩ = true) : bA.f G (k + 5) [mV 5 d n m a imm] [] = some (.tup [cX (cI ⟨5, d, n, m, a, imm⟩), .bool true], []) := by
 have r1 : ∀ H, aE (eZ.f G (k + 4)) [.int .i64 5] H = _ := fun H => aD (H := H) (hU G k 5) rfl rfl
 have r2 : ∀ H, aE (dG.f G (k + 4)) [mV 5 d n m a imm, (aN 5).v] H = _ := fun H => aD (H := H) (fR G (k + 1) 5 d n m a imm (aN 5) (fS 5)) rfl rfl
 have r3 : ∀ H, aE (cG.f G (k + 4)) [mV 5 d n m a imm] H = _ := fun H => aD (H := H) (eU G (k + 3) ⟨5, d, n, m, a, imm⟩ h) rfl rfl
 unfold aT at h
 rw [Bool.and_eq_true] at h
 obtain ⟨_, h⟩ := h
 simp only at h
 rw [h] at r2
 simp [aN, dS, fP, dA, fW, dU, dB] at h
 have c1 : aJ .u32 (I6 d) = some (cX d) := bB (by omega) (by omega)
 have c2 : aJ .u32 (I6 n) = some (cX n) := bB (by omega) (by omega)
 have c3 : aJ .u32 (I6 m) = some (cX m) := bB (by omega) (by omega)
 have s1 := cN Tryd.prog 71 true (v := n) (p := 32) (b := 5) 5 rfl (by decide) rfl (by omega) (by omega)
 have s2 := cN Tryd.prog 71 true (v := m) (p := 65536) (b := 16) 16 rfl (by decide) rfl (by omega) (by omega)
 have o1 := gJ Tryd.prog 71 false (x := 2315255808) (v := d) (q := 32) 5 rfl (by omega) (by omega) (by omega) (by omega) (by omega)
 have o2 := cY Tryd.prog 71 false (x := 2315255808 + d) (v := n) (p := 32) (q := 32) 5 5 rfl rfl (by omega) (by omega) (by omega) (by omega) (by omega)
 have o3 := cY Tryd.prog 71 false (x := 2315255808 + d + n * 32) (v := m) (p := 65536) (q := 32) 16 5 rfl rfl (by omega) (by omega) (by omega) (by omega) (by omega)
 have e4 : eE 5 a imm = 0 := rfl
 have o4 : aQ Tryd.prog .or 71 false (cX (2315255808 + d + n * 32 + m * 65536)) (cX (eE 5 a imm)) = some (cX (2315255808 + d + n * 32 + m * 65536 + eE 5 a imm)) := by
  rw [e4]
  exact kF Tryd.prog 71 false (pJ (x := 2315255808 + d + n * 32 + m * 65536) (by omega)) (by omega)
 have ef : aN 5 = ⟨(aN 5).nm, 2315255808, true, true, true, (aN 5).a, (aN 5).b⟩ := rfl
 have eo : jQ 5 = true := rfl
 have ew : cI ⟨5, d, n, m, a, imm⟩ = 2315255808 + d + n * 32 + m * 65536 + eE 5 a imm := rfl
 rw [ew]
 rw [eo, ef] at r1
 rw [ef] at r2
 rw [bA.step]
 unfold bA.c
 unfold Form.v at r1 r2
 clear e4 ef eo h ew
 generalize (aN 5).nm = nm at *
 generalize (aN 5).a = fa at *
 generalize (aN 5).b = fb at *
 generalize eE 5 a imm = z at *
 refine dX ?_
 have fx := aOO r1 <| aOO r2 <| aOO r3 <| aOO c1 <| aOO c2 <| aOO c3 <| aOO s1 <| aOO s2 <| aOO o1 <| aOO o2 <| aOO o3 <| o4
 refine gC ?_
 exact w2 rfl rfl rfl
theorem aML (G : aI) (k : Nat) (d n m a imm : Int) (h : aT ⟨6, d, n, m, a, imm⟩ = true) : bA.f G (k + 5) [mV 6 d n m a imm] [] = some (.tup [cX (cI ⟨6, d, n, m, a, imm⟩), .bool true], []) := by
 have r1 : ∀ H, aE (eZ.f G (k + 4)) [.int .i64 6] H = _ := fun H => aD (H := H) (hU G k 6) rfl rfl
 have r2 : ∀ H, aE (dG.f G (k + 4)) [mV 6 d n m a imm, (aN 6).v] H = _ := fun H => aD (H := H) (fR G (k + 1) 6 d n m a imm (aN 6) (fS 6)) rfl rfl
 have r3 : ∀ H, aE (cG.f G (k + 4)) [mV 6 d n m a imm] H = _ := fun H => aD (H := H) (eU G (k + 3) ⟨6, d, n, m, a, imm⟩ h) rfl rfl
 unfold aT at h
 rw [Bool.and_eq_true] at h
 obtain ⟨_, h⟩ := h
 simp only at h
 rw [h] at r2
 simp [aN, dS, fP, dA, fW, dU, dB] at h
 have c1 : aJ .u32 (I6 d) = some (cX d) := bB (by omega) (by omega)
 have c2 : aJ .u32 (I6 n) = some (cX n) := bB (by omega) (by omega)
 have c3 : aJ .u32 (I6 m) = some (cX m) := bB (by omega) (by omega)
 have s1 := cN Tryd.prog 71 true (v := n) (p := 32) (b := 5) 5 rfl (by decide) rfl (by omega) (by omega)
 have s2 := cN Tryd.prog 71 true (v := m) (p := 65536) (b := 16) 16 rfl (by decide) rfl (by omega) (by omega)
 have o1 := gJ Tryd.prog 71 false (x := 2852126720) (v := d) (q := 32) 5 rfl (by omega) (by omega) (by omega) (by omega) (by omega)
 have o2 := cY Tryd.prog 71 false (x := 2852126720 + d) (v := n) (p := 32) (q := 32) 5 5 rfl rfl (by omega) (by omega) (by omega) (by omega) (by omega)
 have o3 := cY Tryd.prog 71 false (x := 2852126720 + d + n * 32) (v := m) (p := 65536) (q := 32) 16 5 rfl rfl (by omega) (by omega) (by omega) (by omega) (by omega)
 have e4 : eE 6 a imm = 0 := rfl
 have o4 : aQ Tryd.prog .or 71 false (cX (2852126720 + d + n * 32 + m * 65536)) (cX (eE 6 a imm)) = some (cX (2852126720 + d + n * 32 + m * 65536 + eE 6 a imm)) := by
  rw [e4]
  exact kF Tryd.prog 71 false (pJ (x := 2852126720 + d + n * 32 + m * 65536) (by omega)) (by omega)
 have ef : aN 6 = ⟨(aN 6).nm, 2852126720, true, true, true, (aN 6).a, (aN 6).b⟩ := rfl
 have eo : jQ 6 = true := rfl
 have ew : cI ⟨6, d, n, m, a, imm⟩ = 2852126720 + d + n * 32 + m * 65536 + eE 6 a imm := rfl
 rw [ew]
 rw [eo, ef] at r1
 rw [ef] at r2
 rw [bA.step]
 unfold bA.c
 unfold Form.v at r1 r2
 clear e4 ef eo h ew
 generalize (aN 6).nm = nm at *
 generalize (aN 6).a = fa at *
 generalize (aN 6).b = fb at *
 generalize eE 6 a imm = z at *
 refine dX ?_
 have fx := aOO r1 <| aOO r2 <| aOO r3 <| aOO c1 <| aOO c2 <| aOO c3 <| aOO s1 <| aOO s2 <| aOO o1 <| aOO o2 <| aOO o3 <| o4
 refine gC ?_
 exact w2 rfl rfl rfl
theorem aMM (G : aI) (k : Nat) (d n m a imm : Int) (h : aT ⟨7, d, n, m, a, imm⟩ = true) : bA.f G (k + 5) [mV 7 d n m a imm] [] = some (.tup [cX (cI ⟨7, d, n, m, a, imm⟩), .bool true], []) := by
 have r1 : ∀ H, aE (eZ.f G (k + 4)) [.int .i64 7] H = _ := fun H => aD (H := H) (hU G k 7) rfl rfl
 have r2 : ∀ H, aE (dG.f G (k + 4)) [mV 7 d n m a imm, (aN 7).v] H = _ := fun H => aD (H := H) (fR G (k + 1) 7 d n m a imm (aN 7) (fS 7)) rfl rfl
 have r3 : ∀ H, aE (cG.f G (k + 4)) [mV 7 d n m a imm] H = _ := fun H => aD (H := H) (eU G (k + 3) ⟨7, d, n, m, a, imm⟩ h) rfl rfl
 unfold aT at h
 rw [Bool.and_eq_true] at h
 obtain ⟨_, h⟩ := h
 simp only at h
 rw [h] at r2
 simp [aN, dS, fP, dA, fW, dU, dB] at h
 have c1 : aJ .u32 (I6 d) = some (cX d) := bB (by omega) (by omega)
 have c2 : aJ .u32 (I6 n) = some (cX n) := bB (by omega) (by omega)
 have c3 : aJ .u32 (I6 m) = some (cX m) := bB (by omega) (by omega)
 have s1 := cN Tryd.prog 71 true (v := n) (p := 32) (b := 5) 5 rfl (by decide) rfl (by omega) (by omega)
 have s2 := cN Tryd.prog 71 true (v := m) (p := 65536) (b := 16) 16 rfl (by decide) rfl (by omega) (by omega)
 have o1 := gJ Tryd.prog 71 false (x := 3388997632) (v := d) (q := 32) 5 rfl (by omega) (by omega) (by omega) (by omega) (by omega)
 have o2 := cY Tryd.prog 71 false (x := 3388997632 + d) (v := n) (p := 32) (q := 32) 5 5 rfl rfl (by omega) (by omega) (by omega) (by omega) (by omega)
 have o3 := cY Tryd.prog 71 false (x := 3388997632 + d + n * 32) (v := m) (p := 65536) (q := 32) 16 5 rfl rfl (by omega) (by omega) (by omega) (by omega) (by omega)
 have e4 : eE 7 a imm = 0 := rfl
 have o4 : aQ Tryd.prog .or 71 false (cX (3388997632 + d + n * 32 + m * 65536)) (cX (eE 7 a imm)) = some (cX (3388997632 + d + n * 32 + m * 65536 + eE 7 a imm)) := by
  rw [e4]
  exact kF Tryd.prog 71 false (pJ (x := 3388997632 + d + n * 32 + m * 65536) (by omega)) (by omega)
 have ef : aN 7 = ⟨(aN 7).nm, 3388997632, true, true, true, (aN 7).a, (aN 7).b⟩ := rfl
 have eo : jQ 7 = true := rfl
 have ew : cI ⟨7, d, n, m, a, imm⟩ = 3388997632 + d + n * 32 + m * 65536 + eE 7 a imm := rfl
 rw [ew]
 rw [eo, ef] at r1
 rw [ef] at r2
 rw [bA.step]
 unfold bA.c
 unfold Form.v at r1 r2
 clear e4 ef eo h ew
 generalize (aN 7).nm = nm at *
 generalize (aN 7).a = fa at *
 generalize (aN 7).b = fb at *
 generalize eE 7 a imm = z at *
 refine dX ?_
 have fx := aOO r1 <| aOO r2 <| aOO r3 <| aOO c1 <| aOO c2 <| aOO c3 <| aOO s1 <| aOO s2 <| aOO o1 <| aOO o2 <| aOO o3 <| o4
 refine gC ?_
 exact w2 rfl rfl rfl
theorem aMN (G : aI) (k : Nat) (d n m a imm : Int) (h : aT ⟨8, d, n, m, a, imm⟩ = true) : bA.f G (k + 5) [mV 8 d n m a imm] [] = some (.tup [cX (cI ⟨8, d, n, m, a, imm⟩), .bool true], []) := by
 have r1 : ∀ H, aE (eZ.f G (k + 4)) [.int .i64 8] H = _ := fun H => aD (H := H) (hU G k 8) rfl rfl
 have r2 : ∀ H, aE (dG.f G (k + 4)) [mV 8 d n m a imm, (aN 8).v] H = _ := fun H => aD (H := H) (fR G (k + 1) 8 d n m a imm (aN 8) (fS 8)) rfl rfl
 have r3 : ∀ H, aE (cG.f G (k + 4)) [mV 8 d n m a imm] H = _ := fun H => aD (H := H) (eU G (k + 3) ⟨8, d, n, m, a, imm⟩ h) rfl rfl
 unfold aT at h
 rw [Bool.and_eq_true] at h
 obtain ⟨_, h⟩ := h
 simp only at h
 rw [h] at r2
 simp [aN, dS, fP, dA, fW, dU, dB] at h
 have c1 : aJ .u32 (I6 d) = some (cX d) := bB (by omega) (by omega)
 have c2 : aJ .u32 (I6 n) = some (cX n) := bB (by omega) (by omega)
 have c3 : aJ .u32 (I6 m) = some (cX m) := bB (by omega) (by omega)
 have s1 := cN Tryd.prog 71 true (v := n) (p := 32) (b := 5) 5 rfl (by decide) rfl (by omega) (by omega)
 have s2 := cN Tryd.prog 71 true (v := m) (p := 65536) (b := 16) 16 rfl (by decide) rfl (by omega) (by omega)
 have o1 := gJ Tryd.prog 71 false (x := 2600468480) (v := d) (q := 32) 5 rfl (by omega) (by omega) (by omega) (by omega) (by omega)
 have o2 := cY Tryd.prog 71 false (x := 2600468480 + d) (v := n) (p := 32) (q := 32) 5 5 rfl rfl (by omega) (by omega) (by omega) (by omega) (by omega)
 have o3 := cY Tryd.prog 71 false (x := 2600468480 + d + n * 32) (v := m) (p := 65536) (q := 32) 16 5 rfl rfl (by omega) (by omega) (by omega) (by omega) (by omega)
 have e4 : eE 8 a imm = a * 1024 := rfl
 have o4 : aQ Tryd.prog .or 71 false (cX (2600468480 + d + n * 32 + m * 65536)) (cX (eE 8 a imm)) = some (cX (2600468480 + d + n * 32 + m * 65536 + eE 8 a imm)) := by
  rw [e4]
  exact kF Tryd.prog 71 false ((fU (x := 2600468480 + d + n * 32 + m * 65536) (v := a) (p := 1024) (q := 32) 10 5 rfl rfl (by omega) (by omega) (by omega) (by omega))) (by omega)
 have ef : aN 8 = ⟨(aN 8).nm, 2600468480, true, true, true, (aN 8).a, (aN 8).b⟩ := rfl
 have eo : jQ 8 = true := rfl
 have ew : cI ⟨8, d, n, m, a, imm⟩ = 2600468480 + d + n * 32 + m * 65536 + eE 8 a imm := rfl
 rw [ew]
 rw [eo, ef] at r1
 rw [ef] at r2
 rw [bA.step]
 unfold bA.c
 unfold Form.v at r1 r2
 clear e4 ef eo h ew
 generalize (aN 8).nm = nm at *
 generalize (aN 8).a = fa at *
 generalize (aN 8).b = fb at *
 generalize eE 8 a imm = z at *
 refine dX ?_
 have fx := aOO r1 <| aOO r2 <| aOO r3 <| aOO c1 <| aOO c2 <| aOO c3 <| aOO s1 <| aOO s2 <| aOO o1 <| aOO o2 <| aOO o3 <| o4
 refine gC ?_
 exact w2 rfl rfl rfl
theorem aMO (G : aI) (k : Nat) (d n m a imm : Int) (h : aT ⟨9, d, n, m, a, imm⟩ = true) : bA.f G (k + 5) [mV 9 d n m a imm] [] = some (.tup [cX (cI ⟨9, d, n, m, a, imm⟩), .bool true], []) := by
 have r1 : ∀ H, aE (eZ.f G (k + 4)) [.int .i64 9] H = _ := fun H => aD (H := H) (hU G k 9) rfl rfl
 have r2 : ∀ H, aE (dG.f G (k + 4)) [mV 9 d n m a imm, (aN 9).v] H = _ := fun H => aD (H := H) (fR G (k + 1) 9 d n m a imm (aN 9) (fS 9)) rfl rfl
 have r3 : ∀ H, aE (cG.f G (k + 4)) [mV 9 d n m a imm] H = _ := fun H => aD (H := H) (eU G (k + 3) ⟨9, d, n, m, a, imm⟩ h) rfl rfl
 unfold aT at h
 rw [Bool.and_eq_true] at h
 obtain ⟨_, h⟩ := h
 simp only at h
 rw [h] at r2
 simp [aN, dS, fP, dA, fW, dU, dB] at h
 have c1 : aJ .u32 (I6 d) = some (cX d) := bB (by omega) (by omega)
 have c2 : aJ .u32 (I6 n) = some (cX n) := bB (by omega) (by omega)
 have c3 : aJ .u32 (I6 m) = some (cX m) := bB (by omega) (by omega)
 have s1 := cN Tryd.prog 71 true (v := n) (p := 32) (b := 5) 5 rfl (by decide) rfl (by omega) (by omega)
 have s2 := cN Tryd.prog 71 true (v := m) (p := 65536) (b := 16) 16 rfl (by decide) rfl (by omega) (by omega)
 have o1 := gJ Tryd.prog 71 false (x := 2613083136) (v := d) (q := 32) 5 rfl (by omega) (by omega) (by omega) (by omega) (by omega)
 have o2 := cY Tryd.prog 71 false (x := 2613083136 + d) (v := n) (p := 32) (q := 32) 5 5 rfl rfl (by omega) (by omega) (by omega) (by omega) (by omega)
 have o3 := cY Tryd.prog 71 false (x := 2613083136 + d + n * 32) (v := m) (p := 65536) (q := 32) 16 5 rfl rfl (by omega) (by omega) (by omega) (by omega) (by omega)
 have e4 : eE 9 a imm = 0 := rfl
 have o4 : aQ Tryd.prog .or 71 false (cX (2613083136 + d + n * 32 + m * 65536)) (cX (eE 9 a imm)) = some (cX (2613083136 + d + n * 32 + m * 65536 + eE 9 a imm)) := by
  rw [e4]
  exact kF Tryd.prog 71 false (pJ (x := 2613083136 + d + n * 32 + m * 65536) (by omega)) (by omega)
 have ef : aN 9 = ⟨(aN 9).nm, 2613083136, true, true, true, (aN 9).a, (aN 9).b⟩ := rfl
 have eo : jQ 9 = true := rfl
 have ew : cI ⟨9, d, n, m, a, imm⟩ = 2613083136 + d + n * 32 + m * 65536 + eE 9 a imm := rfl
 rw [ew]
 rw [eo, ef] at r1
 rw [ef] at r2
 rw [bA.step]
 unfold bA.c
 unfold Form.v at r1 r2
 clear e4 ef eo h ew
 generalize (aN 9).nm = nm at *
 generalize (aN 9).a = fa at *
 generalize (aN 9).b = fb at *
 generalize eE 9 a imm = z at *
 refine dX ?_
 have fx := aOO r1 <| aOO r2 <| aOO r3 <| aOO c1 <| aOO c2 <| aOO c3 <| aOO s1 <| aOO s2 <| aOO o1 <| aOO o2 <| aOO o3 <| o4
 refine gC ?_
 exact w2 rfl rfl rfl
theorem aKl (G : aI) (k : Nat) (d n m a imm : Int) (h : aT ⟨10, d, n, m, a, imm⟩ = true) : bA.f G (k + 5) [mV 10 d n m a imm] [] = some (.tup [cX (cI ⟨10, d, n, m, a, imm⟩), .bool true], []) := by
 have r1 : ∀ H, aE (eZ.f G (k + 4)) [.int .i64 10] H = _ := fun H => aD (H := H) (hU G k 10) rfl rfl
 have r2 : ∀ H, aE (dG.f G (k + 4)) [mV 10 d n m a imm, (aN 10).v] H = _ := fun H => aD (H := H) (fR G (k + 1) 10 d n m a imm (aN 10) (fS 10)) rfl rfl
 have r3 : ∀ H, aE (cG.f G (k + 4)) [mV 10 d n m a imm] H = _ := fun H => aD (H := H) (eU G (k + 3) ⟨10, d, n, m, a, imm⟩ h) rfl rfl
 unfold aT at h
 rw [Bool.and_eq_true] at h
 obtain ⟨_, h⟩ := h
 simp only at h
 rw [h] at r2
 simp [aN, dS, fP, dA, fW, dU, dB] at h
 have c1 : aJ .u32 (I6 d) = some (cX d) := bB (by omega) (by omega)
 have c2 : aJ .u32 (I6 n) = some (cX n) := bB (by omega) (by omega)
 have c3 : aJ .u32 (I6 m) = some (cX m) := bB (by omega) (by omega)
 have s1 := cN Tryd.prog 71 true (v := n) (p := 32) (b := 5) 5 rfl (by decide) rfl (by omega) (by omega)
 have s2 := cN Tryd.prog 71 true (v := m) (p := 65536) (b := 16) 16 rfl (by decide) rfl (by omega) (by omega)
 have o1 := gJ Tryd.prog 71 false (x := 2432696320) (v := d) (q := 32) 5 rfl (by omega) (by omega) (by omega) (by omega) (by omega)
 have o2 := cY Tryd.prog 71 false (x := 2432696320 + d) (v := n) (p := 32) (q := 32) 5 5 rfl rfl (by omega) (by omega) (by omega) (by omega) (by omega)
 have o3 := cY Tryd.prog 71 false (x := 2432696320 + d + n * 32) (v := m) (p := 65536) (q := 1) 16 0 rfl rfl (by omega) (by omega) (by omega) (by omega) (by omega)
 have e4 : eE 10 a imm = imm * 1024 := rfl
 have o4 : aQ Tryd.prog .or 71 false (cX (2432696320 + d + n * 32 + m * 65536)) (cX (eE 10 a imm)) = some (cX (2432696320 + d + n * 32 + m * 65536 + eE 10 a imm)) := by
  rw [e4]
  exact kF Tryd.prog 71 false ((fU (x := 2432696320 + d + n * 32 + m * 65536) (v := imm) (p := 1024) (q := 4096) 10 12 rfl rfl (by omega) (by omega) (by omega) (by omega))) (by omega)
 have ef : aN 10 = ⟨(aN 10).nm, 2432696320, true, true, false, (aN 10).a, (aN 10).b⟩ := rfl
 have eo : jQ 10 = true := rfl
 have ew : cI ⟨10, d, n, m, a, imm⟩ = 2432696320 + d + n * 32 + m * 65536 + eE 10 a imm := rfl
 rw [ew]
 rw [eo, ef] at r1
 rw [ef] at r2
 rw [bA.step]
 unfold bA.c
 unfold Form.v at r1 r2
 clear e4 ef eo h ew
 generalize (aN 10).nm = nm at *
 generalize (aN 10).a = fa at *
 generalize (aN 10).b = fb at *
 generalize eE 10 a imm = z at *
 refine dX ?_
 have fx := aOO r1 <| aOO r2 <| aOO r3 <| aOO c1 <| aOO c2 <| aOO c3 <| aOO s1 <| aOO s2 <| aOO o1 <| aOO o2 <| aOO o3 <| o4
 refine gC ?_
 exact w2 rfl rfl rfl
theorem aKm (G : aI) (k : Nat) (d n m a imm : Int) (h : aT ⟨11, d, n, m, a, imm⟩ = true) : bA.f G (k + 5) [mV 11 d n m a imm] [] = some (.tup [cX (cI ⟨11, d, n, m, a, imm⟩), .bool true], []) := by
 have r1 : ∀ H, aE (eZ.f G (k + 4)) [.int .i64 11] H = _ := fun H => aD (H := H) (hU G k 11) rfl rfl
 have r2 : ∀ H, aE (dG.f G (k + 4)) [mV 11 d n m a imm, (aN 11).v] H = _ := fun H => aD (H := H) (fR G (k + 1) 11 d n m a imm (aN 11) (fS 11)) rfl rfl
 have r3 : ∀ H, aE (cG.f G (k + 4)) [mV 11 d n m a imm] H = _ := fun H => aD (H := H) (eU G (k + 3) ⟨11, d, n, m, a, imm⟩ h) rfl rfl
 unfold aT at h
 rw [Bool.and_eq_true] at h
 obtain ⟨_, h⟩ := h
 simp only at h
 rw [h] at r2
 simp [aN, dS, fP, dA, fW, dU, dB] at h
 have c1 : aJ .u32 (I6 d) = some (cX d) := bB (by omega) (by omega)
 have c2 : aJ .u32 (I6 n) = some (cX n) := bB (by omega) (by omega)
 have c3 : aJ .u32 (I6 m) = some (cX m) := bB (by omega) (by omega)
 have s1 := cN Tryd.prog 71 true (v := n) (p := 32) (b := 5) 5 rfl (by decide) rfl (by omega) (by omega)
 have s2 := cN Tryd.prog 71 true (v := m) (p := 65536) (b := 16) 16 rfl (by decide) rfl (by omega) (by omega)
 have o1 := gJ Tryd.prog 71 false (x := 3506438144) (v := d) (q := 32) 5 rfl (by omega) (by omega) (by omega) (by omega) (by omega)
 have o2 := cY Tryd.prog 71 false (x := 3506438144 + d) (v := n) (p := 32) (q := 32) 5 5 rfl rfl (by omega) (by omega) (by omega) (by omega) (by omega)
 have o3 := cY Tryd.prog 71 false (x := 3506438144 + d + n * 32) (v := m) (p := 65536) (q := 1) 16 0 rfl rfl (by omega) (by omega) (by omega) (by omega) (by omega)
 have e4 : eE 11 a imm = imm * 1024 := rfl
 have o4 : aQ Tryd.prog .or 71 false (cX (3506438144 + d + n * 32 + m * 65536)) (cX (eE 11 a imm)) = some (cX (3506438144 + d + n * 32 + m * 65536 + eE 11 a imm)) := by
  rw [e4]
  exact kF Tryd.prog 71 false ((fU (x := 3506438144 + d + n * 32 + m * 65536) (v := imm) (p := 1024) (q := 4096) 10 12 rfl rfl (by omega) (by omega) (by omega) (by omega))) (by omega)
 have ef : aN 11 = ⟨(aN 11).nm, 3506438144, true, true, false, (aN 11).a, (aN 11).b⟩ := rfl
 have eo : jQ 11 = true := rfl
 have ew : cI ⟨11, d, n, m, a, imm⟩ = 3506438144 + d + n * 32 + m * 65536 + eE 11 a imm := rfl
 rw [ew]
 rw [eo, ef] at r1
 rw [ef] at r2
 rw [bA.step]
 unfold bA.c
 unfold Form.v at r1 r2
 clear e4 ef eo h ew
 generalize (aN 11).nm = nm at *
 generalize (aN 11).a = fa at *
 generalize (aN 11).b = fb at *
 generalize eE 11 a imm = z at *
 refine dX ?_
 have fx := aOO r1 <| aOO r2 <| aOO r3 <| aOO c1 <| aOO c2 <| aOO c3 <| aOO s1 <| aOO s2 <| aOO o1 <| aOO o2 <| aOO o3 <| o4
 refine gC ?_
 exact w2 rfl rfl rfl
theorem aKn (G : aI) (k : Nat) (d n m a imm : Int) (h : aT ⟨12, d, n, m, a, imm⟩ = true) : bA.f G (k + 5) [mV 12 d n m a imm] [] = some (.tup [cX (cI ⟨12, d, n, m, a, imm⟩), .bool true], []) := by
 have r1 : ∀ H, aE (eZ.f G (k + 4)) [.int .i64 12] H = _ := fun H => aD (H := H) (hU G k 12) rfl rfl
 have r2 : ∀ H, aE (dG.f G (k + 4)) [mV 12 d n m a imm, (aN 12).v] H = _ := fun H => aD (H := H) (fR G (k + 1) 12 d n m a imm (aN 12) (fS 12)) rfl rfl
 have r3 : ∀ H, aE (cG.f G (k + 4)) [mV 12 d n m a imm] H = _ := fun H => aD (H := H) (eU G (k + 3) ⟨12, d, n, m, a, imm⟩ h) rfl rfl
 unfold aT at h
 rw [Bool.and_eq_true] at h
 obtain ⟨_, h⟩ := h
 simp only at h
 rw [h] at r2
 simp [aN, dS, fP, dA, fW, dU, dB] at h
 have c1 : aJ .u32 (I6 d) = some (cX d) := bB (by omega) (by omega)
 have c2 : aJ .u32 (I6 n) = some (cX n) := bB (by omega) (by omega)
 have c3 : aJ .u32 (I6 m) = some (cX m) := bB (by omega) (by omega)
 have s1 := cN Tryd.prog 71 true (v := n) (p := 32) (b := 5) 5 rfl (by decide) rfl (by omega) (by omega)
 have s2 := cN Tryd.prog 71 true (v := m) (p := 65536) (b := 16) 16 rfl (by decide) rfl (by omega) (by omega)
 have o1 := gJ Tryd.prog 71 false (x := 3544186880) (v := d) (q := 32) 5 rfl (by omega) (by omega) (by omega) (by omega) (by omega)
 have o2 := cY Tryd.prog 71 false (x := 3544186880 + d) (v := n) (p := 32) (q := 32) 5 5 rfl rfl (by omega) (by omega) (by omega) (by omega) (by omega)
 have o3 := cY Tryd.prog 71 false (x := 3544186880 + d + n * 32) (v := m) (p := 65536) (q := 1) 16 0 rfl rfl (by omega) (by omega) (by omega) (by omega) (by omega)
 have e4 : eE 12 a imm = (64 - imm) % 64 * 65536 + (63 - imm) * 1024 := rfl
 have o4 : aQ Tryd.prog .or 71 false (cX (3544186880 + d + n * 32 + m * 65536)) (cX (eE 12 a imm)) = some (cX (3544186880 + d + n * 32 + m * 65536 + eE 12 a imm)) := by
  rw [e4]
  exact kF Tryd.prog 71 false (yK (fU (x := 3544186880 + d + n * 32 + m * 65536) (v := (64 - imm) % 64) (p := 65536) (q := 64) 16 6 rfl rfl (by omega) (by omega) (by omega) (by omega)) (fU (x := 3544186880 + d + n * 32 + m * 65536) (v := (63 - imm)) (p := 1024) (q := 64) 10 6 rfl rfl (by omega) (by omega) (by omega) (by omega)) (fU (x := (64 - imm) % 64 * 65536) (v := (63 - imm)) (p := 1024) (q := 64) 10 6 rfl rfl (by omega) (by omega) (by omega) (by omega)) (by omega)) (by omega)
 have ef : aN 12 = ⟨(aN 12).nm, 3544186880, true, true, false, (aN 12).a, (aN 12).b⟩ := rfl
 have eo : jQ 12 = true := rfl
 have ew : cI ⟨12, d, n, m, a, imm⟩ = 3544186880 + d + n * 32 + m * 65536 + eE 12 a imm := rfl
 rw [ew]
 rw [eo, ef] at r1
 rw [ef] at r2
 rw [bA.step]
 unfold bA.c
 unfold Form.v at r1 r2
 clear e4 ef eo h ew
 generalize (aN 12).nm = nm at *
 generalize (aN 12).a = fa at *
 generalize (aN 12).b = fb at *
 generalize eE 12 a imm = z at *
 refine dX ?_
 have fx := aOO r1 <| aOO r2 <| aOO r3 <| aOO c1 <| aOO c2 <| aOO c3 <| aOO s1 <| aOO s2 <| aOO o1 <| aOO o2 <| aOO o3 <| o4
 refine gC ?_
 exact w2 rfl rfl rfl
theorem aKo (G : aI) (k : Nat) (d n m a imm : Int) (h : aT ⟨13, d, n, m, a, imm⟩ = true) : bA.f G (k + 5) [mV 13 d n m a imm] [] = some (.tup [cX (cI ⟨13, d, n, m, a, imm⟩), .bool true], []) := by
 have r1 : ∀ H, aE (eZ.f G (k + 4)) [.int .i64 13] H = _ := fun H => aD (H := H) (hU G k 13) rfl rfl
 have r2 : ∀ H, aE (dG.f G (k + 4)) [mV 13 d n m a imm, (aN 13).v] H = _ := fun H => aD (H := H) (fR G (k + 1) 13 d n m a imm (aN 13) (fS 13)) rfl rfl
 have r3 : ∀ H, aE (cG.f G (k + 4)) [mV 13 d n m a imm] H = _ := fun H => aD (H := H) (eU G (k + 3) ⟨13, d, n, m, a, imm⟩ h) rfl rfl
 unfold aT at h
 rw [Bool.and_eq_true] at h
 obtain ⟨_, h⟩ := h
 simp only at h
 rw [h] at r2
 simp [aN, dS, fP, dA, fW, dU, dB] at h
 have c1 : aJ .u32 (I6 d) = some (cX d) := bB (by omega) (by omega)
 have c2 : aJ .u32 (I6 n) = some (cX n) := bB (by omega) (by omega)
 have c3 : aJ .u32 (I6 m) = some (cX m) := bB (by omega) (by omega)
 have s1 := cN Tryd.prog 71 true (v := n) (p := 32) (b := 5) 5 rfl (by decide) rfl (by omega) (by omega)
 have s2 := cN Tryd.prog 71 true (v := m) (p := 65536) (b := 16) 16 rfl (by decide) rfl (by omega) (by omega)
 have o1 := gJ Tryd.prog 71 false (x := 3544186880) (v := d) (q := 32) 5 rfl (by omega) (by omega) (by omega) (by omega) (by omega)
 have o2 := cY Tryd.prog 71 false (x := 3544186880 + d) (v := n) (p := 32) (q := 32) 5 5 rfl rfl (by omega) (by omega) (by omega) (by omega) (by omega)
 have o3 := cY Tryd.prog 71 false (x := 3544186880 + d + n * 32) (v := m) (p := 65536) (q := 1) 16 0 rfl rfl (by omega) (by omega) (by omega) (by omega) (by omega)
 have e4 : eE 13 a imm = imm * 65536 + 63 * 1024 := rfl
 have o4 : aQ Tryd.prog .or 71 false (cX (3544186880 + d + n * 32 + m * 65536)) (cX (eE 13 a imm)) = some (cX (3544186880 + d + n * 32 + m * 65536 + eE 13 a imm)) := by
  rw [e4]
  exact kF Tryd.prog 71 false (yK (fU (x := 3544186880 + d + n * 32 + m * 65536) (v := imm) (p := 65536) (q := 64) 16 6 rfl rfl (by omega) (by omega) (by omega) (by omega)) (fU (x := 3544186880 + d + n * 32 + m * 65536) (v := 63) (p := 1024) (q := 64) 10 6 rfl rfl (by omega) (by omega) (by omega) (by omega)) (fU (x := imm * 65536) (v := 63) (p := 1024) (q := 64) 10 6 rfl rfl (by omega) (by omega) (by omega) (by omega)) (by omega)) (by omega)
 have ef : aN 13 = ⟨(aN 13).nm, 3544186880, true, true, false, (aN 13).a, (aN 13).b⟩ := rfl
 have eo : jQ 13 = true := rfl
 have ew : cI ⟨13, d, n, m, a, imm⟩ = 3544186880 + d + n * 32 + m * 65536 + eE 13 a imm := rfl
 rw [ew]
 rw [eo, ef] at r1
 rw [ef] at r2
 rw [bA.step]
 unfold bA.c
 unfold Form.v at r1 r2
 clear e4 ef eo h ew
 generalize (aN 13).nm = nm at *
 generalize (aN 13).a = fa at *
 generalize (aN 13).b = fb at *
 generalize eE 13 a imm = z at *
 refine dX ?_
 have fx := aOO r1 <| aOO r2 <| aOO r3 <| aOO c1 <| aOO c2 <| aOO c3 <| aOO s1 <| aOO s2 <| aOO o1 <| aOO o2 <| aOO o3 <| o4
 refine gC ?_
 exact w2 rfl rfl rfl
theorem aKp (G : aI) (k : Nat) (d n m a imm : Int) (h : aT ⟨14, d, n, m, a, imm⟩ = true) : bA.f G (k + 5) [mV 14 d n m a imm] [] = some (.tup [cX (cI ⟨14, d, n, m, a, imm⟩), .bool true], []) := by
 have r1 : ∀ H, aE (eZ.f G (k + 4)) [.int .i64 14] H = _ := fun H => aD (H := H) (hU G k 14) rfl rfl
 have r2 : ∀ H, aE (dG.f G (k + 4)) [mV 14 d n m a imm, (aN 14).v] H = _ := fun H => aD (H := H) (fR G (k + 1) 14 d n m a imm (aN 14) (fS 14)) rfl rfl
 have r3 : ∀ H, aE (cG.f G (k + 4)) [mV 14 d n m a imm] H = _ := fun H => aD (H := H) (eU G (k + 3) ⟨14, d, n, m, a, imm⟩ h) rfl rfl
 unfold aT at h
 rw [Bool.and_eq_true] at h
 obtain ⟨_, h⟩ := h
 simp only at h
 rw [h] at r2
 simp [aN, dS, fP, dA, fW, dU, dB] at h
 have c1 : aJ .u32 (I6 d) = some (cX d) := bB (by omega) (by omega)
 have c2 : aJ .u32 (I6 n) = some (cX n) := bB (by omega) (by omega)
 have c3 : aJ .u32 (I6 m) = some (cX m) := bB (by omega) (by omega)
 have s1 := cN Tryd.prog 71 true (v := n) (p := 32) (b := 5) 5 rfl (by decide) rfl (by omega) (by omega)
 have s2 := cN Tryd.prog 71 true (v := m) (p := 65536) (b := 16) 16 rfl (by decide) rfl (by omega) (by omega)
 have o1 := gJ Tryd.prog 71 false (x := 2470509568) (v := d) (q := 32) 5 rfl (by omega) (by omega) (by omega) (by omega) (by omega)
 have o2 := cY Tryd.prog 71 false (x := 2470509568 + d) (v := n) (p := 32) (q := 32) 5 5 rfl rfl (by omega) (by omega) (by omega) (by omega) (by omega)
 have o3 := cY Tryd.prog 71 false (x := 2470509568 + d + n * 32) (v := m) (p := 65536) (q := 1) 16 0 rfl rfl (by omega) (by omega) (by omega) (by omega) (by omega)
 have e4 : eE 14 a imm = imm * 65536 := rfl
 have o4 : aQ Tryd.prog .or 71 false (cX (2470509568 + d + n * 32 + m * 65536)) (cX (eE 14 a imm)) = some (cX (2470509568 + d + n * 32 + m * 65536 + eE 14 a imm)) := by
  rw [e4]
  exact kF Tryd.prog 71 false ((fU (x := 2470509568 + d + n * 32 + m * 65536) (v := imm) (p := 65536) (q := 64) 16 6 rfl rfl (by omega) (by omega) (by omega) (by omega))) (by omega)
 have ef : aN 14 = ⟨(aN 14).nm, 2470509568, true, true, false, (aN 14).a, (aN 14).b⟩ := rfl
 have eo : jQ 14 = true := rfl
 have ew : cI ⟨14, d, n, m, a, imm⟩ = 2470509568 + d + n * 32 + m * 65536 + eE 14 a imm := rfl
 rw [ew]
 rw [eo, ef] at r1
 rw [ef] at r2
 rw [bA.step]
 unfold bA.c
 unfold Form.v at r1 r2
 clear e4 ef eo h ew
 generalize (aN 14).nm = nm at *
 generalize (aN 14).a = fa at *
 generalize (aN 14).b = fb at *
 generalize eE 14 a imm = z at *
 refine dX ?_
 have fx := aOO r1 <| aOO r2 <| aOO r3 <| aOO c1 <| aOO c2 <| aOO c3 <| aOO s1 <| aOO s2 <| aOO o1 <| aOO o2 <| aOO o3 <| o4
 refine gC ?_
 exact w2 rfl rfl rfl
theorem aKq (G : aI) (k : Nat) (d n m a imm : Int) (h : aT ⟨15, d, n, m, a, imm⟩ = true) : bA.f G (k + 5) [mV 15 d n m a imm] [] = some (.tup [cX (cI ⟨15, d, n, m, a, imm⟩), .bool true], []) := by
 have r1 : ∀ H, aE (eZ.f G (k + 4)) [.int .i64 15] H = _ := fun H => aD (H := H) (hU G k 15) rfl rfl
 have r2 : ∀ H, aE (dG.f G (k + 4)) [mV 15 d n m a imm, (aN 15).v] H = _ := fun H => aD (H := H) (fR G (k + 1) 15 d n m a imm (aN 15) (fS 15)) rfl rfl
 have r3 : ∀ H, aE (cG.f G (k + 4)) [mV 15 d n m a imm] H = _ := fun H => aD (H := H) (eU G (k + 3) ⟨15, d, n, m, a, imm⟩ h) rfl rfl
 unfold aT at h
 rw [Bool.and_eq_true] at h
 obtain ⟨_, h⟩ := h
 simp only at h
 rw [h] at r2
 simp [aN, dS, fP, dA, fW, dU, dB] at h
 have c1 : aJ .u32 (I6 d) = some (cX d) := bB (by omega) (by omega)
 have c2 : aJ .u32 (I6 n) = some (cX n) := bB (by omega) (by omega)
 have c3 : aJ .u32 (I6 m) = some (cX m) := bB (by omega) (by omega)
 have s1 := cN Tryd.prog 71 true (v := n) (p := 32) (b := 5) 5 rfl (by decide) rfl (by omega) (by omega)
 have s2 := cN Tryd.prog 71 true (v := m) (p := 65536) (b := 16) 16 rfl (by decide) rfl (by omega) (by omega)
 have o1 := gJ Tryd.prog 71 false (x := 3942645791) (v := d) (q := 1) 0 rfl (by omega) (by omega) (by omega) (by omega) (by omega)
 have o2 := cY Tryd.prog 71 false (x := 3942645791 + d) (v := n) (p := 32) (q := 32) 5 5 rfl rfl (by omega) (by omega) (by omega) (by omega) (by omega)
 have o3 := cY Tryd.prog 71 false (x := 3942645791 + d + n * 32) (v := m) (p := 65536) (q := 32) 16 5 rfl rfl (by omega) (by omega) (by omega) (by omega) (by omega)
 have e4 : eE 15 a imm = 0 := rfl
 have o4 : aQ Tryd.prog .or 71 false (cX (3942645791 + d + n * 32 + m * 65536)) (cX (eE 15 a imm)) = some (cX (3942645791 + d + n * 32 + m * 65536 + eE 15 a imm)) := by
  rw [e4]
  exact kF Tryd.prog 71 false (pJ (x := 3942645791 + d + n * 32 + m * 65536) (by omega)) (by omega)
 have ef : aN 15 = ⟨(aN 15).nm, 3942645791, false, true, true, (aN 15).a, (aN 15).b⟩ := rfl
 have eo : jQ 15 = true := rfl
 have ew : cI ⟨15, d, n, m, a, imm⟩ = 3942645791 + d + n * 32 + m * 65536 + eE 15 a imm := rfl
 rw [ew]
 rw [eo, ef] at r1
 rw [ef] at r2
 rw [bA.step]
 unfold bA.c
 unfold Form.v at r1 r2
 clear e4 ef eo h ew
 generalize (aN 15).nm = nm at *
 generalize (aN 15).a = fa at *
 generalize (aN 15).b = fb at *
 generalize eE 15 a imm = z at *
 refine dX ?_
 have fx := aOO r1 <| aOO r2 <| aOO r3 <| aOO c1 <| aOO c2 <| aOO c3 <| aOO s1 <| aOO s2 <| aOO o1 <| aOO o2 <| aOO o3 <| o4
 refine gC ?_
 exact w2 rfl rfl rfl
theorem aKr (G : aI) (k : Nat) (d n m a imm : Int) (h : aT ⟨16, d, n, m, a, imm⟩ = true) : bA.f G (k + 5) [mV 16 d n m a imm] [] = some (.tup [cX (cI ⟨16, d, n, m, a, imm⟩), .bool true], []) := by
 have r1 : ∀ H, aE (eZ.f G (k + 4)) [.int .i64 16] H = _ := fun H => aD (H := H) (hU G k 16) rfl rfl
 have r2 : ∀ H, aE (dG.f G (k + 4)) [mV 16 d n m a imm, (aN 16).v] H = _ := fun H => aD (H := H) (fR G (k + 1) 16 d n m a imm (aN 16) (fS 16)) rfl rfl
 have r3 : ∀ H, aE (cG.f G (k + 4)) [mV 16 d n m a imm] H = _ := fun H => aD (H := H) (eU G (k + 3) ⟨16, d, n, m, a, imm⟩ h) rfl rfl
 unfold aT at h
 rw [Bool.and_eq_true] at h
 obtain ⟨_, h⟩ := h
 simp only at h
 rw [h] at r2
 simp [aN, dS, fP, dA, fW, dU, dB] at h
 have c1 : aJ .u32 (I6 d) = some (cX d) := bB (by omega) (by omega)
 have c2 : aJ .u32 (I6 n) = some (cX n) := bB (by omega) (by omega)
 have c3 : aJ .u32 (I6 m) = some (cX m) := bB (by omega) (by omega)
 have s1 := cN Tryd.prog 71 true (v := n) (p := 32) (b := 5) 5 rfl (by decide) rfl (by omega) (by omega)
 have s2 := cN Tryd.prog 71 true (v := m) (p := 65536) (b := 16) 16 rfl (by decide) rfl (by omega) (by omega)
 have o1 := gJ Tryd.prog 71 false (x := 2592079872) (v := d) (q := 32) 5 rfl (by omega) (by omega) (by omega) (by omega) (by omega)
 have o2 := cY Tryd.prog 71 false (x := 2592079872 + d) (v := n) (p := 32) (q := 32) 5 5 rfl rfl (by omega) (by omega) (by omega) (by omega) (by omega)
 have o3 := cY Tryd.prog 71 false (x := 2592079872 + d + n * 32) (v := m) (p := 65536) (q := 32) 16 5 rfl rfl (by omega) (by omega) (by omega) (by omega) (by omega)
 have e4 : eE 16 a imm = a * 4096 := rfl
 have o4 : aQ Tryd.prog .or 71 false (cX (2592079872 + d + n * 32 + m * 65536)) (cX (eE 16 a imm)) = some (cX (2592079872 + d + n * 32 + m * 65536 + eE 16 a imm)) := by
  rw [e4]
  exact kF Tryd.prog 71 false ((fU (x := 2592079872 + d + n * 32 + m * 65536) (v := a) (p := 4096) (q := 16) 12 4 rfl rfl (by omega) (by omega) (by omega) (by omega))) (by omega)
 have ef : aN 16 = ⟨(aN 16).nm, 2592079872, true, true, true, (aN 16).a, (aN 16).b⟩ := rfl
 have eo : jQ 16 = true := rfl
 have ew : cI ⟨16, d, n, m, a, imm⟩ = 2592079872 + d + n * 32 + m * 65536 + eE 16 a imm := rfl
 rw [ew]
 rw [eo, ef] at r1
 rw [ef] at r2
 rw [bA.step]
 unfold bA.c
 unfold Form.v at r1 r2
 clear e4 ef eo h ew
 generalize (aN 16).nm = nm at *
 generalize (aN 16).a = fa at *
 generalize (aN 16).b = fb at *
 generalize eE 16 a imm = z at *
 refine dX ?_
 have fx := aOO r1 <| aOO r2 <| aOO r3 <| aOO c1 <| aOO c2 <| aOO c3 <| aOO s1 <| aOO s2 <| aOO o1 <| aOO o2 <| aOO o3 <| o4
 refine gC ?_
 exact w2 rfl rfl rfl
theorem aKs (G : aI) (k : Nat) (d n m a imm : Int) (h : aT ⟨17, d, n, m, a, imm⟩ = true) : bA.f G (k + 5) [mV 17 d n m a imm] [] = some (.tup [cX (cI ⟨17, d, n, m, a, imm⟩), .bool true], []) := by
 have r1 : ∀ H, aE (eZ.f G (k + 4)) [.int .i64 17] H = _ := fun H => aD (H := H) (hU G k 17) rfl rfl
 have r2 : ∀ H, aE (dG.f G (k + 4)) [mV 17 d n m a imm, (aN 17).v] H = _ := fun H => aD (H := H) (fR G (k + 1) 17 d n m a imm (aN 17) (fS 17)) rfl rfl
 have r3 : ∀ H, aE (cG.f G (k + 4)) [mV 17 d n m a imm] H = _ := fun H => aD (H := H) (eU G (k + 3) ⟨17, d, n, m, a, imm⟩ h) rfl rfl
 unfold aT at h
 rw [Bool.and_eq_true] at h
 obtain ⟨_, h⟩ := h
 simp only at h
 rw [h] at r2
 simp [aN, dS, fP, dA, fW, dU, dB] at h
 have c1 : aJ .u32 (I6 d) = some (cX d) := bB (by omega) (by omega)
 have c2 : aJ .u32 (I6 n) = some (cX n) := bB (by omega) (by omega)
 have c3 : aJ .u32 (I6 m) = some (cX m) := bB (by omega) (by omega)
 have s1 := cN Tryd.prog 71 true (v := n) (p := 32) (b := 5) 5 rfl (by decide) rfl (by omega) (by omega)
 have s2 := cN Tryd.prog 71 true (v := m) (p := 65536) (b := 16) 16 rfl (by decide) rfl (by omega) (by omega)
 have o1 := gJ Tryd.prog 71 false (x := 2594113504) (v := d) (q := 32) 5 rfl (by omega) (by omega) (by omega) (by omega) (by omega)
 have o2 := cY Tryd.prog 71 false (x := 2594113504 + d) (v := n) (p := 32) (q := 1) 5 0 rfl rfl (by omega) (by omega) (by omega) (by omega) (by omega)
 have o3 := cY Tryd.prog 71 false (x := 2594113504 + d + n * 32) (v := m) (p := 65536) (q := 1) 16 0 rfl rfl (by omega) (by omega) (by omega) (by omega) (by omega)
 have e4 : eE 17 a imm = (if a % 2 = 0 then a + 1 else a - 1) * 4096 := rfl
 have o4 : aQ Tryd.prog .or 71 false (cX (2594113504 + d + n * 32 + m * 65536)) (cX (eE 17 a imm)) = some (cX (2594113504 + d + n * 32 + m * 65536 + eE 17 a imm)) := by
  rw [e4]
  exact kF Tryd.prog 71 false ((fU (x := 2594113504 + d + n * 32 + m * 65536) (v := (if a % 2 = 0 then a + 1 else a - 1)) (p := 4096) (q := 16) 12 4 rfl rfl (by omega) (by split <;> omega) (by split <;> omega) (by omega))) (by split <;> omega)
 have ef : aN 17 = ⟨(aN 17).nm, 2594113504, true, false, false, (aN 17).a, (aN 17).b⟩ := rfl
 have eo : jQ 17 = true := rfl
 have ew : cI ⟨17, d, n, m, a, imm⟩ = 2594113504 + d + n * 32 + m * 65536 + eE 17 a imm := rfl
 rw [ew]
 rw [eo, ef] at r1
 rw [ef] at r2
 rw [bA.step]
 unfold bA.c
 unfold Form.v at r1 r2
 clear e4 ef eo h ew
 generalize (aN 17).nm = nm at *
 generalize (aN 17).a = fa at *
 generalize (aN 17).b = fb at *
 generalize eE 17 a imm = z at *
 refine dX ?_
 have fx := aOO r1 <| aOO r2 <| aOO r3 <| aOO c1 <| aOO c2 <| aOO c3 <| aOO s1 <| aOO s2 <| aOO o1 <| aOO o2 <| aOO o3 <| o4
 refine gC ?_
 exact w2 rfl rfl rfl
theorem aKt (G : aI) (k : Nat) (d n m a imm : Int) (h : aT ⟨18, d, n, m, a, imm⟩ = true) : bA.f G (k + 5) [mV 18 d n m a imm] [] = some (.tup [cX (cI ⟨18, d, n, m, a, imm⟩), .bool true], []) := by
 have r1 : ∀ H, aE (eZ.f G (k + 4)) [.int .i64 18] H = _ := fun H => aD (H := H) (hU G k 18) rfl rfl
 have r2 : ∀ H, aE (dG.f G (k + 4)) [mV 18 d n m a imm, (aN 18).v] H = _ := fun H => aD (H := H) (fR G (k + 1) 18 d n m a imm (aN 18) (fS 18)) rfl rfl
 have r3 : ∀ H, aE (cG.f G (k + 4)) [mV 18 d n m a imm] H = _ := fun H => aD (H := H) (eU G (k + 3) ⟨18, d, n, m, a, imm⟩ h) rfl rfl
 unfold aT at h
 rw [Bool.and_eq_true] at h
 obtain ⟨_, h⟩ := h
 simp only at h
 rw [h] at r2
 simp [aN, dS, fP, dA, fW, dU, dB] at h
 have c1 : aJ .u32 (I6 d) = some (cX d) := bB (by omega) (by omega)
 have c2 : aJ .u32 (I6 n) = some (cX n) := bB (by omega) (by omega)
 have c3 : aJ .u32 (I6 m) = some (cX m) := bB (by omega) (by omega)
 have s1 := cN Tryd.prog 71 true (v := n) (p := 32) (b := 5) 5 rfl (by decide) rfl (by omega) (by omega)
 have s2 := cN Tryd.prog 71 true (v := m) (p := 65536) (b := 16) 16 rfl (by decide) rfl (by omega) (by omega)
 have o1 := gJ Tryd.prog 71 false (x := 4181721088) (v := d) (q := 32) 5 rfl (by omega) (by omega) (by omega) (by omega) (by omega)
 have o2 := cY Tryd.prog 71 false (x := 4181721088 + d) (v := n) (p := 32) (q := 32) 5 5 rfl rfl (by omega) (by omega) (by omega) (by omega) (by omega)
 have o3 := cY Tryd.prog 71 false (x := 4181721088 + d + n * 32) (v := m) (p := 65536) (q := 1) 16 0 rfl rfl (by omega) (by omega) (by omega) (by omega) (by omega)
 have e4 : eE 18 a imm = imm * 1024 := rfl
 have o4 : aQ Tryd.prog .or 71 false (cX (4181721088 + d + n * 32 + m * 65536)) (cX (eE 18 a imm)) = some (cX (4181721088 + d + n * 32 + m * 65536 + eE 18 a imm)) := by
  rw [e4]
  exact kF Tryd.prog 71 false ((fU (x := 4181721088 + d + n * 32 + m * 65536) (v := imm) (p := 1024) (q := 4096) 10 12 rfl rfl (by omega) (by omega) (by omega) (by omega))) (by omega)
 have ef : aN 18 = ⟨(aN 18).nm, 4181721088, true, true, false, (aN 18).a, (aN 18).b⟩ := rfl
 have eo : jQ 18 = true := rfl
 have ew : cI ⟨18, d, n, m, a, imm⟩ = 4181721088 + d + n * 32 + m * 65536 + eE 18 a imm := rfl
 rw [ew]
 rw [eo, ef] at r1
 rw [ef] at r2
 rw [bA.step]
 unfold bA.c
 unfold Form.v at r1 r2
 clear e4 ef eo h ew
 generalize (aN 18).nm = nm at *
 generalize (aN 18).a = fa at *
 generalize (aN 18).b = fb at *
 generalize eE 18 a imm = z at *
 refine dX ?_
 have fx := aOO r1 <| aOO r2 <| aOO r3 <| aOO c1 <| aOO c2 <| aOO c3 <| aOO s1 <| aOO s2 <| aOO o1 <| aOO o2 <| aOO o3 <| o4
 refine gC ?_
 exact w2 rfl rfl rfl
theorem aKu (G : aI) (k : Nat) (d n m a imm : Int) (h : aT ⟨19, d, n, m, a, imm⟩ = true) : bA.f G (k + 5) [mV 19 d n m a imm] [] = some (.tup [cX (cI ⟨19, d, n, m, a, imm⟩), .bool true], []) := by
 have r1 : ∀ H, aE (eZ.f G (k + 4)) [.int .i64 19] H = _ := fun H => aD (H := H) (hU G k 19) rfl rfl
 have r2 : ∀ H, aE (dG.f G (k + 4)) [mV 19 d n m a imm, (aN 19).v] H = _ := fun H => aD (H := H) (fR G (k + 1) 19 d n m a imm (aN 19) (fS 19)) rfl rfl
 have r3 : ∀ H, aE (cG.f G (k + 4)) [mV 19 d n m a imm] H = _ := fun H => aD (H := H) (eU G (k + 3) ⟨19, d, n, m, a, imm⟩ h) rfl rfl
 unfold aT at h
 rw [Bool.and_eq_true] at h
 obtain ⟨_, h⟩ := h
 simp only at h
 rw [h] at r2
 simp [aN, dS, fP, dA, fW, dU, dB] at h
 have c1 : aJ .u32 (I6 d) = some (cX d) := bB (by omega) (by omega)
 have c2 : aJ .u32 (I6 n) = some (cX n) := bB (by omega) (by omega)
 have c3 : aJ .u32 (I6 m) = some (cX m) := bB (by omega) (by omega)
 have s1 := cN Tryd.prog 71 true (v := n) (p := 32) (b := 5) 5 rfl (by decide) rfl (by omega) (by omega)
 have s2 := cN Tryd.prog 71 true (v := m) (p := 65536) (b := 16) 16 rfl (by decide) rfl (by omega) (by omega)
 have o1 := gJ Tryd.prog 71 false (x := 4177526784) (v := d) (q := 32) 5 rfl (by omega) (by omega) (by omega) (by omega) (by omega)
 have o2 := cY Tryd.prog 71 false (x := 4177526784 + d) (v := n) (p := 32) (q := 32) 5 5 rfl rfl (by omega) (by omega) (by omega) (by omega) (by omega)
 have o3 := cY Tryd.prog 71 false (x := 4177526784 + d + n * 32) (v := m) (p := 65536) (q := 1) 16 0 rfl rfl (by omega) (by omega) (by omega) (by omega) (by omega)
 have e4 : eE 19 a imm = imm * 1024 := rfl
 have o4 : aQ Tryd.prog .or 71 false (cX (4177526784 + d + n * 32 + m * 65536)) (cX (eE 19 a imm)) = some (cX (4177526784 + d + n * 32 + m * 65536 + eE 19 a imm)) := by
  rw [e4]
  exact kF Tryd.prog 71 false ((fU (x := 4177526784 + d + n * 32 + m * 65536) (v := imm) (p := 1024) (q := 4096) 10 12 rfl rfl (by omega) (by omega) (by omega) (by omega))) (by omega)
 have ef : aN 19 = ⟨(aN 19).nm, 4177526784, true, true, false, (aN 19).a, (aN 19).b⟩ := rfl
 have eo : jQ 19 = true := rfl
 have ew : cI ⟨19, d, n, m, a, imm⟩ = 4177526784 + d + n * 32 + m * 65536 + eE 19 a imm := rfl
 rw [ew]
 rw [eo, ef] at r1
 rw [ef] at r2
 rw [bA.step]
 unfold bA.c
 unfold Form.v at r1 r2
 clear e4 ef eo h ew
 generalize (aN 19).nm = nm at *
 generalize (aN 19).a = fa at *
 generalize (aN 19).b = fb at *
 generalize eE 19 a imm = z at *
 refine dX ?_
 have fx := aOO r1 <| aOO r2 <| aOO r3 <| aOO c1 <| aOO c2 <| aOO c3 <| aOO s1 <| aOO s2 <| aOO o1 <| aOO o2 <| aOO o3 <| o4
 refine gC ?_
 exact w2 rfl rfl rfl
theorem aKv (G : aI) (k : Nat) (d n m a imm : Int) (h : aT ⟨20, d, n, m, a, imm⟩ = true) : bA.f G (k + 5) [mV 20 d n m a imm] [] = some (.tup [cX (cI ⟨20, d, n, m, a, imm⟩), .bool true], []) := by
 have r1 : ∀ H, aE (eZ.f G (k + 4)) [.int .i64 20] H = _ := fun H => aD (H := H) (hU G k 20) rfl rfl
 have r2 : ∀ H, aE (dG.f G (k + 4)) [mV 20 d n m a imm, (aN 20).v] H = _ := fun H => aD (H := H) (fR G (k + 1) 20 d n m a imm (aN 20) (fS 20)) rfl rfl
 have r3 : ∀ H, aE (cG.f G (k + 4)) [mV 20 d n m a imm] H = _ := fun H => aD (H := H) (eU G (k + 3) ⟨20, d, n, m, a, imm⟩ h) rfl rfl
 unfold aT at h
 rw [Bool.and_eq_true] at h
 obtain ⟨_, h⟩ := h
 simp only at h
 rw [h] at r2
 simp [aN, dS, fP, dA, fW, dU, dB] at h
 have c1 : aJ .u32 (I6 d) = some (cX d) := bB (by omega) (by omega)
 have c2 : aJ .u32 (I6 n) = some (cX n) := bB (by omega) (by omega)
 have c3 : aJ .u32 (I6 m) = some (cX m) := bB (by omega) (by omega)
 have s1 := cN Tryd.prog 71 true (v := n) (p := 32) (b := 5) 5 rfl (by decide) rfl (by omega) (by omega)
 have s2 := cN Tryd.prog 71 true (v := m) (p := 65536) (b := 16) 16 rfl (by decide) rfl (by omega) (by omega)
 have o1 := gJ Tryd.prog 71 false (x := 335544320) (v := d) (q := 1) 0 rfl (by omega) (by omega) (by omega) (by omega) (by omega)
 have o2 := cY Tryd.prog 71 false (x := 335544320 + d) (v := n) (p := 32) (q := 1) 5 0 rfl rfl (by omega) (by omega) (by omega) (by omega) (by omega)
 have o3 := cY Tryd.prog 71 false (x := 335544320 + d + n * 32) (v := m) (p := 65536) (q := 1) 16 0 rfl rfl (by omega) (by omega) (by omega) (by omega) (by omega)
 have e4 : eE 20 a imm = imm % 67108864 := rfl
 have o4 : aQ Tryd.prog .or 71 false (cX (335544320 + d + n * 32 + m * 65536)) (cX (eE 20 a imm)) = some (cX (335544320 + d + n * 32 + m * 65536 + eE 20 a imm)) := by
  rw [e4]
  exact kF Tryd.prog 71 false ((by have := fU (x := 335544320 + d + n * 32 + m * 65536) (v := imm % 67108864) (p := 1) (q := 67108864) 0 26 rfl rfl (by omega) (by omega) (by omega) (by omega); rwa [Int.mul_one] at this)) (by omega)
 have ef : aN 20 = ⟨(aN 20).nm, 335544320, false, false, false, (aN 20).a, (aN 20).b⟩ := rfl
 have eo : jQ 20 = true := rfl
 have ew : cI ⟨20, d, n, m, a, imm⟩ = 335544320 + d + n * 32 + m * 65536 + eE 20 a imm := rfl
 rw [ew]
 rw [eo, ef] at r1
 rw [ef] at r2
 rw [bA.step]
 unfold bA.c
 unfold Form.v at r1 r2
 clear e4 ef eo h ew
 generalize (aN 20).nm = nm at *
 generalize (aN 20).a = fa at *
 generalize (aN 20).b = fb at *
 generalize eE 20 a imm = z at *
 refine dX ?_
 have fx := aOO r1 <| aOO r2 <| aOO r3 <| aOO c1 <| aOO c2 <| aOO c3 <| aOO s1 <| aOO s2 <| aOO o1 <| aOO o2 <| aOO o3 <| o4
 refine gC ?_
 exact w2 rfl rfl rfl
theorem aKw (G : aI) (k : Nat) (d n m a imm : Int) (h : aT ⟨21, d, n, m, a, imm⟩ = true) : bA.f G (k + 5) [mV 21 d n m a imm] [] = some (.tup [cX (cI ⟨21, d, n, m, a, imm⟩), .bool true], []) := by
 have r1 : ∀ H, aE (eZ.f G (k + 4)) [.int .i64 21] H = _ := fun H => aD (H := H) (hU G k 21) rfl rfl
 have r2 : ∀ H, aE (dG.f G (k + 4)) [mV 21 d n m a imm, (aN 21).v] H = _ := fun H => aD (H := H) (fR G (k + 1) 21 d n m a imm (aN 21) (fS 21)) rfl rfl
 have r3 : ∀ H, aE (cG.f G (k + 4)) [mV 21 d n m a imm] H = _ := fun H => aD (H := H) (eU G (k + 3) ⟨21, d, n, m, a, imm⟩ h) rfl rfl
 unfold aT at h
 rw [Bool.and_eq_true] at h
 obtain ⟨_, h⟩ := h
 simp only at h
 rw [h] at r2
 simp [aN, dS, fP, dA, fW, dU, dB] at h
 have c1 : aJ .u32 (I6 d) = some (cX d) := bB (by omega) (by omega)
 have c2 : aJ .u32 (I6 n) = some (cX n) := bB (by omega) (by omega)
 have c3 : aJ .u32 (I6 m) = some (cX m) := bB (by omega) (by omega)
 have s1 := cN Tryd.prog 71 true (v := n) (p := 32) (b := 5) 5 rfl (by decide) rfl (by omega) (by omega)
 have s2 := cN Tryd.prog 71 true (v := m) (p := 65536) (b := 16) 16 rfl (by decide) rfl (by omega) (by omega)
 have o1 := gJ Tryd.prog 71 false (x := 1409286144) (v := d) (q := 1) 0 rfl (by omega) (by omega) (by omega) (by omega) (by omega)
 have o2 := cY Tryd.prog 71 false (x := 1409286144 + d) (v := n) (p := 32) (q := 1) 5 0 rfl rfl (by omega) (by omega) (by omega) (by omega) (by omega)
 have o3 := cY Tryd.prog 71 false (x := 1409286144 + d + n * 32) (v := m) (p := 65536) (q := 1) 16 0 rfl rfl (by omega) (by omega) (by omega) (by omega) (by omega)
 have e4 : eE 21 a imm = a + imm % 524288 * 32 := rfl
 have o4 : aQ Tryd.prog .or 71 false (cX (1409286144 + d + n * 32 + m * 65536)) (cX (eE 21 a imm)) = some (cX (1409286144 + d + n * 32 + m * 65536 + eE 21 a imm)) := by
  rw [e4]
  exact kF Tryd.prog 71 false (yK (by have := fU (x := 1409286144 + d + n * 32 + m * 65536) (v := a) (p := 1) (q := 16) 0 4 rfl rfl (by omega) (by omega) (by omega) (by omega); rwa [Int.mul_one] at this) (fU (x := 1409286144 + d + n * 32 + m * 65536) (v := imm % 524288) (p := 32) (q := 524288) 5 19 rfl rfl (by omega) (by omega) (by omega) (by omega)) (fU (x := a) (v := imm % 524288) (p := 32) (q := 524288) 5 19 rfl rfl (by omega) (by omega) (by omega) (by omega)) (by omega)) (by omega)
 have ef : aN 21 = ⟨(aN 21).nm, 1409286144, false, false, false, (aN 21).a, (aN 21).b⟩ := rfl
 have eo : jQ 21 = true := rfl
 have ew : cI ⟨21, d, n, m, a, imm⟩ = 1409286144 + d + n * 32 + m * 65536 + eE 21 a imm := rfl
 rw [ew]
 rw [eo, ef] at r1
 rw [ef] at r2
 rw [bA.step]
 unfold bA.c
 unfold Form.v at r1 r2
 clear e4 ef eo h ew
 generalize (aN 21).nm = nm at *
 generalize (aN 21).a = fa at *
 generalize (aN 21).b = fb at *
 generalize eE 21 a imm = z at *
 refine dX ?_
 have fx := aOO r1 <| aOO r2 <| aOO r3 <| aOO c1 <| aOO c2 <| aOO c3 <| aOO s1 <| aOO s2 <| aOO o1 <| aOO o2 <| aOO o3 <| o4
 refine gC ?_
 exact w2 rfl rfl rfl
theorem aKx (G : aI) (k : Nat) (d n m a imm : Int) (h : aT ⟨22, d, n, m, a, imm⟩ = true) : bA.f G (k + 5) [mV 22 d n m a imm] [] = some (.tup [cX (cI ⟨22, d, n, m, a, imm⟩), .bool true], []) := by
 have r1 : ∀ H, aE (eZ.f G (k + 4)) [.int .i64 22] H = _ := fun H => aD (H := H) (hU G k 22) rfl rfl
 have r2 : ∀ H, aE (dG.f G (k + 4)) [mV 22 d n m a imm, (aN 22).v] H = _ := fun H => aD (H := H) (fR G (k + 1) 22 d n m a imm (aN 22) (fS 22)) rfl rfl
 have r3 : ∀ H, aE (cG.f G (k + 4)) [mV 22 d n m a imm] H = _ := fun H => aD (H := H) (eU G (k + 3) ⟨22, d, n, m, a, imm⟩ h) rfl rfl
 unfold aT at h
 rw [Bool.and_eq_true] at h
 obtain ⟨_, h⟩ := h
 simp only at h
 rw [h] at r2
 simp [aN, dS, fP, dA, fW, dU, dB] at h
 have c1 : aJ .u32 (I6 d) = some (cX d) := bB (by omega) (by omega)
 have c2 : aJ .u32 (I6 n) = some (cX n) := bB (by omega) (by omega)
 have c3 : aJ .u32 (I6 m) = some (cX m) := bB (by omega) (by omega)
 have s1 := cN Tryd.prog 71 true (v := n) (p := 32) (b := 5) 5 rfl (by decide) rfl (by omega) (by omega)
 have s2 := cN Tryd.prog 71 true (v := m) (p := 65536) (b := 16) 16 rfl (by decide) rfl (by omega) (by omega)
 have o1 := gJ Tryd.prog 71 false (x := 3019898880) (v := d) (q := 32) 5 rfl (by omega) (by omega) (by omega) (by omega) (by omega)
 have o2 := cY Tryd.prog 71 false (x := 3019898880 + d) (v := n) (p := 32) (q := 1) 5 0 rfl rfl (by omega) (by omega) (by omega) (by omega) (by omega)
 have o3 := cY Tryd.prog 71 false (x := 3019898880 + d + n * 32) (v := m) (p := 65536) (q := 1) 16 0 rfl rfl (by omega) (by omega) (by omega) (by omega) (by omega)
 have e4 : eE 22 a imm = imm % 524288 * 32 := rfl
 have o4 : aQ Tryd.prog .or 71 false (cX (3019898880 + d + n * 32 + m * 65536)) (cX (eE 22 a imm)) = some (cX (3019898880 + d + n * 32 + m * 65536 + eE 22 a imm)) := by
  rw [e4]
  exact kF Tryd.prog 71 false ((fU (x := 3019898880 + d + n * 32 + m * 65536) (v := imm % 524288) (p := 32) (q := 524288) 5 19 rfl rfl (by omega) (by omega) (by omega) (by omega))) (by omega)
 have ef : aN 22 = ⟨(aN 22).nm, 3019898880, true, false, false, (aN 22).a, (aN 22).b⟩ := rfl
 have eo : jQ 22 = true := rfl
 have ew : cI ⟨22, d, n, m, a, imm⟩ = 3019898880 + d + n * 32 + m * 65536 + eE 22 a imm := rfl
 rw [ew]
 rw [eo, ef] at r1
 rw [ef] at r2
 rw [bA.step]
 unfold bA.c
 unfold Form.v at r1 r2
 clear e4 ef eo h ew
 generalize (aN 22).nm = nm at *
 generalize (aN 22).a = fa at *
 generalize (aN 22).b = fb at *
 generalize eE 22 a imm = z at *
 refine dX ?_
 have fx := aOO r1 <| aOO r2 <| aOO r3 <| aOO c1 <| aOO c2 <| aOO c3 <| aOO s1 <| aOO s2 <| aOO o1 <| aOO o2 <| aOO o3 <| o4
 refine gC ?_
 exact w2 rfl rfl rfl
theorem aKy (G : aI) (k : Nat) (d n m a imm : Int) (h : aT ⟨23, d, n, m, a, imm⟩ = true) : bA.f G (k + 5) [mV 23 d n m a imm] [] = some (.tup [cX (cI ⟨23, d, n, m, a, imm⟩), .bool true], []) := by
 have r1 : ∀ H, aE (eZ.f G (k + 4)) [.int .i64 23] H = _ := fun H => aD (H := H) (hU G k 23) rfl rfl
 have r2 : ∀ H, aE (dG.f G (k + 4)) [mV 23 d n m a imm, (aN 23).v] H = _ := fun H => aD (H := H) (fR G (k + 1) 23 d n m a imm (aN 23) (fS 23)) rfl rfl
 have r3 : ∀ H, aE (cG.f G (k + 4)) [mV 23 d n m a imm] H = _ := fun H => aD (H := H) (eU G (k + 3) ⟨23, d, n, m, a, imm⟩ h) rfl rfl
 unfold aT at h
 rw [Bool.and_eq_true] at h
 obtain ⟨_, h⟩ := h
 simp only at h
 rw [h] at r2
 simp [aN, dS, fP, dA, fW, dU, dB] at h
 have c1 : aJ .u32 (I6 d) = some (cX d) := bB (by omega) (by omega)
 have c2 : aJ .u32 (I6 n) = some (cX n) := bB (by omega) (by omega)
 have c3 : aJ .u32 (I6 m) = some (cX m) := bB (by omega) (by omega)
 have s1 := cN Tryd.prog 71 true (v := n) (p := 32) (b := 5) 5 rfl (by decide) rfl (by omega) (by omega)
 have s2 := cN Tryd.prog 71 true (v := m) (p := 65536) (b := 16) 16 rfl (by decide) rfl (by omega) (by omega)
 have o1 := gJ Tryd.prog 71 false (x := 3036676096) (v := d) (q := 32) 5 rfl (by omega) (by omega) (by omega) (by omega) (by omega)
 have o2 := cY Tryd.prog 71 false (x := 3036676096 + d) (v := n) (p := 32) (q := 1) 5 0 rfl rfl (by omega) (by omega) (by omega) (by omega) (by omega)
 have o3 := cY Tryd.prog 71 false (x := 3036676096 + d + n * 32) (v := m) (p := 65536) (q := 1) 16 0 rfl rfl (by omega) (by omega) (by omega) (by omega) (by omega)
 have e4 : eE 23 a imm = imm % 524288 * 32 := rfl
 have o4 : aQ Tryd.prog .or 71 false (cX (3036676096 + d + n * 32 + m * 65536)) (cX (eE 23 a imm)) = some (cX (3036676096 + d + n * 32 + m * 65536 + eE 23 a imm)) := by
  rw [e4]
  exact kF Tryd.prog 71 false ((fU (x := 3036676096 + d + n * 32 + m * 65536) (v := imm % 524288) (p := 32) (q := 524288) 5 19 rfl rfl (by omega) (by omega) (by omega) (by omega))) (by omega)
 have ef : aN 23 = ⟨(aN 23).nm, 3036676096, true, false, false, (aN 23).a, (aN 23).b⟩ := rfl
 have eo : jQ 23 = true := rfl
 have ew : cI ⟨23, d, n, m, a, imm⟩ = 3036676096 + d + n * 32 + m * 65536 + eE 23 a imm := rfl
 rw [ew]
 rw [eo, ef] at r1
 rw [ef] at r2
 rw [bA.step]
 unfold bA.c
 unfold Form.v at r1 r2
 clear e4 ef eo h ew
 generalize (aN 23).nm = nm at *
 generalize (aN 23).a = fa at *
 generalize (aN 23).b = fb at *
 generalize eE 23 a imm = z at *
 refine dX ?_
 have fx := aOO r1 <| aOO r2 <| aOO r3 <| aOO c1 <| aOO c2 <| aOO c3 <| aOO s1 <| aOO s2 <| aOO o1 <| aOO o2 <| aOO o3 <| o4
 refine gC ?_
 exact w2 rfl rfl rfl
theorem aKz (G : aI) (k : Nat) (d n m a imm : Int) (h : aT ⟨24, d, n, m, a, imm⟩ = true) : bA.f G (k + 5) [mV 24 d n m a imm] [] = some (.tup [cX (cI ⟨24, d, n, m, a, imm⟩), .bool true], []) := by
 have r1 : ∀ H, aE (eZ.f G (k + 4)) [.int .i64 24] H = _ := fun H => aD (H := H) (hU G k 24) rfl rfl
 have r2 : ∀ H, aE (dG.f G (k + 4)) [mV 24 d n m a imm, (aN 24).v] H = _ := fun H => aD (H := H) (fR G (k + 1) 24 d n m a imm (aN 24) (fS 24)) rfl rfl
 have r3 : ∀ H, aE (cG.f G (k + 4)) [mV 24 d n m a imm] H = _ := fun H => aD (H := H) (eU G (k + 3) ⟨24, d, n, m, a, imm⟩ h) rfl rfl
 unfold aT at h
 rw [Bool.and_eq_true] at h
 obtain ⟨_, h⟩ := h
 simp only at h
 rw [h] at r2
 simp [aN, dS, fP, dA, fW, dU, dB] at h
 have c1 : aJ .u32 (I6 d) = some (cX d) := bB (by omega) (by omega)
 have c2 : aJ .u32 (I6 n) = some (cX n) := bB (by omega) (by omega)
 have c3 : aJ .u32 (I6 m) = some (cX m) := bB (by omega) (by omega)
 have s1 := cN Tryd.prog 71 true (v := n) (p := 32) (b := 5) 5 rfl (by decide) rfl (by omega) (by omega)
 have s2 := cN Tryd.prog 71 true (v := m) (p := 65536) (b := 16) 16 rfl (by decide) rfl (by omega) (by omega)
 have o1 := gJ Tryd.prog 71 false (x := 3560964096) (v := d) (q := 1) 0 rfl (by omega) (by omega) (by omega) (by omega) (by omega)
 have o2 := cY Tryd.prog 71 false (x := 3560964096 + d) (v := n) (p := 32) (q := 1) 5 0 rfl rfl (by omega) (by omega) (by omega) (by omega) (by omega)
 have o3 := cY Tryd.prog 71 false (x := 3560964096 + d + n * 32) (v := m) (p := 65536) (q := 1) 16 0 rfl rfl (by omega) (by omega) (by omega) (by omega) (by omega)
 have e4 : eE 24 a imm = imm * 32 := rfl
 have o4 : aQ Tryd.prog .or 71 false (cX (3560964096 + d + n * 32 + m * 65536)) (cX (eE 24 a imm)) = some (cX (3560964096 + d + n * 32 + m * 65536 + eE 24 a imm)) := by
  rw [e4]
  exact kF Tryd.prog 71 false ((fU (x := 3560964096 + d + n * 32 + m * 65536) (v := imm) (p := 32) (q := 65536) 5 16 rfl rfl (by omega) (by omega) (by omega) (by omega))) (by omega)
 have ef : aN 24 = ⟨(aN 24).nm, 3560964096, false, false, false, (aN 24).a, (aN 24).b⟩ := rfl
 have eo : jQ 24 = true := rfl
 have ew : cI ⟨24, d, n, m, a, imm⟩ = 3560964096 + d + n * 32 + m * 65536 + eE 24 a imm := rfl
 rw [ew]
 rw [eo, ef] at r1
 rw [ef] at r2
 rw [bA.step]
 unfold bA.c
 unfold Form.v at r1 r2
 clear e4 ef eo h ew
 generalize (aN 24).nm = nm at *
 generalize (aN 24).a = fa at *
 generalize (aN 24).b = fb at *
 generalize eE 24 a imm = z at *
 refine dX ?_
 have fx := aOO r1 <| aOO r2 <| aOO r3 <| aOO c1 <| aOO c2 <| aOO c3 <| aOO s1 <| aOO s2 <| aOO o1 <| aOO o2 <| aOO o3 <| o4
 refine gC ?_
 exact w2 rfl rfl rfl
theorem aGI (G : aI) (k : Nat) (i : MI) : bA.f G (k + 5) [i.v] [] = some (.tup [cX (nV i), .bool (aT i)], []) := by
 cases hr : aT i
 ·have e : nV i = 0 := by unfold nV; rw [hr]; rfl
  rw [e]
  obtain ⟨op, d, n, m, a, imm⟩ := i
  show bA.f G (k + 5) [mV op d n m a imm] [] = _
  rw [bA.step]
  unfold bA.c
  unfold aT at hr
  have r1 : ∀ H, aE (eZ.f G (k + 4)) [I6 op] H = _ := fun H => aD (H := H) (hU G k op) rfl rfl
  have r2 : ∀ H, aE (dG.f G (k + 4)) [mV op d n m a imm, (aN op).v] H = _ := fun H => aD (H := H) (fR G (k + 1) op d n m a imm (aN op) (fS op)) rfl rfl
  simp only at hr
  generalize dS ⟨op, d, n, m, a, imm⟩ (aN op) = g2 at *
  generalize jQ op = g1 at *
  obtain ⟨nm, w, fd, fn, fm, fa, fb⟩ := aN op
  unfold Form.v at *
  refine dX ?_
  cases g1
  ·have fx := aOO r1 <| r2
   refine gC ?_
   exact w2 rfl rfl rfl
  ·cases g2
   ·have fx := aOO r1 <| r2
    refine gC ?_
    exact w2 rfl rfl rfl
   ·cases hr
 ·have e : nV i = cI i := by unfold nV; rw [hr]; rfl
  rw [e]
  obtain ⟨op, d, n, m, a, imm⟩ := i
  show bA.f G (k + 5) [mV op d n m a imm] [] = _
  have h24 := (Bool.and_eq_true_iff.1 hr).1
  have h24 : 1 ≤ op ∧ op ≤ 24 := of_decide_eq_true h24
  rcases xE h24 with rfl | rfl | rfl | rfl | rfl | rfl | rfl | rfl | rfl | rfl | rfl | rfl | rfl | rfl | rfl | rfl | rfl | rfl | rfl | rfl | rfl | rfl | rfl | rfl
  ·exact aMG G k d n m a imm hr
  ·exact aMH G k d n m a imm hr
  ·exact aMI G k d n m a imm hr
  ·exact aMJ G k d n m a imm hr
  ·exact aMK G k d n m a imm hr
  ·exact aML G k d n m a imm hr
  ·exact aMM G k d n m a imm hr
  ·exact aMN G k d n m a imm hr
  ·exact aMO G k d n m a imm hr
  ·exact aKl G k d n m a imm hr
  ·exact aKm G k d n m a imm hr
  ·exact aKn G k d n m a imm hr
  ·exact aKo G k d n m a imm hr
  ·exact aKp G k d n m a imm hr
  ·exact aKq G k d n m a imm hr
  ·exact aKr G k d n m a imm hr
  ·exact aKs G k d n m a imm hr
  ·exact aKt G k d n m a imm hr
  ·exact aKu G k d n m a imm hr
  ·exact aKv G k d n m a imm hr
  ·exact aKw G k d n m a imm hr
  ·exact aKx G k d n m a imm hr
  ·exact aKy G k d n m a imm hr
  ·exact aKz G k d n m a imm hr
def x1F (v : Int) : Int := if v % 2 = 0 then v + 1 else v - 1
def aEJ (n h : Int) : Int := if h ≤ n then n - 2 * h else n
def exA (op w : Int) : Int :=
 if op = 1 ∨ op = 2 then w / 2097152 % 4
 else if op = 8 then w / 1024 % 32
 else if op = 16 then w / 4096 % 16
 else if op = 17 then x1F (w / 4096 % 16)
 else if op = 21 then w % 16
 else 0
def exI (op w : Int) : Int :=
 if op = 1 ∨ op = 2 then w / 32 % 65536
 else if op = 10 ∨ op = 11 ∨ op = 18 ∨ op = 19 then w / 1024 % 4096
 else if op = 12 then 63 - w / 1024 % 64
 else if op = 13 ∨ op = 14 then w / 65536 % 64
 else if op = 20 then aEJ (w % 67108864) 33554432
 else if op = 21 ∨ op = 22 ∨ op = 23 then aEJ (w / 32 % 524288) 262144
 else if op = 24 then w / 32 % 65536
 else 0
def asF (op w : Int) : MI := ⟨op, if (aN op).d = true then w % 32 else 0, if (aN op).n = true then w / 32 % 32 else 0, if (aN op).m = true then w / 65536 % 32 else 0, exA op w, exI op w⟩
theorem aDH (P : Program) (t : Nat) (c : Bool) (kk : IntKind) {v p b : Int} (s : Nat) (hb : b = (s : Int)) (hs : s ≤ 32) (hp : p = ((2 ^ s : Nat) : Int)) (h0 : 0 ≤ v) : aQ P .shr t c (cX v) (.int kk b) = some (cX (v / p)) := by
 subst hb
 rw [xL _ _ _ _ _ _ _ (Int.natCast_nonneg s), Int.toNat_natCast]
 have e : min s IntKind.u32.bits = s := Nat.min_eq_left hs
 have e2 : ((2 : Int) ^ s) = p := by rw [hp]; exact_mod_cast rfl
 rw [e, e2, Int.fdiv_eq_ediv_of_nonneg _ (by rw [hp]; exact Int.natCast_nonneg _)]
theorem aLg (P : Program) (t : Nat) (c : Bool) {a : Int} (h0 : 0 ≤ a) (h1 : a < 16) : aQ P .xor t c (I6 a) (.int .i64 1) = some (I6 (x1F a)) := by
 have h : a = 0 ∨ a = 1 ∨ a = 2 ∨ a = 3 ∨ a = 4 ∨ a = 5 ∨ a = 6 ∨ a = 7 ∨ a = 8 ∨ a = 9 ∨ a = 10 ∨ a = 11 ∨ a = 12 ∨ a = 13 ∨ a = 14 ∨ a = 15 := by omega
 rcases h with rfl | rfl | rfl | rfl | rfl | rfl | rfl | rfl | rfl | rfl | rfl | rfl | rfl | rfl | rfl | rfl <;> (clear h0 h1; show _ = _; kernel_rfl)
theorem oY {x y : AV} {H : aF} (hx : cK 0 x = true) (hy : cK 0 y = true) {m : Option AV} (hm : m = some x) : fX [m, some y] 0 H = some (.ret, [.tup [x, y]], []) := by
 subst hm
 have : cK 0 (.tup [x, y]) = true := by simp [cK, cS, hx, hy]
 unfold fX
 exact yO hx hy H
def asB (op w : Int) : Bool := aT (asF op w) && decide (cI (asF op w) = w)
def okB (op w : Int) : Bool := asB op w && (decide (op ≠ 12) || decide ((asF op w).imm ≠ 0))
def aAK : Nat → Int → Int → Option MI
 | 0, _, _ => none
 | d + 1, op, w => if okB op w = true then some (asF op w) else aAK d (op + 1) w
def ofF (w : Int) : Option MI := aAK 24 1 w
def ofV (q : Option MI) : AV := match q with
 | some i => .tup [i.v, .bool true]
 | none => .tup [mV 0 0 0 0 0 0, .bool false]
def aBQ (q : Option MI) (w : Int) (T : aF) : fL := match q with
 | some i => (.ret, [cX w, .ptr 0 1 0 0, .bool true, I6 i.op], ⟨57, 6, [i.v]⟩ :: T)
 | none => (.exit 0, [cX w, .ptr 0 1 0 0, .bool false, I6 25], ⟨57, 6, [mV 0 0 0 0 0 0]⟩ :: T)
theorem pS {i : MI} (h : aT i = true) : 1 ≤ i.op ∧ i.op ≤ 24 := by
 unfold aT at h
 rw [Bool.and_eq_true] at h
 exact of_decide_eq_true h.1
def cls (w : Int) : Int :=
 if w < 402653184 then 20 else if w < 1426063360 then 21 else if w < 2317352960 then 5 else if w < 2334130176 then 3 else if w < 2436890624 then 10
 else if w < 2474639360 then 14 else if w < 2594177024 then (if w / 1024 % 4 = 1 then 17 else 16) else if w < 2602565632 then 8 else if w < 2615148544 then 9
 else if w < 2854223872 then 6 else if w < 3036676096 then 22 else if w < 3053453312 then 23 else if w < 3391094784 then 7 else if w < 3407872000 then 4
 else if w < 3510632448 then 11 else if w < 3539992576 then 1 else if w < 3548381184 then (if w / 1024 % 64 = 63 then 13 else 12) else if w < 3563061248 then 24
 else if w < 3944742912 then 15 else if w < 4076863488 then 2 else if w < 4181721088 then 19 else 18
theorem rB {i : MI} (h : aT i = true) : 0 ≤ cI i ∧ cI i < 4294967296 ∧ asF i.op (cI i) = i ∧ cls (cI i) = (if i.op = 12 ∧ i.imm = 0 then 13 else i.op) := by
 have h24 := pS h
 obtain ⟨op, d, n, m, a, imm⟩ := i
 unfold aT at h
 rw [Bool.and_eq_true] at h
 obtain ⟨_, h⟩ := h
 simp only at h24
 obtain ⟨w, hw⟩ : ∃ w, w = cI ⟨op, d, n, m, a, imm⟩ := ⟨_, rfl⟩
 rw [← hw]
 rcases xE h24 with rfl | rfl | rfl | rfl | rfl | rfl | rfl | rfl | rfl | rfl | rfl | rfl | rfl | rfl | rfl | rfl | rfl | rfl | rfl | rfl | rfl | rfl | rfl | rfl
 all_goals (
  simp [aN, dS, fP, dA, fW, dU, dB] at h
  have hw2 := hw
  simp [cI, aN, eE] at hw2
  clear hw
  refine ⟨by omega, by omega, ?_, ?_⟩
  ·simp [asF, aN, exA, exI, aEJ, x1F]
   first | omega | (refine ⟨?_, ?_, ?_, ?_⟩ <;> omega)
  ·unfold cls
   simp (disch := omega) only [if_pos, if_neg]
   first | done | omega | (by_cases hi : imm = 0 <;> simp [hi] <;> omega))
theorem aIV {op w : Int} : asB op w = true ↔ aT (asF op w) = true ∧ cI (asF op w) = w := by
 unfold asB; simp
theorem tU {op w : Int} : okB op w = true ↔ (aT (asF op w) = true ∧ cI (asF op w) = w) ∧ ¬ (op = 12 ∧ (asF op w).imm = 0) := by
 unfold okB
 rw [Bool.and_eq_true, aIV]
 simp
 intro _ _
 constructor
 ·rintro (h | h)
  ·intro h2; exact absurd h2 h
  ·intro _; exact h
 ·intro h
  by_cases h2 : op = 12
  ·exact .inr (h h2)
  ·exact .inl h2
theorem aJw {op w : Int} (h : okB op w = true) : cls w = op := by
 obtain ⟨⟨h1, h2⟩, h3⟩ := tU.1 h
 have := (rB h1).2.2.2
 rw [h2] at this
 have h3' : ¬ ((asF op w).op = 12 ∧ (asF op w).imm = 0) := h3
 rw [this, if_neg h3']
 rfl
theorem aAL : ∀ {d : Nat} {op w : Int}, aAK d op w = none → ∀ o : Int, op ≤ o → o < op + d → okB o w = false
 | 0, op, w, _, o, h1, h2 => by omega
 | d + 1, op, w, h, o, h1, h2 => by
  unfold aAK at h
  by_cases hk : okB op w = true
  ·rw [if_pos hk] at h; cases h
  ·rw [if_neg hk] at h
   by_cases ho : o = op
   ·subst ho; simpa using hk
   ·exact aAL h o (by omega) (by omega)
theorem uS : ∀ {d : Nat} {op w : Int} {i : MI}, aAK d op w = some i → ∃ o, okB o w = true ∧ i = asF o w ∧ op ≤ o ∧ o < op + d
 | 0, op, w, i, h => by cases h
 | d + 1, op, w, i, h => by
  unfold aAK at h
  by_cases hk : okB op w = true
  ·rw [if_pos hk] at h
   simp at h
   exact ⟨op, hk, h.symm, by omega, by omega⟩
  ·rw [if_neg hk] at h
   obtain ⟨o, h1, h2, h3, h4⟩ := uS h
   exact ⟨o, h1, h2, by omega, by omega⟩
theorem aBR {w : Int} {i : MI} (h : ofF w = some i) : aT i = true ∧ cI i = w ∧ ¬ (i.op = 12 ∧ i.imm = 0) := by
 obtain ⟨o, h1, rfl, _, _⟩ := uS h
 obtain ⟨⟨h2, h3⟩, h4⟩ := tU.1 h1
 exact ⟨h2, h3, h4⟩
theorem aBS {i : MI} (h : aT i = true) (hs : ¬ (i.op = 12 ∧ i.imm = 0)) : ofF (cI i) = some i := by
 obtain ⟨w0, w1, w2, w3⟩ := rB h
 rw [if_neg hs] at w3
 have h24 := pS h
 have hk : okB i.op (cI i) = true := by
  rw [tU, w2]
  exact ⟨⟨h, rfl⟩, hs⟩
 cases hq : ofF (cI i) with
 | none =>
  have := aAL hq i.op h24.1 (by omega)
  rw [hk] at this; cases this
 | some j =>
  obtain ⟨o, h1, rfl, _, _⟩ := uS hq
  have := aJw h1
  rw [w3] at this
  rw [← this, w2]
theorem aEt {w : Int} {i : MI} : ofF w = some i ↔ aT i = true ∧ cI i = w ∧ ¬ (i.op = 12 ∧ i.imm = 0) := by
 constructor
 ·exact aBR
 ·rintro ⟨h1, rfl, h3⟩; exact aBS h1 h3
theorem lM (a : Nat) (h : a < 18446744073709551616) : (BitVec.ofInt 64 (a : Int)).toNat = a := by
 rw [BitVec.toNat_ofInt]
 omega
theorem uI (a b : Nat) (ha : a < 18446744073709551616) (hb : b < 18446744073709551616) : bits .and .u64 (a : Int) (b : Int) = ((a &&& b : Nat) : Int) := by
 have hx : a &&& b ≤ a := Nat.and_le_left
 show IntKind.u64.wrap ((BitVec.ofInt 64 (a : Int) &&& BitVec.ofInt 64 (b : Int)).toNat : Int) = _
 rw [BitVec.toNat_and, lM a ha, lM b hb, eD (by omega) (by omega)]
theorem aIH (a b : Nat) (ha : a < 18446744073709551616) (hb : b < 18446744073709551616) : bits .or .u64 (a : Int) (b : Int) = ((a ||| b : Nat) : Int) := by
 have hx : a ||| b < 2 ^ 64 := Nat.or_lt_two_pow (by omega) (by omega)
 show IntKind.u64.wrap ((BitVec.ofInt 64 (a : Int) ||| BitVec.ofInt 64 (b : Int)).toNat : Int) = _
 rw [BitVec.toNat_or, lM a ha, lM b hb, eD (by omega) (by omega)]
theorem xX (a b : Nat) (ha : a < 18446744073709551616) (hb : b < 18446744073709551616) : bits .xor .u64 (a : Int) (b : Int) = ((a ^^^ b : Nat) : Int) := by
 have hx : a ^^^ b < 2 ^ 64 := Nat.xor_lt_two_pow (by omega) (by omega)
 show IntKind.u64.wrap ((BitVec.ofInt 64 (a : Int) ^^^ BitVec.ofInt 64 (b : Int)).toNat : Int) = _
 rw [BitVec.toNat_xor, lM a ha, lM b hb, eD (by omega) (by omega)]
theorem pW (n : Nat) : IntKind.u64.wrap (n : Int) = ((n % 18446744073709551616 : Nat) : Int) := by rw [mS]; rfl
theorem pV (P : Program) (t : Nat) (c : Bool) (a b : Nat) : aQ P .add t c (Un a) (Un b) = some (Un ((a + b) % 18446744073709551616)) := by
 rw [kH, ← Int.natCast_add, pW]
theorem uJ (P : Program) (t : Nat) (c : Bool) (a b : Nat) : aQ P .mul t c (Un a) (Un b) = some (Un (a * b % 18446744073709551616)) := by
 rw [xJ, ← Int.natCast_mul, pW]
theorem xW (P : Program) (t : Nat) (c : Bool) (a b : Nat) (hb : b < 18446744073709551616) : aQ P .sub t c (Un a) (Un b) = some (Un ((a + 18446744073709551616 - b) % 18446744073709551616)) := by
 rw [xM, mS]; congr 2; omega
theorem rQ (P : Program) (t : Nat) (c : Bool) (k : IntKind) (a n : Nat) (h : n ≤ 64) : aQ P .shr t c (Un a) (.int k (n : Int)) = some (Un (a / 2 ^ n)) := by
 rw [xL _ _ _ _ _ _ _ (Int.natCast_nonneg n)]
 have e : min ((n : Int)).toNat IntKind.u64.bits = n := by rw [Int.toNat_natCast]; exact Nat.min_eq_left h
 rw [e, aBI]
theorem uK (P : Program) (t : Nat) (c : Bool) (k : IntKind) (a n : Nat) (h : n ≤ 64) : aQ P .shl t c (Un a) (.int k (n : Int)) = some (Un (a * 2 ^ n % 18446744073709551616)) := by
 rw [aFf _ _ _ _ _ _ _ (Int.natCast_nonneg n)]
 have e : min ((n : Int)).toNat IntKind.u64.bits = n := by rw [Int.toNat_natCast]; exact Nat.min_eq_left h
 have e2 : ((a : Int) * 2 ^ n : Int) = ((a * 2 ^ n : Nat) : Int) := by push_cast; rfl
 rw [e, e2, pW]
def lV (a : Nat) : Int := if a ≥ 9223372036854775808 then (a : Int) - 18446744073709551616 else (a : Int)
def u64 (n : Int) : Nat := (n % 18446744073709551616).toNat
theorem iJ (n : Int) : u64 n < 18446744073709551616 := by unfold u64; omega
theorem tA (a : Nat) (h : a < 18446744073709551616) : aJ .i64 (Un a) = some (I6 (lV a)) := by
 rw [dW, wR]; unfold lV; congr 2; split <;> split <;> omega
theorem gL (k : IntKind) (n : Int) : aJ .u64 (.int k n) = some (Un (u64 n)) := by
 rw [dW, mS]; unfold u64; congr 2; omega
theorem aKg (a : Nat) (h : a < 18446744073709551616) : u64 (lV a) = a := by unfold u64 lV; split <;> omega
theorem aKf (n : Nat) (h : n < 18446744073709551616) : u64 (n : Int) = n := by unfold u64; omega
theorem aJs (x0 x1 y0 y1 : Nat) (hx0 : x0 < 4294967296) (hx1 : x1 < 4294967296) (hy0 : y0 < 4294967296) (hy1 : y1 < 4294967296) :
  x0 * y0 ≤ 18446744065119617025 ∧ x1 * y0 ≤ 18446744065119617025 ∧ x0 * y1 ≤ 18446744065119617025 ∧ x1 * y1 ≤ 18446744065119617025 ∧
  (x1 * 4294967296 + x0) * (y1 * 4294967296 + y0) = x1 * y1 * 18446744073709551616 + (x1 * y0 + x0 * y1) * 4294967296 + x0 * y0 := by
 have b : ∀ p q : Nat, p < 4294967296 → q < 4294967296 → p * q ≤ 18446744065119617025 := fun p q hp hq => by
  have := Nat.mul_le_mul (show p ≤ 4294967295 by omega) (show q ≤ 4294967295 by omega)
  omega
 refine ⟨b _ _ hx0 hy0, b _ _ hx1 hy0, b _ _ hx0 hy1, b _ _ hx1 hy1, ?_⟩
 simp only [Nat.add_mul, Nat.mul_add]
 have e1 : x1 * 4294967296 * (y1 * 4294967296) = x1 * y1 * 18446744073709551616 := by
  rw [Nat.mul_mul_mul_comm]
 have e2 : x1 * 4294967296 * y0 = x1 * y0 * 4294967296 := by rw [Nat.mul_right_comm]
 have e3 : x0 * (y1 * 4294967296) = x0 * y1 * 4294967296 := by rw [Nat.mul_assoc]
 rw [e1, e2, e3]; omega
theorem aLJ (n : Nat) : n &&& 4294967295 = n % 4294967296 := Nat.and_two_pow_sub_one_eq_mod n 32
theorem yZ (G : aI) (k : Nat) (a b : Nat) (ha : a < 18446744073709551616) (hb : b < 18446744073709551616) :
  bQ.f G (k + 1) [Un a, Un b] [] = some (.tup [Un (a * b / 18446744073709551616), Un (a * b % 18446744073709551616)], []) := by
 rw [bQ.step]
 unfold bQ.c
 have and32 : ∀ n : Nat, n < 18446744073709551616 → aQ Tryd.prog .and 43 true (Un n) (.int .u64 4294967295) = some (Un (n % 4294967296)) := fun n hn => by
  rw [nC]; have := uI n 4294967295 hn (by omega); rw [aLJ] at this; exact congrArg (fun z => some (AV.int .u64 z)) this
 have shr32 : ∀ n : Nat, aQ Tryd.prog .shr 43 true (Un n) (.int .u64 32) = some (Un (n / 4294967296)) := fun n => rQ Tryd.prog 43 true .u64 n 32 (by omega)
 obtain ⟨x0, hx0⟩ : ∃ z, z = a % 4294967296 := ⟨_, rfl⟩
 obtain ⟨x1, hx1⟩ : ∃ z, z = a / 4294967296 := ⟨_, rfl⟩
 obtain ⟨y0, hy0⟩ : ∃ z, z = b % 4294967296 := ⟨_, rfl⟩
 obtain ⟨y1, hy1⟩ : ∃ z, z = b / 4294967296 := ⟨_, rfl⟩
 have c0 := and32 a ha
 have c1 := shr32 a
 have c2 := and32 b hb
 have c3 := shr32 b
 rw [← hx0] at c0
 rw [← hx1] at c1
 rw [← hy0] at c2
 rw [← hy1] at c3
 obtain ⟨b1, b2, b3, b4, hm⟩ := aJs x0 x1 y0 y1 (by omega) (by omega) (by omega) (by omega)
 have hab : a * b = x1 * y1 * 18446744073709551616 + (x1 * y0 + x0 * y1) * 4294967296 + x0 * y0 := by
  rw [← hm]; congr 1 <;> omega
 have m : ∀ p q : Nat, p * q ≤ 18446744065119617025 → aQ Tryd.prog .mul 43 false (Un p) (Un q) = some (Un (p * q)) := fun p q h => by rw [uJ, Nat.mod_eq_of_lt (by omega)]
 have ad : ∀ p q : Nat, p + q < 18446744073709551616 → aQ Tryd.prog .add 43 false (Un p) (Un q) = some (Un (p + q)) := fun p q h => by rw [pV, Nat.mod_eq_of_lt h]
 have c4 := m x0 y0 b1
 have c5 := m x1 y0 b2
 have c10 := m x0 y1 b3
 have c12 := m x1 y1 b4
 have c16 := uJ Tryd.prog 43 false a b
 rw [hab] at c16 ⊢
 generalize x0 * y0 = A at *
 generalize x1 * y0 = B at *
 generalize x0 * y1 = C at *
 generalize x1 * y1 = D at *
 have c6 := shr32 A
 have c7 := ad B (A / 4294967296) (by omega)
 obtain ⟨E, hE⟩ : ∃ z, z = B + A / 4294967296 := ⟨_, rfl⟩
 rw [← hE] at c7
 have c8 := and32 E (by omega)
 have c9 := shr32 E
 have c11 := ad (E % 4294967296) C (by omega)
 obtain ⟨F, hF⟩ : ∃ z, z = E % 4294967296 + C := ⟨_, rfl⟩
 rw [← hF] at c11
 have c13 := ad D (E / 4294967296) (by omega)
 have c14 := shr32 F
 have c15 := ad (D + E / 4294967296) (F / 4294967296) (by omega)
 have r1 : (D * 18446744073709551616 + (B + C) * 4294967296 + A) / 18446744073709551616 = D + E / 4294967296 + F / 4294967296 := by omega
 rw [r1]
 generalize (D * 18446744073709551616 + (B + C) * 4294967296 + A) % 18446744073709551616 = Z at *
 generalize D + E / 4294967296 + F / 4294967296 = Y at *
 generalize D + E / 4294967296 = X at *
 generalize F / 4294967296 = X2 at *
 generalize E / 4294967296 = X3 at *
 generalize E % 4294967296 = X4 at *
 generalize A / 4294967296 = X5 at *
 clear hE hF hab hm
 repeat first
  | refine oB (by first | (simp only [vH, eG, eF, aCX, aCT, aCW, aCU, aCV, pP, oG, aAj, c0, c1, c2, c3, c4, c5, c6, c7, c8, c9, c10, c11, c12, c13, c14, c15, c16]; first | done | (with_reducible exact rfl) | (with_reducible exact ⟨rfl, rfl⟩)) | (with_reducible exact rfl)) ?_
  | refine lB (by first | (simp only [vH, eG, eF, aCX, aCT, aCW, aCU, aCV, pP, oG, aAj, c0, c1, c2, c3, c4, c5, c6, c7, c8, c9, c10, c11, c12, c13, c14, c15, c16]; first | done | (with_reducible exact rfl) | (with_reducible exact ⟨rfl, rfl⟩)) | (with_reducible exact rfl)) ?_
  | refine oT ?_
  | refine oN ?_
  | refine oX ?_
  | refine oXn ?_
  | refine oXr ?_
  | exact oF (aGh ..)
  | apply oK
  | refine lT ?_
  | refine lN ?_
  | refine lX ?_
  | refine lXn ?_
  | refine lXr ?_
  | apply lK
  | refine oI ?_
  | refine oJ rfl ?_
  | refine lI ?_
  | refine lJ rfl ?_
  | (with_reducible exact rfl)
 exact oF (yO rfl rfl _)
def aCf (a n : Nat) : Nat := u64 ((lV a).fdiv (2 ^ n))
def nP (d k s : Nat) : Nat := u64 (bits .or .u64 (bits .andNot .u64 d ((65535 * 2 ^ s % 18446744073709551616 : Nat) : Int)) ((k * 2 ^ s % 18446744073709551616 : Nat) : Int))
def iR (op a imm : Int) (d n m x : Nat) (h : Bool) : Nat :=
 if op = 1 then u64 imm * 2 ^ (16 * a).toNat % 18446744073709551616
 else if op = 2 then nP d (u64 imm) (16 * a).toNat
 else if op = 3 then (n + m) % 18446744073709551616
 else if op = 4 then (n + 18446744073709551616 - m) % 18446744073709551616
 else if op = 5 then n &&& m
 else if op = 6 then n ||| m
 else if op = 7 then n ^^^ m
 else if op = 8 then (n * m % 18446744073709551616 + x) % 18446744073709551616
 else if op = 9 then n * m / 18446744073709551616
 else if op = 10 then (n + u64 imm) % 18446744073709551616
 else if op = 11 then (n + 18446744073709551616 - u64 imm) % 18446744073709551616
 else if op = 12 then n * 2 ^ (u64 imm) % 18446744073709551616
 else if op = 13 then n / 2 ^ (u64 imm)
 else if op = 14 then aCf n (u64 imm)
 else if op = 16 then (if h = true then n else m)
 else (if h = true then 1 else 0)
def fits (op a imm : Int) : Prop := (op = 1 ∨ op = 2 → 0 ≤ a ∧ a ≤ 3) ∧ (12 ≤ op → op ≤ 14 → 0 ≤ imm ∧ imm ≤ 63)
def bY (l : List Nat) : List AV := l.map fun n => Un n
theorem bJ (l : List Nat) : (bY l).length = l.length := by simp [bY]
theorem gT (n : Nat) (l : List Nat) : cS n (bY l) = true := kR n _ (fun _ => rfl) l
theorem gE (l : List Nat) : dQ (bY l) = true := nQ _ (fun _ => rfl) l
theorem jO (l : List Nat) : iW (bY l) = true := nL _ (fun _ => rfl) l
theorem kN (l : List Nat) (j : Nat) (h : j < l.length) : (bY l)[j]? = some (Un (l.getD j 0)) := by
 simp [bY, List.getD, List.getElem?_eq_getElem h]
theorem rK (l : List Nat) (j x : Nat) : bY (l.set j x) = (bY l).set j (Un x) := by simp [bY, List.map_set]
abbrev dK (l : List Nat) : AV := .agg (bY l)
structure FL where
 n : Bool
 z : Bool
 c : Bool
 v : Bool
def FL.a (f : FL) : AV := .agg [.bool f.n, .bool f.z, .bool f.c, .bool f.v]
def iV : FL := ⟨false, false, false, false⟩
def cC (r : List Nat) (j : Int) : Nat := if j = 31 then 0 else r.getD j.toNat 0
def fE (r : List Nat) (j : Int) (x : Nat) : List Nat := if j = 31 then r else r.set j.toNat x
def iY (c : Int) (f : FL) : Bool :=
 if c = 0 then f.z else if c = 1 then !f.z else if c = 2 then f.c else if c = 3 then !f.c else if c = 8 then f.c && !f.z else if c = 9 then !f.c || f.z else false
def aFu (a b x : Nat) : FL := ⟨decide (x / 2 ^ 63 = 1), decide (x = 0), decide (b ≤ a), decide (((a ^^^ b) &&& (a ^^^ x)) / 2 ^ 63 = 1)⟩
def rW (a b : Nat) : FL := aFu a b ((a + 18446744073709551616 - b) % 18446744073709551616)
theorem aEj {x y z : AV} (hx : cK 0 x = true) (hy : cK 0 y = true) (hz : cK 0 z = true) (H : aF) : bK [x, y, z] 0 H = some (.ret, [.tup [x, y, z]], []) := by
 have : cK 0 (.tup [x, y, z]) = true := by simp [cK, cS, hx, hy, hz]
 simp [bK, pZ, lR this, rF]
section
variable (G : aI) (k : Nat)
def cP (i : MI) (r : List Nat) (f : FL) : List Nat × FL :=
 if i.op = 15 then (r, rW (cC r i.n) (cC r i.m))
 else if i.op = 16 ∨ i.op = 17 then (fE r i.d (iR i.op i.a i.imm (cC r i.d) (cC r i.n) (cC r i.m) 0 (iY i.a f)), f)
 else if i.op = 8 then (fE r i.d (iR i.op i.a i.imm (cC r i.d) (cC r i.n) (cC r i.m) (cC r i.a) false), f)
 else (fE r i.d (iR i.op i.a i.imm (cC r i.d) (cC r i.n) (cC r i.m) 0 false), f)
structure MI.Ok (i : MI) : Prop where
 d : 0 ≤ i.d ∧ i.d ≤ 31
 n : 0 ≤ i.n ∧ i.n ≤ 31
 m : 0 ≤ i.m ∧ i.m ≤ 31
 a : 0 ≤ i.a ∧ i.a ≤ 31
 fits : fits i.op i.a i.imm
structure RgOk (r : List Nat) : Prop where
 len : r.length = 31
 lt : ∀ x ∈ r, x < 18446744073709551616
theorem RgOk.get {r : List Nat} (h : RgOk r) (j : Int) : cC r j < 18446744073709551616 := by
 unfold cC
 split
 ·decide
 ·rw [List.getD_eq_getElem?_getD]
  cases hq : r[j.toNat]? with
  | none => decide
  | some x => exact h.lt x (List.mem_of_getElem? hq)
theorem iM {i : MI} (h : aT i = true) : (1 ≤ i.op ∧ i.op ≤ 24) ∧ i.Ok := by
 obtain ⟨op, d, n, m, a, imm⟩ := i
 unfold aT at h
 rw [Bool.and_eq_true] at h
 have h24 : 1 ≤ op ∧ op ≤ 24 := of_decide_eq_true h.1
 refine ⟨h24, ?_⟩
 obtain ⟨_, h⟩ := h
 rcases xE h24 with rfl | rfl | rfl | rfl | rfl | rfl | rfl | rfl | rfl | rfl | rfl | rfl | rfl | rfl | rfl | rfl | rfl | rfl | rfl | rfl | rfl | rfl | rfl | rfl
 all_goals (
  simp [aN, dS, fP, dA, fW, dU, dB] at h
  constructor <;> simp [fits] <;> omega)
def aHy (i : MI) (r : List Nat) (f : FL) : List Nat × FL × Bool :=
 if aT i = true ∧ i.op ≤ 17 then ((cP i r f).1, (cP i r f).2, true) else (List.replicate 31 0, iV, false)
abbrev oQ (q : List Nat × FL × Bool) : AV := .tup [dK q.1, q.2.1.a, .bool q.2.2]
theorem aGp {j : Nat} {H : aF} {r : List Nat} (hr : r.length = 31) (e : H[j]? = some ⟨44, 31, [dK r]⟩) : aC G true 31 (.ptr j 1 0 0) H = some (dK r) := by
 unfold aC
 simp only [e, List.length_singleton, if_true, List.getElem?_cons_zero, AV.cells, lY]
 show (if 0 + 31 ≤ (bY r).length then some (AV.agg (List.take 31 (List.drop 0 (bY r)))) else none) = _
 rw [if_pos (by rw [bJ, hr]; omega), List.drop_zero, List.take_of_length_le (by rw [bJ, hr]; omega)]
theorem xV {r : List Nat} (h : RgOk r) (j : Int) (x : Nat) (hx : x < 18446744073709551616) : RgOk (fE r j x) := by
 unfold fE
 split
 ·exact h
 ·refine ⟨by simp [h.len], fun y hy => ?_⟩
  rcases List.mem_or_eq_of_mem_set hy with h1 | rfl
  ·exact h.lt y h1
  ·exact hx
theorem aHr (op a imm : Int) (d n m x : Nat) (h : Bool) (hd : d < 18446744073709551616) (hn : n < 18446744073709551616) (hm : m < 18446744073709551616) : iR op a imm d n m x h < 18446744073709551616 := by
 have hM : ∀ n : Nat, n % 18446744073709551616 < 18446744073709551616 := fun n => Nat.mod_lt _ (by decide)
 unfold iR
 by_cases e1 : op = 1
 ·rw [if_pos e1]; exact hM _
 rw [if_neg e1]
 by_cases e2 : op = 2
 ·rw [if_pos e2]; exact iJ _
 rw [if_neg e2]
 by_cases e3 : op = 3
 ·rw [if_pos e3]; exact hM _
 rw [if_neg e3]
 by_cases e4 : op = 4
 ·rw [if_pos e4]; exact hM _
 rw [if_neg e4]
 by_cases e5 : op = 5
 ·rw [if_pos e5]; exact Nat.lt_of_le_of_lt Nat.and_le_left hn
 rw [if_neg e5]
 by_cases e6 : op = 6
 ·rw [if_pos e6]; exact Nat.or_lt_two_pow (n := 64) hn hm
 rw [if_neg e6]
 by_cases e7 : op = 7
 ·rw [if_pos e7]; exact Nat.xor_lt_two_pow (n := 64) hn hm
 rw [if_neg e7]
 by_cases e8 : op = 8
 ·rw [if_pos e8]; exact hM _
 rw [if_neg e8]
 by_cases e9 : op = 9
 ·rw [if_pos e9]; exact Nat.div_lt_of_lt_mul (Nat.mul_lt_mul'' hn hm)
 rw [if_neg e9]
 by_cases e10 : op = 10
 ·rw [if_pos e10]; exact hM _
 rw [if_neg e10]
 by_cases e11 : op = 11
 ·rw [if_pos e11]; exact hM _
 rw [if_neg e11]
 by_cases e12 : op = 12
 ·rw [if_pos e12]; exact hM _
 rw [if_neg e12]
 by_cases e13 : op = 13
 ·rw [if_pos e13]; exact Nat.lt_of_le_of_lt (Nat.div_le_self _ _) hn
 rw [if_neg e13]
 by_cases e14 : op = 14
 ·rw [if_pos e14]; exact iJ _
 rw [if_neg e14]
 by_cases e16 : op = 16
 ·rw [if_pos e16]; cases h
  ·exact hm
  ·exact hn
 rw [if_neg e16]; cases h <;> decide
theorem aCK (i : MI) {r : List Nat} (h : RgOk r) (f : FL) : RgOk (cP i r f).1 := by
 have m := fun x hh => aHr i.op i.a i.imm (cC r i.d) (cC r i.n) (cC r i.m) x hh (h.get _) (h.get _) (h.get _)
 unfold cP
 split
 ·exact h
 ·split
  ·exact xV h _ _ (m _ _)
  ·split
   ·exact xV h _ _ (m _ _)
   ·exact xV h _ _ (m _ _)
end
instance : Inhabited MI := ⟨⟨0, 0, 0, 0, 0, 0⟩⟩
def jZ (p : Int × Int) : AV := .agg [I6 p.1, I6 p.2]
def gS (l : List (Int × Int)) : List AV := l.map jZ
def cQ (cs : List MI) : List AV := cs.map MI.v
theorem jR (l : List (Int × Int)) : (gS l).length = l.length := by simp [gS]
theorem iE (l : List MI) : (cQ l).length = l.length := by simp [cQ]
theorem nF (n : Nat) (l : List (Int × Int)) : cS n (gS l) = true := kR n _ (fun _ => rfl) l
theorem lU (n : Nat) (l : List MI) : cS n (cQ l) = true := kR n _ (fun _ => rfl) l
structure QS where
 code : Int
 mem : List Nat
 regs : List Nat
 leaks : List (Int × Int)
 steps : Nat
 flags : FL
 at_ : Int
def QS.leak (s : QS) (kind at_ : Int) : QS := { s with leaks := s.leaks ++ [(kind, at_)] }
def QS.goes (s : QS) (i : MI) : Bool := if i.op = 21 then iY i.a s.flags else if i.op = 22 then decide (cC s.regs i.d = 0) else decide (cC s.regs i.d ≠ 0)
def QS.addr (s : QS) (i : MI) : Nat := (cC s.regs i.n + 8 * u64 i.imm % 18446744073709551616) % 18446744073709551616
def QS.touch (s : QS) (i : MI) : QS × Bool :=
 let s1 := s.leak 3 (lV (s.addr i))
 if s.addr i % 8 ≠ 0 ∨ s.mem.length ≤ s.addr i / 8 then ({ s1 with code := 3 }, false)
 else if i.op = 18 then ({ s1 with regs := fE s.regs i.d (s.mem.getD (s.addr i / 8) 0) }, true)
 else ({ s1 with mem := s.mem.set (s.addr i / 8) (cC s.regs i.d) }, true)
def QS.branch (s : QS) (i : MI) : QS :=
 if i.op = 20 then { s with at_ := s.at_ + (i.imm - 1) }
 else if s.goes i = true then { s.leak 2 1 with at_ := s.at_ + (i.imm - 1) }
 else s.leak 2 0
def QS.act (s : QS) (i : MI) : QS × Bool :=
 if i.op = 18 ∨ i.op = 19 then s.touch i
 else if i.op = 20 ∨ i.op = 21 ∨ i.op = 22 ∨ i.op = 23 then (s.branch i, true)
 else if i.op = 24 then ({ s with code := if i.imm ≤ 2 then i.imm else 3 }, false)
 else ({ s with regs := (cP i s.regs s.flags).1, flags := (cP i s.regs s.flags).2 }, true)
def QS.next (s : QS) : QS := { s with at_ := s.at_ + 1 }
def QS.step (s : QS) (w : Int) : QS × Bool :=
 match ofF w with
 | none => ({ s with code := 3 }, false)
 | some i => s.next.act i
def QS.tail (n : Nat) (s : QS) : List AV := [.sl 6 s.leaks.length 0 s.leaks.length 2, Nn s.steps, .bool s.flags.n, .bool s.flags.z, .bool s.flags.c, .bool s.flags.v, I6 s.at_, .sl 1 n 0 n 6]
def QS.cells (n : Nat) (s : QS) : List AV := I6 s.code :: .sl 4 s.mem.length 0 s.mem.length 1 :: (bY s.regs ++ s.tail n)
section
variable (G : aI) (b0 : ABlk) (T : aF) (kn : List MI) (s : QS)
variable (hr : s.regs.length = 31)
end
section
variable (G : aI) (b0 : ABlk) (T : aF) (hb : cS 7 b0.elems = true) (hT : ∀ n, 7 ≤ n → dL n T = true) (kn : List MI) (s : QS)
end
structure QS.Ok (s : QS) : Prop where
 rg : RgOk s.regs
 mem : ∀ x ∈ s.mem, x < 18446744073709551616
 leaks : s.leaks.length ≤ 3 * s.steps
 big : s.mem.length ≤ 1000000
 few : s.steps ≤ 100000
section
variable (G : aI) (b0 : ABlk) (T : aF) (hb : cS 7 b0.elems = true) (hT : ∀ n, 7 ≤ n → dL n T = true) (kn : List MI) (s : QS) (i : MI) (hr : RgOk s.regs) (hl : s.leaks.length ≤ 999990)
theorem bx (H : aF) : dH i.v H = some (.rp false i.v 0, H) := rfl
theorem aIJ (P : Program) (t : Nat) (c : Bool) (a : Nat) : aQ P .rem t c (Un a) (.int .u64 8) = some (Un (a % 8)) := by
 rw [xK _ _ _ _ _ _ (by decide), Int.tmod_eq_emod_of_nonneg (by omega)]; rfl
theorem aII (P : Program) (t : Nat) (c : Bool) (a : Nat) (ha : a < 18446744073709551616) : aQ P .quo t c (Un a) (.int .u64 8) = some (Un (a / 8)) := by
 rw [aIW _ _ _ _ _ _ (by decide), Int.tdiv_eq_ediv_of_nonneg (by omega), eD (by omega) (by omega)]; rfl
end
section
variable (G : aI) (b0 : ABlk) (T : aF) (hb : cS 7 b0.elems = true) (hT : ∀ n, 7 ≤ n → dL n T = true) (kn : List MI) (s : QS) (i : MI) (hr : RgOk s.regs) (hl : s.leaks.length ≤ 999990)
end
structure KN (cs : List Int) (kn : List MI) : Prop where
 len : kn.length = cs.length
 is : ∀ j, j < cs.length → (kn.getD j default).op = 0 ∨ ofF (cs.getD j 0) = some (kn.getD j default)
theorem aGl {i : MI} (h : aT i = true) : -100000000 ≤ i.imm ∧ i.imm ≤ 100000000 := by
 have h24 := pS h
 obtain ⟨op, d, n, m, a, imm⟩ := i
 unfold aT at h
 rw [Bool.and_eq_true] at h
 obtain ⟨_, h⟩ := h
 rcases xE h24 with rfl | rfl | rfl | rfl | rfl | rfl | rfl | rfl | rfl | rfl | rfl | rfl | rfl | rfl | rfl | rfl | rfl | rfl | rfl | rfl | rfl | rfl | rfl | rfl
 all_goals (
  simp [aN, dS, fP, dA, fW, dU, dB] at h
  simp only
  omega)
section
variable (G : aI) (b0 : ABlk) (kn : List MI) (s : QS) (i : MI)
abbrev TB (i : MI) : aF := [⟨57, 6, [i.v]⟩]
end
theorem xR {l : List Nat} {j x : Nat} (h : ∀ y ∈ l, y < 18446744073709551616) (hx : x < 18446744073709551616) : ∀ y ∈ l.set j x, y < 18446744073709551616 := by
 intro y hy
 rcases List.mem_or_eq_of_mem_set hy with h1 | rfl
 ·exact h y h1
 ·exact hx
theorem QS.Ok.mg {s : QS} (h : s.Ok) (i : Nat) : s.mem.getD i 0 < 18446744073709551616 := by
 rw [List.getD_eq_getElem?_getD]
 cases hq : s.mem[i]? with
 | none => decide
 | some x => exact h.mem x (List.mem_of_getElem? hq)
theorem QS.step_ok {s : QS} (h : s.Ok) (w : Int) (hl : s.leaks.length + 1 ≤ 3 * s.steps) : (s.step w).1.Ok ∧ (s.step w).1.steps = s.steps ∧ (s.step w).1.mem.length = s.mem.length := by
 have hl' : s.leaks.length ≤ 3 * s.steps := by omega
 unfold QS.step
 cases ofF w with
 | none => exact ⟨⟨h.rg, h.mem, hl', h.big, h.few⟩, rfl, rfl⟩
 | some i =>
  simp only
  unfold QS.act
  split
  ·unfold QS.touch
   generalize s.next.addr i = ad
   simp only
   split
   ·exact ⟨⟨h.rg, h.mem, by simpa [QS.leak, QS.next] using hl, h.big, h.few⟩, rfl, rfl⟩
   ·split
    ·exact ⟨⟨xV h.rg _ _ (h.mg _), h.mem, by simpa [QS.leak, QS.next] using hl, h.big, h.few⟩, rfl, rfl⟩
    ·exact ⟨⟨h.rg, xR h.mem (h.rg.get _), by simpa [QS.leak, QS.next] using hl, by simpa [QS.leak, QS.next] using h.big, h.few⟩, rfl, by simp [QS.leak, QS.next]⟩
  ·split
   ·unfold QS.branch
    split
    ·exact ⟨⟨h.rg, h.mem, hl', h.big, h.few⟩, rfl, rfl⟩
    ·split
     ·exact ⟨⟨h.rg, h.mem, by simpa [QS.leak, QS.next] using hl, h.big, h.few⟩, rfl, rfl⟩
     ·exact ⟨⟨h.rg, h.mem, by simpa [QS.leak, QS.next] using hl, h.big, h.few⟩, rfl, rfl⟩
   ·split
    ·exact ⟨⟨h.rg, h.mem, hl', h.big, h.few⟩, rfl, rfl⟩
    ·exact ⟨⟨aCK i h.rg s.flags, h.mem, hl', h.big, h.few⟩, rfl, rfl⟩
def QS.tick (s : QS) : QS := ({ s with steps := s.steps + 1 } : QS).leak 1 s.at_
def pT (cs : List Int) (fuel : Int) : Nat → QS → Option QS
 | 0, _ => none
 | f + 1, s =>
  if s.at_ < 0 ∨ (cs.length : Int) ≤ s.at_ then some { s with code := 3 }
  else if (s.steps : Int) = fuel then some { s with code := 4 }
  else match s.tick.step (cs.getD s.at_.toNat 0) with
   | (s', true) => pT cs fuel f s'
   | (s', false) => some s'
def iI (cs : List Int) : List AV := cs.map cX
theorem uR (cs : List Int) : (iI cs).length = cs.length := by simp [iI]
theorem qI (n : Nat) (cs : List Int) : cS n (iI cs) = true := kR n _ (fun _ => rfl) cs
def rsL (m l : AV) (s : QS) : List AV := I6 s.code :: m :: (bY s.regs ++ [l, Nn s.steps])
theorem aJO (m l : AV) (s : QS) (hr : s.regs.length = 31) : (rsL m l s).length = 35 := by simp [rsL, bJ, hr]
def bR (T : Nat) (cs : List AV) : ABlk := ⟨T, 35, [.agg cs]⟩
def zR : List AV := I6 0 :: .nils :: (bY (List.replicate 31 0) ++ [.sl 5 0 0 0 2, .int .i64 0])
section
variable (G : aI)
theorem wAt (bor : Bool) (cs : List Int) (j : Int) (h0 : 0 ≤ j) (h : j < cs.length) : cB 1 (.ro bor (iI cs)) (I6 j) = some (.rp bor (cX (cs.getD j.toNat 0)) 0) := by
 have e : (iI cs)[j.toNat]? = some (cX (cs.getD j.toNat 0)) := by
  have : j.toNat < cs.length := by omega
  simp [iI, List.getElem?_map, List.getD, List.getElem?_eq_getElem this]
 unfold cB
 simp only [e]
 rw [if_pos h0]
 rfl
end
def q0 (c : Int) (mem : List Nat) : QS := ⟨c, mem, List.replicate 31 0, [], 0, iV, 0⟩
theorem aKM (c : Int) (mem : List Nat) (hm : ∀ x ∈ mem, x < 18446744073709551616) (hl : mem.length ≤ 1000000) : (q0 c mem).Ok :=
 ⟨⟨by simp [q0], fun x hx => by simp [q0] at hx; omega⟩, hm, by simp [q0], hl, by simp [q0]⟩
theorem aFa (l : List Nat) : oU 1 (bY l) = true := rD 1 _ (fun _ => rfl) l
theorem aEZ (l : List (Int × Int)) : oU 2 (gS l) = true := rD 2 _ (fun _ => rfl) l
theorem aFh (l : List (Int × Int)) : iW (gS l) = true := nL _ (fun _ => rfl) l
def aGf (s : QS) : AV := .agg (rsL (.ro false (bY s.mem)) (.ro false (gS s.leaks)) s)
theorem yH : ∀ xs ys : List AV, iW xs = true → iW ys = true → iW (xs ++ ys) = true
 | [], ys, _, h => h
 | x :: xs, ys, h1, h2 => by
  simp only [iW, Bool.and_eq_true] at h1
  simp [iW, h1.1, yH xs ys h1.2 h2]
theorem aEf (s : QS) : fM (aGf s) = true := by
 simp [aGf, rsL, fM, iW, jO, aFh, yH]
theorem aDg {f : AV → Option AV} : ∀ {xs xs' ys ys' : List AV}, mQ f xs = some xs' → mQ f ys = some ys' → mQ f (xs ++ ys) = some (xs' ++ ys')
 | [], xs', ys, ys', h1, h2 => by simp [mQ] at h1; subst h1; exact h2
 | x :: xs, xs', ys, ys', h1, h2 => by
  simp only [mQ] at h1
  cases hx : f x with
  | none => simp [hx] at h1
  | some y =>
   cases hs : mQ f xs with
   | none => simp [hx, hs] at h1
   | some zs =>
    simp [hx, hs] at h1; subst h1
    simp only [List.cons_append, mQ, hx, aDg hs h2]
theorem yN {x : AV} {H : aF} (hx : cK 0 x = true) {m : Option AV} (hm : m = some x) : fX [m] 0 H = some (.ret, [x], []) := by
 subst hm
 unfold fX
 exact nI hx H
def iF (f : Form) : AV := .agg [.bool f.d, .bool f.n, .bool f.m, .bool f.a, I6 f.b]
theorem fA (G : aI) (k : Nat) (op : Int) : aM.f G (k + 4) [I6 op] [] = some (iF (aN op), []) := by
 by_cases h : 1 ≤ op ∧ op ≤ 24
 ·rcases xE h with rfl | rfl | rfl | rfl | rfl | rfl | rfl | rfl | rfl | rfl | rfl | rfl | rfl | rfl | rfl | rfl | rfl | rfl | rfl | rfl | rfl | rfl | rfl | rfl <;> (clear h; show _ = _; kernel_rfl)
 ·rw [pK h, aM.step]
  unfold aM.c
  refine dX ?_
  have fx := True.intro
  refine gC ?_
  all_goals first | omega | exact oF (yN (x := iF ⟨⟨#[]⟩, 0, false, false, false, false, 0⟩) rfl rfl)
theorem aGB (G : aI) (k : Nat) (r : Int) (is : Bool) : bT.f G (k + 1) [I6 r, .bool is] [] = some (.bool (fP r is), []) := by
 rw [bT.step]
 unfold bT.c fP
 refine dX ?_
 cases is
 all_goals (
  repeat' first
   | (with_reducible first | refine eT ?_ | refine eN ?_ | refine eS ?_ | refine eXn ?_ | refine eXr ?_ | refine eX ?_ | refine eI ?_ | refine eK ?_ | refine eV0 ?_ | refine wX ?_ | refine xA ?_ | refine wU ?_ | refine wZ ?_ | refine wV ?_ | refine wW ?_)
   | ((with_reducible apply eCn); (simp only [eG, eF]; first | done | (with_reducible exact rfl)))
   | ((with_reducible apply eJ); (rfl))
   | ((with_reducible apply wY); (first | rfl | (simp only [eG, eF]; rfl)))
   | ((with_reducible apply eB); (first | (with_reducible exact rfl) | (simp (disch := omega) only [qa, jM, AV.cells, fF, aZ, kZ, eP, fN, kS, Nat.reduceLeDiff, Nat.reduceLT, Nat.reduceAdd, ↓reduceIte]; first | done | (with_reducible exact rfl) | (with_reducible exact ⟨rfl, rfl⟩))))
   | ((with_reducible apply eR); (simp only [eG, eF]; (with_reducible exact rfl)))
   | ((with_reducible first | refine zS ?_ ?_ | refine zX ?_ ?_ | refine zW ?_ ?_ | refine zV ?_ ?_ | refine zU ?_ ?_ | refine zT ?_ ?_ | refine zY ?_ ?_ | refine qZ ?_ ?_ | refine sGd ?_ ?_ | refine qK ?_ ?_) <;> intro hq <;> try subst hq)
  all_goals (refine xG ?_; simp; try omega))
theorem aEC (G : aI) (k : Nat) (n : Int) : cA.f G (k + 1) [I6 n] [] = some (.bool (decide ((0 ≤ n ∧ n ≤ 3) ∨ n = 8 ∨ n = 9)), []) := by
 rw [cA.step]
 unfold cA.c
 refine dX ?_
 have fx := True.intro
 exact wkC
theorem aBb (G : aI) (k : Nat) (n b h : Int) (hb : (b = 19 ∧ h = 262144) ∨ (b = 26 ∧ h = 33554432)) : cH.f G (k + 1) [I6 n, I6 b] [] = some (.bool (decide (-h ≤ n ∧ n < h)), []) := by
 rw [cH.step]
 unfold cH.c
 obtain ⟨s1, s2, s3, s4⟩ : aQ Tryd.prog .sub 3 true (I6 b) (.int .i64 1) = some (I6 (b - 1)) ∧ aJ .u64 (I6 (b - 1)) = some (.int .u64 (b - 1)) ∧ aQ Tryd.prog .shl 3 true (.int .i64 1) (.int .u64 (b - 1)) = some (I6 h) ∧ aQ Tryd.prog .shl 3 true (.int .i64 (-1)) (.int .u64 (b - 1)) = some (I6 (-h)) := by
  rcases hb with ⟨rfl, rfl⟩ | ⟨rfl, rfl⟩
  ·exact ⟨by kernel_rfl, by kernel_rfl, by kernel_rfl, by kernel_rfl⟩
  ·exact ⟨by kernel_rfl, by kernel_rfl, by kernel_rfl, by kernel_rfl⟩
 clear hb
 refine dX ?_
 have fx := aOO s1 <| aOO s2 <| aOO s3 <| s4
 exact wkC
theorem fK (G : aI) (k : Nat) (op : Int) (h : 1 ≤ op ∧ op ≤ 24) : aY.f G (k + 1) [I6 op] [] = some (cX (aN op).w, []) := by
 rcases xE h with rfl | rfl | rfl | rfl | rfl | rfl | rfl | rfl | rfl | rfl | rfl | rfl | rfl | rfl | rfl | rfl | rfl | rfl | rfl | rfl | rfl | rfl | rfl | rfl <;> (clear h; show _ = _; kernel_rfl)
theorem eM (G : aI) (k : Nat) (op d n m a imm : Int) : aS.f G (k + 5) [mV op d n m a imm] [] = some (.bool (aT ⟨op, d, n, m, a, imm⟩), []) := by
 rw [aS.step]
 unfold aS.c
 have r1 : ∀ H, aE (aM.f G (k + 4)) [I6 op] H = _ := fun H => aD (H := H) (fA G k op) rfl rfl
 have r2 : ∀ r is H, aE (bT.f G (k + 4)) [I6 r, .bool is] H = _ := fun r is H => aD (H := H) (aGB G (k + 3) r is) rfl rfl
 have r3 : ∀ H, aE (cA.f G (k + 4)) [I6 a] H = _ := fun H => aD (H := H) (aEC G (k + 3) a) rfl rfl
 have r4 : ∀ H, aE (cH.f G (k + 4)) [I6 imm, .int .i64 19] H = _ := fun H => aD (H := H) (aBb G (k + 3) imm 19 262144 (.inl ⟨rfl, rfl⟩)) rfl rfl
 have r5 : ∀ H, aE (cH.f G (k + 4)) [I6 imm, .int .i64 26] H = _ := fun H => aD (H := H) (aBb G (k + 3) imm 26 33554432 (.inr ⟨rfl, rfl⟩)) rfl rfl
 have s12 : aQ Tryd.prog .shl 3 true (.int .i64 1) (.int .u64 12) = some (.int .i64 4096) := by kernel_rfl
 have s16 : aQ Tryd.prog .shl 3 true (.int .i64 1) (.int .u64 16) = some (.int .i64 65536) := by kernel_rfl
 have s6 : aQ Tryd.prog .shl 3 true (.int .i64 1) (.int .u64 6) = some (.int .i64 64) := by kernel_rfl
 have s0 : aQ Tryd.prog .shl 3 true (.int .i64 1) (.int .u64 0) = some (.int .i64 1) := by kernel_rfl
 by_cases h : 1 ≤ op ∧ op ≤ 24
 ·refine dX ?_
  rcases xE h with rfl | rfl | rfl | rfl | rfl | rfl | rfl | rfl | rfl | rfl | rfl | rfl | rfl | rfl | rfl | rfl | rfl | rfl | rfl | rfl | rfl | rfl | rfl | rfl
  all_goals (
   clear h
   simp only [iF, aN, Int.reduceEq, if_true, if_false, ↓reduceIte] at r1
   repeat' first
    | (with_reducible first | refine eT ?_ | refine eN ?_ | refine eS ?_ | refine eXn ?_ | refine eXr ?_ | refine eX ?_ | refine eI ?_ | refine eK ?_ | refine eV0 ?_ | refine wX ?_ | refine xA ?_ | refine wU ?_ | refine wZ ?_ | refine wV ?_ | refine wW ?_)
    | ((with_reducible apply eCn); (simp only [eG, eF]; first | done | (with_reducible exact rfl)))
    | ((with_reducible apply eJ); (rfl))
    | ((with_reducible apply wY); (first | rfl | (simp only [eG, eF]; rfl)))
    | ((with_reducible apply eB); (first | (with_reducible exact rfl) | (simp (disch := omega) only [qf, r1, r2, r3, r4, r5, s0, s6, s12, s16]; first | done | (with_reducible exact rfl) | (with_reducible exact ⟨rfl, rfl⟩)) | (simp (disch := omega) only [qa, jM, AV.cells, fF, aZ, kZ, eP, fN, kS, Nat.reduceLeDiff, Nat.reduceLT, Nat.reduceAdd, ↓reduceIte, r1, r2, r3, r4, r5, s0, s6, s12, s16]; first | done | (with_reducible exact rfl) | (with_reducible exact ⟨rfl, rfl⟩))))
    | ((with_reducible apply eR); (simp only [eG, eF]; (with_reducible exact rfl)))
    | ((with_reducible first | refine zS ?_ ?_ | refine zX ?_ ?_ | refine zW ?_ ?_ | refine zV ?_ ?_ | refine zU ?_ ?_ | refine zT ?_ ?_ | refine zY ?_ ?_ | refine qZ ?_ ?_ | refine sGd ?_ ?_ | refine qK ?_ ?_) <;> intro hq <;> try subst hq)
   all_goals (refine xG ?_; simp [aT, jQ, dS, aN, fP, dA, fW, dU, dB] at *; try omega))
 ·have e : aT ⟨op, d, n, m, a, imm⟩ = false := by
   unfold aT jQ
   simp only
   rw [decide_eq_false h, Bool.false_and]
  rw [e]
  rw [pK h] at r1
  unfold iF at r1
  refine dX ?_
  repeat' first
   | (with_reducible first | refine eT ?_ | refine eN ?_ | refine eS ?_ | refine eXn ?_ | refine eXr ?_ | refine eX ?_ | refine eI ?_ | refine eK ?_ | refine eV0 ?_ | refine wX ?_ | refine xA ?_ | refine wU ?_ | refine wZ ?_ | refine wV ?_ | refine wW ?_)
   | ((with_reducible apply eCn); (simp only [eG, eF]; first | done | (with_reducible exact rfl)))
   | ((with_reducible apply eJ); (rfl))
   | ((with_reducible apply wY); (first | rfl | (simp only [eG, eF]; rfl)))
   | ((with_reducible apply eB); (first | (with_reducible exact rfl) | (simp (disch := omega) only [qf, r1]; first | done | (with_reducible exact rfl) | (with_reducible exact ⟨rfl, rfl⟩)) | (simp (disch := omega) only [qa, jM, AV.cells, fF, aZ, kZ, eP, fN, kS, Nat.reduceLeDiff, Nat.reduceLT, Nat.reduceAdd, ↓reduceIte, r1]; first | done | (with_reducible exact rfl) | (with_reducible exact ⟨rfl, rfl⟩))))
   | ((with_reducible apply eR); (simp only [eG, eF]; (with_reducible exact rfl)))
   | ((with_reducible first | refine zS ?_ ?_ | refine zX ?_ ?_ | refine zW ?_ ?_ | refine zV ?_ ?_ | refine zU ?_ ?_ | refine zT ?_ ?_ | refine zY ?_ ?_ | refine qZ ?_ ?_ | refine sGd ?_ ?_ | refine qK ?_ ?_) <;> intro hq <;> try subst hq)
  exact xG rfl
end Go.Proofs.YtdfglgnflldkpaaDoor.Mir
