/- Part 4 of the proof: what these functions do. -/
import Derived.Test.YtdfglgnflldkpaaDoorVd3
import Derived.Test.YtdfglgnflldkpaaDoorRows
import Derived.KernelRfl
import Derived.SizedLaws
namespace Go.Proofs.YtdfglgnflldkpaaDoor
open Go Go.ChangeShapes Go.WideShapes Go.RowKit Mir
set_option linter.unusedVariables false
set_option linter.unusedSimpArgs false
namespace Rk
theorem own : ownKnob Tryd.prog.godebug = none := by kernel_rfl
theorem laidOut : laidOutB Tryd.prog = true := by kernel_rfl
theorem star : "*" ++ "errors.errorString" = "*errors.errorString" := by decide
theorem row (u : TypeId) (h : Tryd.prog.typeName? 3 u = some "*errors.errorString") : u = 180 :=
  typeName_ptr_named (nm := "errors.errorString") (by rw [star]; kernel_rfl) (by kernel_rfl) (by decide) u (by rw [star]; exact h)
noncomputable def low : Nat := (World.holding Tryd.prog default ⟨#[], #[], []⟩).heap.size
end Rk
end Go.Proofs.YtdfglgnflldkpaaDoor
namespace Go.Proofs.YtdfglgnflldkpaaDoor.Mir
open Go
set_option linter.unusedVariables false
set_option linter.unusedSimpArgs false
set_option maxHeartbeats 8000000
set_option maxRecDepth 20000
abbrev I6 (n : Int) : AV := .int .i64 n
abbrev Nn (n : Nat) : AV := .int .i64 (n : Int)
abbrev Un (n : Nat) : AV := .int .u64 (n : Int)
abbrev W32 (n : Int) : AV := .int .u32 n
/-- An instruction. -/
structure MI where
  op : Int
  d : Int
  n : Int
  m : Int
  a : Int
  imm : Int
abbrev mV (op d n m a imm : Int) : AV := .agg [I6 op, I6 d, I6 n, I6 m, I6 a, I6 imm]
def MI.v (i : MI) : AV := mV i.op i.d i.n i.m i.a i.imm
structure Form where
  nm : ByteArray
  w : Int
  d : Bool
  n : Bool
  m : Bool
  a : Bool
  b : Int
def Form.v (f : Form) : AV := .agg [.str f.nm, W32 f.w, .bool f.d, .bool f.n, .bool f.m, .bool f.a, I6 f.b]
def formF (op : Int) : Form :=
  if op = 1 then ⟨⟨#[109, 111, 118, 122]⟩, 3531603968, true, false, false, true, 16⟩ else
  if op = 2 then ⟨⟨#[109, 111, 118, 107]⟩, 4068474880, true, false, false, true, 16⟩ else
  if op = 3 then ⟨⟨#[97, 100, 100]⟩, 2332033024, true, true, true, false, 0⟩ else
  if op = 4 then ⟨⟨#[115, 117, 98]⟩, 3405774848, true, true, true, false, 0⟩ else
  if op = 5 then ⟨⟨#[97, 110, 100]⟩, 2315255808, true, true, true, false, 0⟩ else
  if op = 6 then ⟨⟨#[111, 114, 114]⟩, 2852126720, true, true, true, false, 0⟩ else
  if op = 7 then ⟨⟨#[101, 111, 114]⟩, 3388997632, true, true, true, false, 0⟩ else
  if op = 8 then ⟨⟨#[109, 97, 100, 100]⟩, 2600468480, true, true, true, true, 0⟩ else
  if op = 9 then ⟨⟨#[117, 109, 117, 108, 104]⟩, 2613083136, true, true, true, false, 0⟩ else
  if op = 10 then ⟨⟨#[97, 100, 100, 105]⟩, 2432696320, true, true, false, false, 12⟩ else
  if op = 11 then ⟨⟨#[115, 117, 98, 105]⟩, 3506438144, true, true, false, false, 12⟩ else
  if op = 12 then ⟨⟨#[108, 115, 108]⟩, 3544186880, true, true, false, false, 6⟩ else
  if op = 13 then ⟨⟨#[108, 115, 114]⟩, 3544186880, true, true, false, false, 6⟩ else
  if op = 14 then ⟨⟨#[97, 115, 114]⟩, 2470509568, true, true, false, false, 6⟩ else
  if op = 15 then ⟨⟨#[99, 109, 112]⟩, 3942645791, false, true, true, false, 0⟩ else
  if op = 16 then ⟨⟨#[99, 115, 101, 108]⟩, 2592079872, true, true, true, true, 0⟩ else
  if op = 17 then ⟨⟨#[99, 115, 101, 116]⟩, 2594113504, true, false, false, true, 0⟩ else
  if op = 18 then ⟨⟨#[108, 100, 114]⟩, 4181721088, true, true, false, false, 12⟩ else
  if op = 19 then ⟨⟨#[115, 116, 114]⟩, 4177526784, true, true, false, false, 12⟩ else
  if op = 20 then ⟨⟨#[98]⟩, 335544320, false, false, false, false, 26⟩ else
  if op = 21 then ⟨⟨#[98, 99, 99]⟩, 1409286144, false, false, false, true, 19⟩ else
  if op = 22 then ⟨⟨#[99, 98, 122]⟩, 3019898880, true, false, false, false, 19⟩ else
  if op = 23 then ⟨⟨#[99, 98, 110, 122]⟩, 3036676096, true, false, false, false, 19⟩ else
  if op = 24 then ⟨⟨#[104, 108, 116]⟩, 3560964096, false, false, false, false, 16⟩ else
  ⟨⟨#[]⟩, 0, false, false, false, false, 0⟩
def isOp (op : Int) : Bool := decide (1 ≤ op ∧ op ≤ 24)
theorem op24 {op : Int} (h : 1 ≤ op ∧ op ≤ 24) : op = 1 ∨ op = 2 ∨ op = 3 ∨ op = 4 ∨ op = 5 ∨ op = 6 ∨ op = 7 ∨ op = 8 ∨ op = 9 ∨ op = 10 ∨ op = 11 ∨ op = 12 ∨ op = 13 ∨ op = 14 ∨ op = 15 ∨ op = 16 ∨ op = 17 ∨ op = 18 ∨ op = 19 ∨ op = 20 ∨ op = 21 ∨ op = 22 ∨ op = 23 ∨ op = 24 := by omega
theorem formF_none {op : Int} (h : ¬ (1 ≤ op ∧ op ≤ 24)) : formF op = ⟨⟨#[]⟩, 0, false, false, false, false, 0⟩ := by
  unfold formF
  simp (disch := omega) only [if_neg]
theorem form_bits (op : Int) : (formF op).b = 0 ∨ (formF op).b = 6 ∨ (formF op).b = 12 ∨ (formF op).b = 16 ∨ (formF op).b = 19 ∨ (formF op).b = 26 := by
  by_cases h : 1 ≤ op ∧ op ≤ 24
  · rcases op24 h with rfl | rfl | rfl | rfl | rfl | rfl | rfl | rfl | rfl | rfl | rfl | rfl | rfl | rfl | rfl | rfl | rfl | rfl | rfl | rfl | rfl | rfl | rfl | rfl <;> simp [formF]
  · rw [formF_none h]; simp
theorem of_none (G : Globs) (k : Nat) (op : Int) (h : ¬ (1 ≤ op ∧ op ≤ 24)) : isa_of.f G (k + 4) [I6 op] [] = some (.tup [.agg [.str ⟨#[]⟩, W32 0, .bool false, .bool false, .bool false, .bool false, I6 0], .bool false], []) := by
  have pl : isa_plain.f G (k + 3) [I6 op] [] = some (.tup [.agg [.str ⟨#[]⟩, W32 0, .bool false, .bool false, .bool false, .bool false, I6 0], .bool false], []) := by
    rw [isa_plain.step]
    unfold isa_plain.c
    refine e_in ?_
    have fx := True.intro
    refine wkA ?_
    all_goals first | omega | (refine oF ?_; rfl)
  rw [isa_of.step]
  unfold isa_of.c
  have r : ∀ H, pureCall (isa_plain.f G (k + 3)) [I6 op] H = _ := fun H => pureCall_of (H := H) pl rfl rfl
  refine e_in ?_
  have fx := r
  refine wkA ?_
  all_goals first | omega | (refine oF ?_; rfl)
theorem of_spec (G : Globs) (k : Nat) (op : Int) : isa_of.f G (k + 4) [I6 op] [] = some (.tup [(formF op).v, .bool (isOp op)], []) := by
  by_cases h : 1 ≤ op ∧ op ≤ 24
  · rcases op24 h with rfl | rfl | rfl | rfl | rfl | rfl | rfl | rfl | rfl | rfl | rfl | rfl | rfl | rfl | rfl | rfl | rfl | rfl | rfl | rfl | rfl | rfl | rfl | rfl <;> (clear h; show _ = _; kernel_rfl)
  · have e : isOp op = false := decide_eq_false h
    rw [formF_none h, e]
    exact of_none G k op h
def regB (r : Int) (is : Bool) : Bool := decide (r = 0 ∨ (is = true ∧ 0 < r ∧ r ≤ 31))
theorem register_spec (G : Globs) (k : Nat) (r : Int) (is : Bool) : isa_register.f G (k + 1) [I6 r, .bool is] [] = some (.bool (regB r is), []) := by
  rw [isa_register.step]
  unfold isa_register.c regB
  refine e_in ?_
  cases is
  all_goals (
    repeat' first
      | (with_reducible first | refine eT ?_ | refine eN ?_ | refine eS ?_ | refine eXn ?_ | refine eXr ?_ | refine eX ?_ | refine eI ?_ | refine eK ?_ | refine eV0 ?_ | refine eGr0 ?_ | refine eGtt ?_ | refine eGff ?_ | refine eGtf ?_ | refine eGft ?_ | refine eGno ?_)
      | ((with_reducible apply eCn); (simp only [nth_zero, nth_succ]; first | done | (with_reducible exact rfl)))
      | ((with_reducible apply eJ); (rfl))
      | ((with_reducible apply eGr1); (first | rfl | (simp only [nth_zero, nth_succ]; rfl)))
      | ((with_reducible apply eB); (first | (with_reducible exact rfl) | (simp (disch := omega) only [qa, putC, AV.cells, storable, buildSt, fillA, buildRo, buildOwn, fillE, Nat.reduceLeDiff, Nat.reduceLT, Nat.reduceAdd, ↓reduceIte]; first | done | (with_reducible exact rfl) | (with_reducible exact ⟨rfl, rfl⟩))))
      | ((with_reducible apply eR); (simp only [nth_zero, nth_succ]; (with_reducible exact rfl)))
      | ((with_reducible first | refine sEql ?_ ?_ | refine sNeq ?_ ?_ | refine sLss ?_ ?_ | refine sLeq ?_ ?_ | refine sGtr ?_ ?_ | refine sGeq ?_ ?_ | refine sNot ?_ ?_ | refine sPick ?_ ?_ | refine sGd ?_ ?_ | refine eBool ?_ ?_) <;> intro hq <;> try subst hq)
    all_goals (refine w1b ?_; simp; try omega))
def extraB (op a : Int) : Bool :=
  if op = 1 ∨ op = 2 then decide (0 ≤ a ∧ a ≤ 3)
  else if op = 16 ∨ op = 17 ∨ op = 21 then decide ((0 ≤ a ∧ a ≤ 3) ∨ a = 8 ∨ a = 9)
  else decide (0 ≤ a ∧ a ≤ 31)
theorem extra_spec (G : Globs) (k : Nat) (op d n m a imm : Int) : isa_extra.f G (k + 1) [mV op d n m a imm] [] = some (.bool (extraB op a), []) := by
  rw [isa_extra.step]
  unfold isa_extra.c extraB
  refine e_in ?_
  by_cases h1 : op = 1 ∨ op = 2
  · rw [if_pos h1]
    have fx := True.intro
    exact wkC
  rw [if_neg h1]
  by_cases h2 : op = 16 ∨ op = 17 ∨ op = 21
  · rw [if_pos h2]
    have fx := True.intro
    exact wkC
  rw [if_neg h2]
  have fx := True.intro
  exact wkC
def stackB (op d n : Int) : Bool := decide (((op = 10 ∨ op = 11) ∧ (d = 31 ∨ n = 31)) ∨ ((op = 18 ∨ op = 19) ∧ n = 31))
theorem stack_spec (G : Globs) (k : Nat) (op d n m a imm : Int) : isa_stack.f G (k + 1) [mV op d n m a imm] [] = some (.bool (stackB op d n), []) := by
  rw [isa_stack.step]
  unfold isa_stack.c stackB
  refine e_in ?_
  have fx := True.intro
  exact wkC
theorem signed_spec (G : Globs) (k : Nat) (op : Int) : isa_signed.f G (k + 1) [I6 op] [] = some (.bool (decide (20 ≤ op ∧ op ≤ 23)), []) := by
  rw [isa_signed.step]
  unfold isa_signed.c
  refine e_in ?_
  have fx := True.intro
  exact wkC
def halfI (b : Int) : Int := if b = 6 then 32 else if b = 12 then 2048 else if b = 16 then 32768 else if b = 19 then 262144 else 33554432
def immB (op imm b : Int) : Bool :=
  if b = 0 then decide (imm = 0)
  else if 20 ≤ op ∧ op ≤ 23 then decide (-(halfI b) ≤ imm ∧ imm < halfI b)
  else decide (0 ≤ imm ∧ imm < 2 * halfI b)
theorem imm_spec (G : Globs) (k : Nat) (op d n m a imm b : Int) (hb : b = 0 ∨ b = 6 ∨ b = 12 ∨ b = 16 ∨ b = 19 ∨ b = 26) : isa_imm.f G (k + 2) [mV op d n m a imm, I6 b] [] = some (.bool (immB op imm b), []) := by
  rw [isa_imm.step]
  unfold isa_imm.c immB
  have r : ∀ H, pureCall (isa_signed.f G (k + 1)) [I6 op] H = _ := fun H => pureCall_of (H := H) (signed_spec G k op) rfl rfl
  refine e_in ?_
  by_cases h0 : b = 0
  · rw [if_pos h0]
    have fx := True.intro
    exact wkC
  rw [if_neg h0]
  have hb' : b = 6 ∨ b = 12 ∨ b = 16 ∨ b = 19 ∨ b = 26 := by omega
  obtain ⟨z, hz, s1, s2, s3, s4⟩ : ∃ z : Int, halfI b = z ∧ bin Tryd.prog .sub 3 true (I6 b) (.int .i64 1) = some (I6 (b - 1)) ∧ bin Tryd.prog .shl 3 true (.int .i64 1) (I6 (b - 1)) = some (I6 z) ∧ un .neg (I6 z) = some (I6 (-z)) ∧ bin Tryd.prog .shl 3 true (.int .i64 1) (I6 b) = some (I6 (2 * z)) := by
    clear hb h0 r
    rcases hb' with rfl | rfl | rfl | rfl | rfl
    · exact ⟨32, rfl, by kernel_rfl, by kernel_rfl, by kernel_rfl, by kernel_rfl⟩
    · exact ⟨2048, rfl, by kernel_rfl, by kernel_rfl, by kernel_rfl, by kernel_rfl⟩
    · exact ⟨32768, rfl, by kernel_rfl, by kernel_rfl, by kernel_rfl, by kernel_rfl⟩
    · exact ⟨262144, rfl, by kernel_rfl, by kernel_rfl, by kernel_rfl, by kernel_rfl⟩
    · exact ⟨33554432, rfl, by kernel_rfl, by kernel_rfl, by kernel_rfl, by kernel_rfl⟩
  rw [hz]
  clear hz hb hb'
  by_cases hs : 20 ≤ op ∧ op ≤ 23
  · rw [if_pos hs]
    rw [decide_eq_true hs] at r
    have fx := And.intro r <| And.intro s1 <| And.intro s2 <| And.intro s3 <| s4
    exact wkC
  · rw [if_neg hs]
    rw [decide_eq_false hs] at r
    have fx := And.intro r <| And.intro s1 <| And.intro s2 <| And.intro s3 <| s4
    exact wkC
/-- May an instruction be, in its form? -/
def fairB (i : MI) (f : Form) : Bool :=
  regB i.d f.d && regB i.n f.n && regB i.m f.m && (if f.a = true then extraB i.op i.a else decide (i.a = 0)) && immB i.op i.imm f.b && !stackB i.op i.d i.n
theorem fair_spec (G : Globs) (k : Nat) (op d n m a imm : Int) (f : Form) (hb : f.b = 0 ∨ f.b = 6 ∨ f.b = 12 ∨ f.b = 16 ∨ f.b = 19 ∨ f.b = 26) : isa_fair.f G (k + 3) [mV op d n m a imm, f.v] [] = some (.bool (fairB ⟨op, d, n, m, a, imm⟩ f), []) := by
  obtain ⟨nm, w, fd, fn, fm, fa, fb⟩ := f
  rw [isa_fair.step]
  unfold isa_fair.c fairB Form.v
  have r1 : ∀ r is H, pureCall (isa_register.f G (k + 2)) [I6 r, .bool is] H = _ := fun r is H => pureCall_of (H := H) (register_spec G (k + 1) r is) rfl rfl
  have r2 : ∀ H, pureCall (isa_extra.f G (k + 2)) [mV op d n m a imm] H = _ := fun H => pureCall_of (H := H) (extra_spec G (k + 1) op d n m a imm) rfl rfl
  have r3 : ∀ H, pureCall (isa_imm.f G (k + 2)) [mV op d n m a imm, I6 fb] H = _ := fun H => pureCall_of (H := H) (imm_spec G k op d n m a imm fb hb) rfl rfl
  have r4 : ∀ H, pureCall (isa_stack.f G (k + 2)) [mV op d n m a imm] H = _ := fun H => pureCall_of (H := H) (stack_spec G (k + 1) op d n m a imm) rfl rfl
  simp only
  generalize immB op imm fb = g3 at *
  generalize extraB op a = g2 at *
  generalize stackB op d n = g4 at *
  have c1 := r1 d fd
  have c2 := r1 n fn
  have c3 := r1 m fm
  generalize regB d fd = t1 at *
  generalize regB n fn = t2 at *
  generalize regB m fm = t3 at *
  clear r1
  refine e_in ?_
  cases t1
  · have fx := And.intro c1 <| And.intro c2 <| And.intro c3 <| And.intro r2 <| And.intro r3 <| r4
    refine wkA ?_
    exact w1b (by simp)
  cases t2
  · have fx := And.intro c1 <| And.intro c2 <| And.intro c3 <| And.intro r2 <| And.intro r3 <| r4
    refine wkA ?_
    exact w1b (by simp)
  cases t3
  · have fx := And.intro c1 <| And.intro c2 <| And.intro c3 <| And.intro r2 <| And.intro r3 <| r4
    refine wkA ?_
    exact w1b (by simp)
  cases fa
  · by_cases ha : a = 0
    · subst ha
      cases g3
      · have fx := And.intro c1 <| And.intro c2 <| And.intro c3 <| And.intro r2 <| And.intro r3 <| r4
        refine wkA ?_
        exact w1b (by simp)
      · cases g4
        · have fx := And.intro c1 <| And.intro c2 <| And.intro c3 <| And.intro r2 <| And.intro r3 <| r4
          refine wkA ?_
          exact w1b (by simp)
        · have fx := And.intro c1 <| And.intro c2 <| And.intro c3 <| And.intro r2 <| And.intro r3 <| r4
          refine wkA ?_
          exact w1b (by simp)
    · have fx := And.intro c1 <| And.intro c2 <| And.intro c3 <| And.intro r2 <| And.intro r3 <| r4
      refine wkA ?_
      exact w1b (by simp [ha])
  · cases g2
    · have fx := And.intro c1 <| And.intro c2 <| And.intro c3 <| And.intro r2 <| And.intro r3 <| r4
      refine wkA ?_
      exact w1b (by simp)
    · cases g3
      · have fx := And.intro c1 <| And.intro c2 <| And.intro c3 <| And.intro r2 <| And.intro r3 <| r4
        refine wkA ?_
        exact w1b (by simp)
      · cases g4
        · have fx := And.intro c1 <| And.intro c2 <| And.intro c3 <| And.intro r2 <| And.intro r3 <| r4
          refine wkA ?_
          exact w1b (by simp)
        · have fx := And.intro c1 <| And.intro c2 <| And.intro c3 <| And.intro r2 <| And.intro r3 <| r4
          refine wkA ?_
          exact w1b (by simp)
def rightB (i : MI) : Bool := isOp i.op && fairB i (formF i.op)
theorem cv32 (x : Int) : convInt .u32 (I6 x) = some (W32 (IntKind.u32.wrap x)) := convInt_int ..
end Go.Proofs.YtdfglgnflldkpaaDoor.Mir
namespace Go.Proofs.YtdfglgnflldkpaaDoor.Mir
open Go
set_option linter.unusedVariables false
set_option linter.unusedSimpArgs false
set_option maxHeartbeats 8000000
set_option maxRecDepth 20000
/-! ### Words of 32 bits -/
theorem ofInt_u32 (a : Nat) (h : a < 4294967296) : (BitVec.ofInt 32 (a : Int)).toNat = a := by
  rw [BitVec.toNat_ofInt]
  omega
theorem u32_or (a b : Nat) (ha : a < 4294967296) (hb : b < 4294967296) : IntKind.u32.wrap ((BitVec.ofInt 32 (a : Int) ||| BitVec.ofInt 32 (b : Int)).toNat : Int) = ((a ||| b : Nat) : Int) := by
  have hx : a ||| b < 2 ^ 32 := Nat.or_lt_two_pow (by omega) (by omega)
  rw [BitVec.toNat_or, ofInt_u32 a ha, ofInt_u32 b hb, wrap_of_u32 (by omega) (by omega)]
theorem u32_and (a b : Nat) (ha : a < 4294967296) (hb : b < 4294967296) : bits .and .u32 (a : Int) (b : Int) = ((a &&& b : Nat) : Int) := by
  have hx : a &&& b ≤ a := Nat.and_le_left
  show IntKind.u32.wrap ((BitVec.ofInt 32 (a : Int) &&& BitVec.ofInt 32 (b : Int)).toNat : Int) = _
  rw [BitVec.toNat_and, ofInt_u32 a ha, ofInt_u32 b hb, wrap_of_u32 (by omega) (by omega)]
theorem or_add {x y : Nat} (h : x &&& y = 0) (hb : x + y < 2 ^ 64) : x ||| y = x + y := by
  have e : (BitVec.ofNat 64 x &&& BitVec.ofNat 64 y) = 0#64 := by
    apply BitVec.eq_of_toNat_eq
    rw [BitVec.toNat_and, BitVec.toNat_ofNat, BitVec.toNat_ofNat, Nat.mod_eq_of_lt (by omega), Nat.mod_eq_of_lt (by omega), h]
    rfl
  have h2 := BitVec.add_eq_or_of_and_eq_zero _ _ e
  have h3 := congrArg BitVec.toNat h2
  rw [BitVec.toNat_add, BitVec.toNat_or, BitVec.toNat_ofNat, BitVec.toNat_ofNat, Nat.mod_eq_of_lt (show x < 2 ^ 64 by omega), Nat.mod_eq_of_lt (show y < 2 ^ 64 by omega), Nat.mod_eq_of_lt hb] at h3
  exact h3.symm
/-- No bit of both. -/
def dj (x y : Int) : Prop := 0 ≤ x ∧ 0 ≤ y ∧ x.toNat &&& y.toNat = 0
theorem dj_field {x v p q : Int} (s w : Nat) (hp : p = ((2 ^ s : Nat) : Int)) (hq : q = ((2 ^ w : Nat) : Int)) (x0 : 0 ≤ x) (v0 : 0 ≤ v) (v1 : v < q) (hz : x / p % q = 0) : dj x (v * p) := by
  obtain ⟨X, rfl⟩ : ∃ X : Nat, x = X := ⟨x.toNat, by omega⟩
  obtain ⟨V, rfl⟩ : ∃ V : Nat, v = V := ⟨v.toNat, by omega⟩
  subst hp; subst hq
  have hV : V < 2 ^ w := by exact_mod_cast v1
  have hZ : X / 2 ^ s % 2 ^ w = 0 := by exact_mod_cast hz
  refine ⟨x0, by exact_mod_cast Nat.zero_le (V * 2 ^ s), ?_⟩
  have e : ((V : Int) * ((2 ^ s : Nat) : Int)).toNat = V * 2 ^ s := by rw [← Int.natCast_mul]; rfl
  rw [e, Int.toNat_natCast]
  apply Nat.eq_of_testBit_eq
  intro j
  rw [Nat.testBit_and, Nat.testBit_mul_two_pow, Nat.zero_testBit]
  by_cases hs : s ≤ j
  · by_cases hw : j - s < w
    · have h1 : (X / 2 ^ s % 2 ^ w).testBit (j - s) = X.testBit j := by
        rw [Nat.testBit_mod_two_pow, Nat.testBit_div_two_pow, Nat.sub_add_cancel hs]; simp [hw]
      rw [hZ, Nat.zero_testBit] at h1
      rw [← h1]; rfl
    · have h1 : V.testBit (j - s) = false := Nat.testBit_lt_two_pow (Nat.lt_of_lt_of_le hV (Nat.pow_le_pow_right (by decide) (by omega)))
      rw [h1]; simp
  · simp [hs]
theorem dj_add {x y z : Int} (h1 : dj x y) (h2 : dj x z) (h3 : dj y z) (hb : y + z < 18446744073709551616) : dj x (y + z) := by
  obtain ⟨x0, y0, h1⟩ := h1
  obtain ⟨_, z0, h2⟩ := h2
  obtain ⟨_, _, h3⟩ := h3
  refine ⟨x0, by omega, ?_⟩
  have e : (y + z).toNat = y.toNat + z.toNat := by omega
  rw [e, ← or_add h3 (by omega), Nat.and_or_distrib_left, h1, h2]
  rfl
theorem or_dj (P : Program) (t : Nat) (c : Bool) {x y : Int} (h : dj x y) (hb : x + y < 4294967296) : bin P .or t c (W32 x) (W32 y) = some (W32 (x + y)) := by
  obtain ⟨x0, y0, h⟩ := h
  obtain ⟨X, rfl⟩ : ∃ X : Nat, x = X := ⟨x.toNat, by omega⟩
  obtain ⟨Y, rfl⟩ : ∃ Y : Nat, y = Y := ⟨y.toNat, by omega⟩
  rw [Int.toNat_natCast, Int.toNat_natCast] at h
  rw [bin_or]
  show some (AV.int .u32 (IntKind.u32.wrap ((BitVec.ofInt 32 (X : Int) ||| BitVec.ofInt 32 (Y : Int)).toNat : Int))) = _
  rw [u32_or X Y (by omega) (by omega), or_add h (by omega)]
  rfl
theorem or_fd (P : Program) (t : Nat) (c : Bool) {x v p q : Int} (s w : Nat) (hp : p = ((2 ^ s : Nat) : Int)) (hq : q = ((2 ^ w : Nat) : Int)) (x0 : 0 ≤ x) (v0 : 0 ≤ v) (v1 : v < q) (hz : x / p % q = 0) (hb : x + v * p < 4294967296) :
    bin P .or t c (W32 x) (W32 (v * p)) = some (W32 (x + v * p)) := or_dj P t c (dj_field s w hp hq x0 v0 v1 hz) hb
theorem or_f0 (P : Program) (t : Nat) (c : Bool) {x v q : Int} (w : Nat) (hq : q = ((2 ^ w : Nat) : Int)) (x0 : 0 ≤ x) (v0 : 0 ≤ v) (v1 : v < q) (hz : x % q = 0) (hb : x + v < 4294967296) :
    bin P .or t c (W32 x) (W32 v) = some (W32 (x + v)) := by
  have h := dj_field (x := x) (v := v) (p := 1) 0 w rfl hq x0 v0 v1 (by rw [Int.ediv_one]; exact hz)
  rw [Int.mul_one] at h
  exact or_dj P t c h hb
theorem and_low (P : Program) (t : Nat) (c : Bool) {x q : Int} (w : Nat) (hw : w ≤ 31) (hq : q = ((2 ^ w - 1 : Nat) : Int)) (x0 : 0 ≤ x) (x1 : x < 4294967296) : bin P .and t c (W32 x) (W32 q) = some (W32 (x % (q + 1))) := by
  obtain ⟨X, rfl⟩ : ∃ X : Nat, x = X := ⟨x.toNat, by omega⟩
  have hl : 2 ^ w ≤ 2 ^ 31 := Nat.pow_le_pow_right (by decide) hw
  have hl' : 0 < 2 ^ w := Nat.two_pow_pos w
  rw [bin_and, hq, u32_and X _ (by omega) (by omega), Nat.and_two_pow_sub_one_eq_mod]
  congr 2
  have e : ((2 ^ w - 1 : Nat) : Int) + 1 = ((2 ^ w : Nat) : Int) := by omega
  rw [e]; rfl
theorem shl_p (P : Program) (t : Nat) (c : Bool) {v p b : Int} (s : Nat) (hb : b = (s : Int)) (hs : s ≤ 32) (hp : p = ((2 ^ s : Nat) : Int)) (h0 : 0 ≤ v * p) (h1 : v * p < 4294967296) : bin P .shl t c (W32 v) (.int .u64 b) = some (W32 (v * p)) := by
  subst hb
  rw [bin_shl _ _ _ _ _ _ _ (Int.natCast_nonneg s), Int.toNat_natCast]
  have e : min s IntKind.u32.bits = s := Nat.min_eq_left hs
  have e2 : ((2 : Int) ^ s) = p := by rw [hp]; exact_mod_cast rfl
  rw [e, e2, wrap_of_u32 h0 h1]
/-- The number, and what stands at A, as bits. -/
def wNum (op a imm : Int) : Int :=
  if op = 1 ∨ op = 2 then a * 2097152 + imm * 32
  else if op = 8 then a * 1024
  else if op = 16 then a * 4096
  else if op = 17 then (if a % 2 = 0 then a + 1 else a - 1) * 4096
  else if op = 10 ∨ op = 11 ∨ op = 18 ∨ op = 19 then imm * 1024
  else if op = 12 then (64 - imm) % 64 * 65536 + (63 - imm) * 1024
  else if op = 13 then imm * 65536 + 64512
  else if op = 14 then imm * 65536
  else if op = 20 then imm % 67108864
  else if op = 21 then a + imm % 524288 * 32
  else if op = 22 ∨ op = 23 then imm % 524288 * 32
  else if op = 24 then imm * 32
  else 0
/-- An instruction's word. -/
def wordF (i : MI) : Int := (formF i.op).w + i.d + i.n * 32 + i.m * 65536 + wNum i.op i.a i.imm
theorem xor1 (P : Program) (t : Nat) (c : Bool) {a : Int} (h0 : 0 ≤ a) (h1 : a ≤ 9) : bin P .xor t c (W32 a) (.int .u32 1) = some (W32 (if a % 2 = 0 then a + 1 else a - 1)) := by
  have h : a = 0 ∨ a = 1 ∨ a = 2 ∨ a = 3 ∨ a = 4 ∨ a = 5 ∨ a = 6 ∨ a = 7 ∨ a = 8 ∨ a = 9 := by omega
  rcases h with rfl | rfl | rfl | rfl | rfl | rfl | rfl | rfl | rfl | rfl <;> (clear h0 h1; show _ = _; kernel_rfl)
theorem rem64 (P : Program) (t : Nat) (c : Bool) {a : Int} (h0 : 0 ≤ a) : bin P .rem t c (W32 a) (.int .u32 64) = some (W32 (a % 64)) := by
  rw [bin_rem _ _ _ _ _ _ (by decide), Int.tmod_eq_emod_of_nonneg h0]
theorem sub32 (P : Program) (t : Nat) (c : Bool) {a b : Int} (h0 : b ≤ a) (h1 : 0 ≤ b) (h2 : a < 4294967296) : bin P .sub t c (W32 a) (W32 b) = some (W32 (a - b)) := by
  rw [bin_sub, wrap_of_u32 (by omega) (by omega)]
theorem cvM (x : Int) : convInt .u32 (I6 x) = some (W32 (x % 4294967296)) := by rw [cv32, wrap_u32_eq]
theorem number_spec (G : Globs) (k : Nat) (i : MI) (h : rightB i = true) : isa_number.f G (k + 1) [i.v] [] = some (W32 (wNum i.op i.a i.imm), []) := by
  obtain ⟨op, d, n, m, a, imm⟩ := i
  show isa_number.f G (k + 1) [mV op d n m a imm] [] = _
  unfold rightB at h
  rw [Bool.and_eq_true] at h
  have h24 : 1 ≤ op ∧ op ≤ 24 := of_decide_eq_true h.1
  obtain ⟨_, h⟩ := h
  rw [isa_number.step]
  unfold isa_number.c
  simp only
  refine e_in ?_
  rcases op24 h24 with rfl | rfl | rfl | rfl | rfl | rfl | rfl | rfl | rfl | rfl | rfl | rfl | rfl | rfl | rfl | rfl | rfl | rfl | rfl | rfl | rfl | rfl | rfl | rfl
  all_goals (simp [formF, fairB, regB, extraB, immB, halfI, stackB] at h)
  · -- 1
    have s1 := shl_p Tryd.prog 71 true (v := a) (p := 2097152) (b := 21) 21 rfl (by decide) rfl (by omega) (by omega)
    have s2 := shl_p Tryd.prog 71 true (v := imm) (p := 32) (b := 5) 5 rfl (by decide) rfl (by omega) (by omega)
    have s3 := or_fd Tryd.prog 71 false (x := a * 2097152) (v := imm) (p := 32) (q := 65536) 5 16 rfl rfl (by omega) (by omega) (by omega) (by omega) (by omega)
    have fx := And.intro s1 <| And.intro s2 <| s3
    refine wkA ?_
    exact w1i rfl
  · -- 2
    have s1 := shl_p Tryd.prog 71 true (v := a) (p := 2097152) (b := 21) 21 rfl (by decide) rfl (by omega) (by omega)
    have s2 := shl_p Tryd.prog 71 true (v := imm) (p := 32) (b := 5) 5 rfl (by decide) rfl (by omega) (by omega)
    have s3 := or_fd Tryd.prog 71 false (x := a * 2097152) (v := imm) (p := 32) (q := 65536) 5 16 rfl rfl (by omega) (by omega) (by omega) (by omega) (by omega)
    have fx := And.intro s1 <| And.intro s2 <| s3
    refine wkA ?_
    exact w1i rfl
  · -- 3
    have fx := True.intro
    refine wkA ?_
    exact w1i rfl
  · -- 4
    have fx := True.intro
    refine wkA ?_
    exact w1i rfl
  · -- 5
    have fx := True.intro
    refine wkA ?_
    exact w1i rfl
  · -- 6
    have fx := True.intro
    refine wkA ?_
    exact w1i rfl
  · -- 7
    have fx := True.intro
    refine wkA ?_
    exact w1i rfl
  · -- 8
    have s1 := shl_p Tryd.prog 71 true (v := a) (p := 1024) (b := 10) 10 rfl (by decide) rfl (by omega) (by omega)
    have fx := s1
    refine wkA ?_
    exact w1i rfl
  · -- 9
    have fx := True.intro
    refine wkA ?_
    exact w1i rfl
  · -- 10
    have s1 := shl_p Tryd.prog 71 true (v := imm) (p := 1024) (b := 10) 10 rfl (by decide) rfl (by omega) (by omega)
    have fx := s1
    refine wkA ?_
    exact w1i rfl
  · -- 11
    have s1 := shl_p Tryd.prog 71 true (v := imm) (p := 1024) (b := 10) 10 rfl (by decide) rfl (by omega) (by omega)
    have fx := s1
    refine wkA ?_
    exact w1i rfl
  · -- 12
    have s0 := sub32 Tryd.prog 71 true (a := 64) (b := imm) (by omega) (by omega) (by omega)
    have s1 := rem64 Tryd.prog 71 true (a := 64 - imm) (by omega)
    have s2 := shl_p Tryd.prog 71 true (v := (64 - imm) % 64) (p := 65536) (b := 16) 16 rfl (by decide) rfl (by omega) (by omega)
    have s3 := sub32 Tryd.prog 71 true (a := 63) (b := imm) (by omega) (by omega) (by omega)
    have s4 := shl_p Tryd.prog 71 true (v := 63 - imm) (p := 1024) (b := 10) 10 rfl (by decide) rfl (by omega) (by omega)
    have s5 := or_fd Tryd.prog 71 false (x := (64 - imm) % 64 * 65536) (v := 63 - imm) (p := 1024) (q := 64) 10 6 rfl rfl (by omega) (by omega) (by omega) (by omega) (by omega)
    have fx := And.intro s0 <| And.intro s1 <| And.intro s2 <| And.intro s3 <| And.intro s4 <| s5
    refine wkA ?_
    exact w1i rfl
  · -- 13
    have s1 := shl_p Tryd.prog 71 true (v := imm) (p := 65536) (b := 16) 16 rfl (by decide) rfl (by omega) (by omega)
    have s2 : bin Tryd.prog .or 71 true (W32 (imm * 65536)) (.int .u32 64512) = some (W32 (imm * 65536 + 64512)) := or_fd Tryd.prog 71 true (x := imm * 65536) (v := 63) (p := 1024) (q := 64) 10 6 rfl rfl (by omega) (by omega) (by omega) (by omega) (by omega)
    have fx := And.intro s1 <| s2
    refine wkA ?_
    exact w1i rfl
  · -- 14
    have s1 := shl_p Tryd.prog 71 true (v := imm) (p := 65536) (b := 16) 16 rfl (by decide) rfl (by omega) (by omega)
    have fx := s1
    refine wkA ?_
    exact w1i rfl
  · -- 15
    have fx := True.intro
    refine wkA ?_
    exact w1i rfl
  · -- 16
    have s1 := shl_p Tryd.prog 71 true (v := a) (p := 4096) (b := 12) 12 rfl (by decide) rfl (by omega) (by omega)
    have fx := s1
    refine wkA ?_
    exact w1i rfl
  · -- 17
    have s0 := xor1 Tryd.prog 71 true (a := a) (by omega) (by omega)
    have s1 := shl_p Tryd.prog 71 true (v := (if a % 2 = 0 then a + 1 else a - 1)) (p := 4096) (b := 12) 12 rfl (by decide) rfl (by split <;> omega) (by split <;> omega)
    have fx := And.intro s0 <| s1
    refine wkA ?_
    exact w1i rfl
  · -- 18
    have s1 := shl_p Tryd.prog 71 true (v := imm) (p := 1024) (b := 10) 10 rfl (by decide) rfl (by omega) (by omega)
    have fx := s1
    refine wkA ?_
    exact w1i rfl
  · -- 19
    have s1 := shl_p Tryd.prog 71 true (v := imm) (p := 1024) (b := 10) 10 rfl (by decide) rfl (by omega) (by omega)
    have fx := s1
    refine wkA ?_
    exact w1i rfl
  · -- 20
    have s1 : bin Tryd.prog .and 71 true (W32 (imm % 4294967296)) (.int .u32 67108863) = some (W32 (imm % 67108864)) := by
      have := and_low Tryd.prog 71 true (x := imm % 4294967296) (q := 67108863) 26 (by decide) rfl (by omega) (by omega)
      rw [this]; congr 2; omega
    have fx := And.intro cvM <| s1
    refine wkA ?_
    exact w1i rfl
  · -- 21
    have s1 : bin Tryd.prog .and 71 true (W32 (imm % 4294967296)) (.int .u32 524287) = some (W32 (imm % 524288)) := by
      have := and_low Tryd.prog 71 true (x := imm % 4294967296) (q := 524287) 19 (by decide) rfl (by omega) (by omega)
      rw [this]; congr 2; omega
    have s2 := shl_p Tryd.prog 71 true (v := imm % 524288) (p := 32) (b := 5) 5 rfl (by decide) rfl (by omega) (by omega)
    have s3 := or_fd Tryd.prog 71 false (x := a) (v := imm % 524288) (p := 32) (q := 524288) 5 19 rfl rfl (by omega) (by omega) (by omega) (by omega) (by omega)
    have s4 : convInt .u32 (I6 a) = some (W32 a) := q_cv32 (by omega) (by omega)
    have fx := And.intro s4 <| And.intro cvM <| And.intro s1 <| And.intro s2 <| s3
    refine wkA ?_
    exact w1i rfl
  · -- 22
    have s1 : bin Tryd.prog .and 71 true (W32 (imm % 4294967296)) (.int .u32 524287) = some (W32 (imm % 524288)) := by
      have := and_low Tryd.prog 71 true (x := imm % 4294967296) (q := 524287) 19 (by decide) rfl (by omega) (by omega)
      rw [this]; congr 2; omega
    have s2 := shl_p Tryd.prog 71 true (v := imm % 524288) (p := 32) (b := 5) 5 rfl (by decide) rfl (by omega) (by omega)
    have s3 : bin Tryd.prog .or 71 false (.int .u32 0) (W32 (imm % 524288 * 32)) = some (W32 (0 + imm % 524288 * 32)) := or_fd Tryd.prog 71 false (x := 0) (v := imm % 524288) (p := 32) (q := 524288) 5 19 rfl rfl (by omega) (by omega) (by omega) (by omega) (by omega)
    have s4 : convInt .u32 (I6 a) = some (.int .u32 0) := by rw [show a = 0 by omega]; rfl
    have fx := And.intro s4 <| And.intro cvM <| And.intro s1 <| And.intro s2 <| s3
    refine wkA ?_
    exact w1i (Int.zero_add _)
  · -- 23
    have s1 : bin Tryd.prog .and 71 true (W32 (imm % 4294967296)) (.int .u32 524287) = some (W32 (imm % 524288)) := by
      have := and_low Tryd.prog 71 true (x := imm % 4294967296) (q := 524287) 19 (by decide) rfl (by omega) (by omega)
      rw [this]; congr 2; omega
    have s2 := shl_p Tryd.prog 71 true (v := imm % 524288) (p := 32) (b := 5) 5 rfl (by decide) rfl (by omega) (by omega)
    have s3 : bin Tryd.prog .or 71 false (.int .u32 0) (W32 (imm % 524288 * 32)) = some (W32 (0 + imm % 524288 * 32)) := or_fd Tryd.prog 71 false (x := 0) (v := imm % 524288) (p := 32) (q := 524288) 5 19 rfl rfl (by omega) (by omega) (by omega) (by omega) (by omega)
    have s4 : convInt .u32 (I6 a) = some (.int .u32 0) := by rw [show a = 0 by omega]; rfl
    have fx := And.intro s4 <| And.intro cvM <| And.intro s1 <| And.intro s2 <| s3
    refine wkA ?_
    exact w1i (Int.zero_add _)
  · -- 24
    have s1 := shl_p Tryd.prog 71 true (v := imm) (p := 32) (b := 5) 5 rfl (by decide) rfl (by omega) (by omega)
    have fx := s1
    refine wkA ?_
    exact w1i rfl
end Go.Proofs.YtdfglgnflldkpaaDoor.Mir
namespace Go.Proofs.YtdfglgnflldkpaaDoor.Mir
open Go
set_option linter.unusedVariables false
set_option linter.unusedSimpArgs false
set_option maxHeartbeats 8000000
set_option maxRecDepth 20000
theorem dj_zero {x : Int} (h : 0 ≤ x) : dj x 0 := ⟨h, by decide, by simp⟩
/-- The word of one that may be, or 0. -/
def wordR (i : MI) : Int := if rightB i = true then wordF i else 0
theorem word_1 (G : Globs) (k : Nat) (d n m a imm : Int) (h : rightB ⟨1, d, n, m, a, imm⟩ = true) : isa_Word.f G (k + 5) [mV 1 d n m a imm] [] = some (.tup [W32 (wordF ⟨1, d, n, m, a, imm⟩), .bool true], []) := by
  have r1 : ∀ H, pureCall (isa_of.f G (k + 4)) [.int .i64 1] H = _ := fun H => pureCall_of (H := H) (of_spec G k 1) rfl rfl
  have r2 : ∀ H, pureCall (isa_fair.f G (k + 4)) [mV 1 d n m a imm, (formF 1).v] H = _ := fun H => pureCall_of (H := H) (fair_spec G (k + 1) 1 d n m a imm (formF 1) (form_bits 1)) rfl rfl
  have r3 : ∀ H, pureCall (isa_number.f G (k + 4)) [mV 1 d n m a imm] H = _ := fun H => pureCall_of (H := H) (number_spec G (k + 3) ⟨1, d, n, m, a, imm⟩ h) rfl rfl
  unfold rightB at h
  rw [Bool.and_eq_true] at h
  obtain ⟨_, h⟩ := h
  simp only at h
  rw [h] at r2
  simp [formF, fairB, regB, extraB, immB, halfI, stackB] at h
  have c1 : convInt .u32 (I6 d) = some (W32 d) := q_cv32 (by omega) (by omega)
  have c2 : convInt .u32 (I6 n) = some (W32 n) := q_cv32 (by omega) (by omega)
  have c3 : convInt .u32 (I6 m) = some (W32 m) := q_cv32 (by omega) (by omega)
  have s1 := shl_p Tryd.prog 71 true (v := n) (p := 32) (b := 5) 5 rfl (by decide) rfl (by omega) (by omega)
  have s2 := shl_p Tryd.prog 71 true (v := m) (p := 65536) (b := 16) 16 rfl (by decide) rfl (by omega) (by omega)
  have o1 := or_f0 Tryd.prog 71 false (x := 3531603968) (v := d) (q := 32) 5 rfl (by omega) (by omega) (by omega) (by omega) (by omega)
  have o2 := or_fd Tryd.prog 71 false (x := 3531603968 + d) (v := n) (p := 32) (q := 1) 5 0 rfl rfl (by omega) (by omega) (by omega) (by omega) (by omega)
  have o3 := or_fd Tryd.prog 71 false (x := 3531603968 + d + n * 32) (v := m) (p := 65536) (q := 1) 16 0 rfl rfl (by omega) (by omega) (by omega) (by omega) (by omega)
  have e4 : wNum 1 a imm = a * 2097152 + imm * 32 := rfl
  have o4 : bin Tryd.prog .or 71 false (W32 (3531603968 + d + n * 32 + m * 65536)) (W32 (wNum 1 a imm)) = some (W32 (3531603968 + d + n * 32 + m * 65536 + wNum 1 a imm)) := by
    rw [e4]
    exact or_dj Tryd.prog 71 false (dj_add (dj_field (x := 3531603968 + d + n * 32 + m * 65536) (v := a) (p := 2097152) (q := 4) 21 2 rfl rfl (by omega) (by omega) (by omega) (by omega)) (dj_field (x := 3531603968 + d + n * 32 + m * 65536) (v := imm) (p := 32) (q := 65536) 5 16 rfl rfl (by omega) (by omega) (by omega) (by omega)) (dj_field (x := a * 2097152) (v := imm) (p := 32) (q := 65536) 5 16 rfl rfl (by omega) (by omega) (by omega) (by omega)) (by omega)) (by omega)
  have ef : formF 1 = ⟨(formF 1).nm, 3531603968, true, false, false, (formF 1).a, (formF 1).b⟩ := rfl
  have eo : isOp 1 = true := rfl
  have ew : wordF ⟨1, d, n, m, a, imm⟩ = 3531603968 + d + n * 32 + m * 65536 + wNum 1 a imm := rfl
  rw [ew]
  rw [eo, ef] at r1
  rw [ef] at r2
  rw [isa_Word.step]
  unfold isa_Word.c
  unfold Form.v at r1 r2
  clear e4 ef eo h ew
  generalize (formF 1).nm = nm at *
  generalize (formF 1).a = fa at *
  generalize (formF 1).b = fb at *
  generalize wNum 1 a imm = z at *
  refine e_in ?_
  have fx := And.intro r1 <| And.intro r2 <| And.intro r3 <| And.intro c1 <| And.intro c2 <| And.intro c3 <| And.intro s1 <| And.intro s2 <| And.intro o1 <| And.intro o2 <| And.intro o3 <| o4
  refine wkA ?_
  exact w2 rfl rfl rfl
theorem word_2 (G : Globs) (k : Nat) (d n m a imm : Int) (h : rightB ⟨2, d, n, m, a, imm⟩ = true) : isa_Word.f G (k + 5) [mV 2 d n m a imm] [] = some (.tup [W32 (wordF ⟨2, d, n, m, a, imm⟩), .bool true], []) := by
  have r1 : ∀ H, pureCall (isa_of.f G (k + 4)) [.int .i64 2] H = _ := fun H => pureCall_of (H := H) (of_spec G k 2) rfl rfl
  have r2 : ∀ H, pureCall (isa_fair.f G (k + 4)) [mV 2 d n m a imm, (formF 2).v] H = _ := fun H => pureCall_of (H := H) (fair_spec G (k + 1) 2 d n m a imm (formF 2) (form_bits 2)) rfl rfl
  have r3 : ∀ H, pureCall (isa_number.f G (k + 4)) [mV 2 d n m a imm] H = _ := fun H => pureCall_of (H := H) (number_spec G (k + 3) ⟨2, d, n, m, a, imm⟩ h) rfl rfl
  unfold rightB at h
  rw [Bool.and_eq_true] at h
  obtain ⟨_, h⟩ := h
  simp only at h
  rw [h] at r2
  simp [formF, fairB, regB, extraB, immB, halfI, stackB] at h
  have c1 : convInt .u32 (I6 d) = some (W32 d) := q_cv32 (by omega) (by omega)
  have c2 : convInt .u32 (I6 n) = some (W32 n) := q_cv32 (by omega) (by omega)
  have c3 : convInt .u32 (I6 m) = some (W32 m) := q_cv32 (by omega) (by omega)
  have s1 := shl_p Tryd.prog 71 true (v := n) (p := 32) (b := 5) 5 rfl (by decide) rfl (by omega) (by omega)
  have s2 := shl_p Tryd.prog 71 true (v := m) (p := 65536) (b := 16) 16 rfl (by decide) rfl (by omega) (by omega)
  have o1 := or_f0 Tryd.prog 71 false (x := 4068474880) (v := d) (q := 32) 5 rfl (by omega) (by omega) (by omega) (by omega) (by omega)
  have o2 := or_fd Tryd.prog 71 false (x := 4068474880 + d) (v := n) (p := 32) (q := 1) 5 0 rfl rfl (by omega) (by omega) (by omega) (by omega) (by omega)
  have o3 := or_fd Tryd.prog 71 false (x := 4068474880 + d + n * 32) (v := m) (p := 65536) (q := 1) 16 0 rfl rfl (by omega) (by omega) (by omega) (by omega) (by omega)
  have e4 : wNum 2 a imm = a * 2097152 + imm * 32 := rfl
  have o4 : bin Tryd.prog .or 71 false (W32 (4068474880 + d + n * 32 + m * 65536)) (W32 (wNum 2 a imm)) = some (W32 (4068474880 + d + n * 32 + m * 65536 + wNum 2 a imm)) := by
    rw [e4]
    exact or_dj Tryd.prog 71 false (dj_add (dj_field (x := 4068474880 + d + n * 32 + m * 65536) (v := a) (p := 2097152) (q := 4) 21 2 rfl rfl (by omega) (by omega) (by omega) (by omega)) (dj_field (x := 4068474880 + d + n * 32 + m * 65536) (v := imm) (p := 32) (q := 65536) 5 16 rfl rfl (by omega) (by omega) (by omega) (by omega)) (dj_field (x := a * 2097152) (v := imm) (p := 32) (q := 65536) 5 16 rfl rfl (by omega) (by omega) (by omega) (by omega)) (by omega)) (by omega)
  have ef : formF 2 = ⟨(formF 2).nm, 4068474880, true, false, false, (formF 2).a, (formF 2).b⟩ := rfl
  have eo : isOp 2 = true := rfl
  have ew : wordF ⟨2, d, n, m, a, imm⟩ = 4068474880 + d + n * 32 + m * 65536 + wNum 2 a imm := rfl
  rw [ew]
  rw [eo, ef] at r1
  rw [ef] at r2
  rw [isa_Word.step]
  unfold isa_Word.c
  unfold Form.v at r1 r2
  clear e4 ef eo h ew
  generalize (formF 2).nm = nm at *
  generalize (formF 2).a = fa at *
  generalize (formF 2).b = fb at *
  generalize wNum 2 a imm = z at *
  refine e_in ?_
  have fx := And.intro r1 <| And.intro r2 <| And.intro r3 <| And.intro c1 <| And.intro c2 <| And.intro c3 <| And.intro s1 <| And.intro s2 <| And.intro o1 <| And.intro o2 <| And.intro o3 <| o4
  refine wkA ?_
  exact w2 rfl rfl rfl
theorem word_3 (G : Globs) (k : Nat) (d n m a imm : Int) (h : rightB ⟨3, d, n, m, a, imm⟩ = true) : isa_Word.f G (k + 5) [mV 3 d n m a imm] [] = some (.tup [W32 (wordF ⟨3, d, n, m, a, imm⟩), .bool true], []) := by
  have r1 : ∀ H, pureCall (isa_of.f G (k + 4)) [.int .i64 3] H = _ := fun H => pureCall_of (H := H) (of_spec G k 3) rfl rfl
  have r2 : ∀ H, pureCall (isa_fair.f G (k + 4)) [mV 3 d n m a imm, (formF 3).v] H = _ := fun H => pureCall_of (H := H) (fair_spec G (k + 1) 3 d n m a imm (formF 3) (form_bits 3)) rfl rfl
  have r3 : ∀ H, pureCall (isa_number.f G (k + 4)) [mV 3 d n m a imm] H = _ := fun H => pureCall_of (H := H) (number_spec G (k + 3) ⟨3, d, n, m, a, imm⟩ h) rfl rfl
  unfold rightB at h
  rw [Bool.and_eq_true] at h
  obtain ⟨_, h⟩ := h
  simp only at h
  rw [h] at r2
  simp [formF, fairB, regB, extraB, immB, halfI, stackB] at h
  have c1 : convInt .u32 (I6 d) = some (W32 d) := q_cv32 (by omega) (by omega)
  have c2 : convInt .u32 (I6 n) = some (W32 n) := q_cv32 (by omega) (by omega)
  have c3 : convInt .u32 (I6 m) = some (W32 m) := q_cv32 (by omega) (by omega)
  have s1 := shl_p Tryd.prog 71 true (v := n) (p := 32) (b := 5) 5 rfl (by decide) rfl (by omega) (by omega)
  have s2 := shl_p Tryd.prog 71 true (v := m) (p := 65536) (b := 16) 16 rfl (by decide) rfl (by omega) (by omega)
  have o1 := or_f0 Tryd.prog 71 false (x := 2332033024) (v := d) (q := 32) 5 rfl (by omega) (by omega) (by omega) (by omega) (by omega)
  have o2 := or_fd Tryd.prog 71 false (x := 2332033024 + d) (v := n) (p := 32) (q := 32) 5 5 rfl rfl (by omega) (by omega) (by omega) (by omega) (by omega)
  have o3 := or_fd Tryd.prog 71 false (x := 2332033024 + d + n * 32) (v := m) (p := 65536) (q := 32) 16 5 rfl rfl (by omega) (by omega) (by omega) (by omega) (by omega)
  have e4 : wNum 3 a imm = 0 := rfl
  have o4 : bin Tryd.prog .or 71 false (W32 (2332033024 + d + n * 32 + m * 65536)) (W32 (wNum 3 a imm)) = some (W32 (2332033024 + d + n * 32 + m * 65536 + wNum 3 a imm)) := by
    rw [e4]
    exact or_dj Tryd.prog 71 false (dj_zero (x := 2332033024 + d + n * 32 + m * 65536) (by omega)) (by omega)
  have ef : formF 3 = ⟨(formF 3).nm, 2332033024, true, true, true, (formF 3).a, (formF 3).b⟩ := rfl
  have eo : isOp 3 = true := rfl
  have ew : wordF ⟨3, d, n, m, a, imm⟩ = 2332033024 + d + n * 32 + m * 65536 + wNum 3 a imm := rfl
  rw [ew]
  rw [eo, ef] at r1
  rw [ef] at r2
  rw [isa_Word.step]
  unfold isa_Word.c
  unfold Form.v at r1 r2
  clear e4 ef eo h ew
  generalize (formF 3).nm = nm at *
  generalize (formF 3).a = fa at *
  generalize (formF 3).b = fb at *
  generalize wNum 3 a imm = z at *
  refine e_in ?_
  have fx := And.intro r1 <| And.intro r2 <| And.intro r3 <| And.intro c1 <| And.intro c2 <| And.intro c3 <| And.intro s1 <| And.intro s2 <| And.intro o1 <| And.intro o2 <| And.intro o3 <| o4
  refine wkA ?_
  exact w2 rfl rfl rfl
theorem word_4 (G : Globs) (k : Nat) (d n m a imm : Int) (h : rightB ⟨4, d, n, m, a, imm⟩ = true) : isa_Word.f G (k + 5) [mV 4 d n m a imm] [] = some (.tup [W32 (wordF ⟨4, d, n, m, a, imm⟩), .bool true], []) := by
  have r1 : ∀ H, pureCall (isa_of.f G (k + 4)) [.int .i64 4] H = _ := fun H => pureCall_of (H := H) (of_spec G k 4) rfl rfl
  have r2 : ∀ H, pureCall (isa_fair.f G (k + 4)) [mV 4 d n m a imm, (formF 4).v] H = _ := fun H => pureCall_of (H := H) (fair_spec G (k + 1) 4 d n m a imm (formF 4) (form_bits 4)) rfl rfl
  have r3 : ∀ H, pureCall (isa_number.f G (k + 4)) [mV 4 d n m a imm] H = _ := fun H => pureCall_of (H := H) (number_spec G (k + 3) ⟨4, d, n, m, a, imm⟩ h) rfl rfl
  unfold rightB at h
  rw [Bool.and_eq_true] at h
  obtain ⟨_, h⟩ := h
  simp only at h
  rw [h] at r2
  simp [formF, fairB, regB, extraB, immB, halfI, stackB] at h
  have c1 : convInt .u32 (I6 d) = some (W32 d) := q_cv32 (by omega) (by omega)
  have c2 : convInt .u32 (I6 n) = some (W32 n) := q_cv32 (by omega) (by omega)
  have c3 : convInt .u32 (I6 m) = some (W32 m) := q_cv32 (by omega) (by omega)
  have s1 := shl_p Tryd.prog 71 true (v := n) (p := 32) (b := 5) 5 rfl (by decide) rfl (by omega) (by omega)
  have s2 := shl_p Tryd.prog 71 true (v := m) (p := 65536) (b := 16) 16 rfl (by decide) rfl (by omega) (by omega)
  have o1 := or_f0 Tryd.prog 71 false (x := 3405774848) (v := d) (q := 32) 5 rfl (by omega) (by omega) (by omega) (by omega) (by omega)
  have o2 := or_fd Tryd.prog 71 false (x := 3405774848 + d) (v := n) (p := 32) (q := 32) 5 5 rfl rfl (by omega) (by omega) (by omega) (by omega) (by omega)
  have o3 := or_fd Tryd.prog 71 false (x := 3405774848 + d + n * 32) (v := m) (p := 65536) (q := 32) 16 5 rfl rfl (by omega) (by omega) (by omega) (by omega) (by omega)
  have e4 : wNum 4 a imm = 0 := rfl
  have o4 : bin Tryd.prog .or 71 false (W32 (3405774848 + d + n * 32 + m * 65536)) (W32 (wNum 4 a imm)) = some (W32 (3405774848 + d + n * 32 + m * 65536 + wNum 4 a imm)) := by
    rw [e4]
    exact or_dj Tryd.prog 71 false (dj_zero (x := 3405774848 + d + n * 32 + m * 65536) (by omega)) (by omega)
  have ef : formF 4 = ⟨(formF 4).nm, 3405774848, true, true, true, (formF 4).a, (formF 4).b⟩ := rfl
  have eo : isOp 4 = true := rfl
  have ew : wordF ⟨4, d, n, m, a, imm⟩ = 3405774848 + d + n * 32 + m * 65536 + wNum 4 a imm := rfl
  rw [ew]
  rw [eo, ef] at r1
  rw [ef] at r2
  rw [isa_Word.step]
  unfold isa_Word.c
  unfold Form.v at r1 r2
  clear e4 ef eo h ew
  generalize (formF 4).nm = nm at *
  generalize (formF 4).a = fa at *
  generalize (formF 4).b = fb at *
  generalize wNum 4 a imm = z at *
  refine e_in ?_
  have fx := And.intro r1 <| And.intro r2 <| And.intro r3 <| And.intro c1 <| And.intro c2 <| And.intro c3 <| And.intro s1 <| And.intro s2 <| And.intro o1 <| And.intro o2 <| And.intro o3 <| o4
  refine wkA ?_
  exact w2 rfl rfl rfl
theorem word_5 (G : Globs) (k : Nat) (d n m a imm : Int) (h : rightB ⟨5, d, n, m, a, imm⟩ = true) : isa_Word.f G (k + 5) [mV 5 d n m a imm] [] = some (.tup [W32 (wordF ⟨5, d, n, m, a, imm⟩), .bool true], []) := by
  have r1 : ∀ H, pureCall (isa_of.f G (k + 4)) [.int .i64 5] H = _ := fun H => pureCall_of (H := H) (of_spec G k 5) rfl rfl
  have r2 : ∀ H, pureCall (isa_fair.f G (k + 4)) [mV 5 d n m a imm, (formF 5).v] H = _ := fun H => pureCall_of (H := H) (fair_spec G (k + 1) 5 d n m a imm (formF 5) (form_bits 5)) rfl rfl
  have r3 : ∀ H, pureCall (isa_number.f G (k + 4)) [mV 5 d n m a imm] H = _ := fun H => pureCall_of (H := H) (number_spec G (k + 3) ⟨5, d, n, m, a, imm⟩ h) rfl rfl
  unfold rightB at h
  rw [Bool.and_eq_true] at h
  obtain ⟨_, h⟩ := h
  simp only at h
  rw [h] at r2
  simp [formF, fairB, regB, extraB, immB, halfI, stackB] at h
  have c1 : convInt .u32 (I6 d) = some (W32 d) := q_cv32 (by omega) (by omega)
  have c2 : convInt .u32 (I6 n) = some (W32 n) := q_cv32 (by omega) (by omega)
  have c3 : convInt .u32 (I6 m) = some (W32 m) := q_cv32 (by omega) (by omega)
  have s1 := shl_p Tryd.prog 71 true (v := n) (p := 32) (b := 5) 5 rfl (by decide) rfl (by omega) (by omega)
  have s2 := shl_p Tryd.prog 71 true (v := m) (p := 65536) (b := 16) 16 rfl (by decide) rfl (by omega) (by omega)
  have o1 := or_f0 Tryd.prog 71 false (x := 2315255808) (v := d) (q := 32) 5 rfl (by omega) (by omega) (by omega) (by omega) (by omega)
  have o2 := or_fd Tryd.prog 71 false (x := 2315255808 + d) (v := n) (p := 32) (q := 32) 5 5 rfl rfl (by omega) (by omega) (by omega) (by omega) (by omega)
  have o3 := or_fd Tryd.prog 71 false (x := 2315255808 + d + n * 32) (v := m) (p := 65536) (q := 32) 16 5 rfl rfl (by omega) (by omega) (by omega) (by omega) (by omega)
  have e4 : wNum 5 a imm = 0 := rfl
  have o4 : bin Tryd.prog .or 71 false (W32 (2315255808 + d + n * 32 + m * 65536)) (W32 (wNum 5 a imm)) = some (W32 (2315255808 + d + n * 32 + m * 65536 + wNum 5 a imm)) := by
    rw [e4]
    exact or_dj Tryd.prog 71 false (dj_zero (x := 2315255808 + d + n * 32 + m * 65536) (by omega)) (by omega)
  have ef : formF 5 = ⟨(formF 5).nm, 2315255808, true, true, true, (formF 5).a, (formF 5).b⟩ := rfl
  have eo : isOp 5 = true := rfl
  have ew : wordF ⟨5, d, n, m, a, imm⟩ = 2315255808 + d + n * 32 + m * 65536 + wNum 5 a imm := rfl
  rw [ew]
  rw [eo, ef] at r1
  rw [ef] at r2
  rw [isa_Word.step]
  unfold isa_Word.c
  unfold Form.v at r1 r2
  clear e4 ef eo h ew
  generalize (formF 5).nm = nm at *
  generalize (formF 5).a = fa at *
  generalize (formF 5).b = fb at *
  generalize wNum 5 a imm = z at *
  refine e_in ?_
  have fx := And.intro r1 <| And.intro r2 <| And.intro r3 <| And.intro c1 <| And.intro c2 <| And.intro c3 <| And.intro s1 <| And.intro s2 <| And.intro o1 <| And.intro o2 <| And.intro o3 <| o4
  refine wkA ?_
  exact w2 rfl rfl rfl
theorem word_6 (G : Globs) (k : Nat) (d n m a imm : Int) (h : rightB ⟨6, d, n, m, a, imm⟩ = true) : isa_Word.f G (k + 5) [mV 6 d n m a imm] [] = some (.tup [W32 (wordF ⟨6, d, n, m, a, imm⟩), .bool true], []) := by
  have r1 : ∀ H, pureCall (isa_of.f G (k + 4)) [.int .i64 6] H = _ := fun H => pureCall_of (H := H) (of_spec G k 6) rfl rfl
  have r2 : ∀ H, pureCall (isa_fair.f G (k + 4)) [mV 6 d n m a imm, (formF 6).v] H = _ := fun H => pureCall_of (H := H) (fair_spec G (k + 1) 6 d n m a imm (formF 6) (form_bits 6)) rfl rfl
  have r3 : ∀ H, pureCall (isa_number.f G (k + 4)) [mV 6 d n m a imm] H = _ := fun H => pureCall_of (H := H) (number_spec G (k + 3) ⟨6, d, n, m, a, imm⟩ h) rfl rfl
  unfold rightB at h
  rw [Bool.and_eq_true] at h
  obtain ⟨_, h⟩ := h
  simp only at h
  rw [h] at r2
  simp [formF, fairB, regB, extraB, immB, halfI, stackB] at h
  have c1 : convInt .u32 (I6 d) = some (W32 d) := q_cv32 (by omega) (by omega)
  have c2 : convInt .u32 (I6 n) = some (W32 n) := q_cv32 (by omega) (by omega)
  have c3 : convInt .u32 (I6 m) = some (W32 m) := q_cv32 (by omega) (by omega)
  have s1 := shl_p Tryd.prog 71 true (v := n) (p := 32) (b := 5) 5 rfl (by decide) rfl (by omega) (by omega)
  have s2 := shl_p Tryd.prog 71 true (v := m) (p := 65536) (b := 16) 16 rfl (by decide) rfl (by omega) (by omega)
  have o1 := or_f0 Tryd.prog 71 false (x := 2852126720) (v := d) (q := 32) 5 rfl (by omega) (by omega) (by omega) (by omega) (by omega)
  have o2 := or_fd Tryd.prog 71 false (x := 2852126720 + d) (v := n) (p := 32) (q := 32) 5 5 rfl rfl (by omega) (by omega) (by omega) (by omega) (by omega)
  have o3 := or_fd Tryd.prog 71 false (x := 2852126720 + d + n * 32) (v := m) (p := 65536) (q := 32) 16 5 rfl rfl (by omega) (by omega) (by omega) (by omega) (by omega)
  have e4 : wNum 6 a imm = 0 := rfl
  have o4 : bin Tryd.prog .or 71 false (W32 (2852126720 + d + n * 32 + m * 65536)) (W32 (wNum 6 a imm)) = some (W32 (2852126720 + d + n * 32 + m * 65536 + wNum 6 a imm)) := by
    rw [e4]
    exact or_dj Tryd.prog 71 false (dj_zero (x := 2852126720 + d + n * 32 + m * 65536) (by omega)) (by omega)
  have ef : formF 6 = ⟨(formF 6).nm, 2852126720, true, true, true, (formF 6).a, (formF 6).b⟩ := rfl
  have eo : isOp 6 = true := rfl
  have ew : wordF ⟨6, d, n, m, a, imm⟩ = 2852126720 + d + n * 32 + m * 65536 + wNum 6 a imm := rfl
  rw [ew]
  rw [eo, ef] at r1
  rw [ef] at r2
  rw [isa_Word.step]
  unfold isa_Word.c
  unfold Form.v at r1 r2
  clear e4 ef eo h ew
  generalize (formF 6).nm = nm at *
  generalize (formF 6).a = fa at *
  generalize (formF 6).b = fb at *
  generalize wNum 6 a imm = z at *
  refine e_in ?_
  have fx := And.intro r1 <| And.intro r2 <| And.intro r3 <| And.intro c1 <| And.intro c2 <| And.intro c3 <| And.intro s1 <| And.intro s2 <| And.intro o1 <| And.intro o2 <| And.intro o3 <| o4
  refine wkA ?_
  exact w2 rfl rfl rfl
theorem word_7 (G : Globs) (k : Nat) (d n m a imm : Int) (h : rightB ⟨7, d, n, m, a, imm⟩ = true) : isa_Word.f G (k + 5) [mV 7 d n m a imm] [] = some (.tup [W32 (wordF ⟨7, d, n, m, a, imm⟩), .bool true], []) := by
  have r1 : ∀ H, pureCall (isa_of.f G (k + 4)) [.int .i64 7] H = _ := fun H => pureCall_of (H := H) (of_spec G k 7) rfl rfl
  have r2 : ∀ H, pureCall (isa_fair.f G (k + 4)) [mV 7 d n m a imm, (formF 7).v] H = _ := fun H => pureCall_of (H := H) (fair_spec G (k + 1) 7 d n m a imm (formF 7) (form_bits 7)) rfl rfl
  have r3 : ∀ H, pureCall (isa_number.f G (k + 4)) [mV 7 d n m a imm] H = _ := fun H => pureCall_of (H := H) (number_spec G (k + 3) ⟨7, d, n, m, a, imm⟩ h) rfl rfl
  unfold rightB at h
  rw [Bool.and_eq_true] at h
  obtain ⟨_, h⟩ := h
  simp only at h
  rw [h] at r2
  simp [formF, fairB, regB, extraB, immB, halfI, stackB] at h
  have c1 : convInt .u32 (I6 d) = some (W32 d) := q_cv32 (by omega) (by omega)
  have c2 : convInt .u32 (I6 n) = some (W32 n) := q_cv32 (by omega) (by omega)
  have c3 : convInt .u32 (I6 m) = some (W32 m) := q_cv32 (by omega) (by omega)
  have s1 := shl_p Tryd.prog 71 true (v := n) (p := 32) (b := 5) 5 rfl (by decide) rfl (by omega) (by omega)
  have s2 := shl_p Tryd.prog 71 true (v := m) (p := 65536) (b := 16) 16 rfl (by decide) rfl (by omega) (by omega)
  have o1 := or_f0 Tryd.prog 71 false (x := 3388997632) (v := d) (q := 32) 5 rfl (by omega) (by omega) (by omega) (by omega) (by omega)
  have o2 := or_fd Tryd.prog 71 false (x := 3388997632 + d) (v := n) (p := 32) (q := 32) 5 5 rfl rfl (by omega) (by omega) (by omega) (by omega) (by omega)
  have o3 := or_fd Tryd.prog 71 false (x := 3388997632 + d + n * 32) (v := m) (p := 65536) (q := 32) 16 5 rfl rfl (by omega) (by omega) (by omega) (by omega) (by omega)
  have e4 : wNum 7 a imm = 0 := rfl
  have o4 : bin Tryd.prog .or 71 false (W32 (3388997632 + d + n * 32 + m * 65536)) (W32 (wNum 7 a imm)) = some (W32 (3388997632 + d + n * 32 + m * 65536 + wNum 7 a imm)) := by
    rw [e4]
    exact or_dj Tryd.prog 71 false (dj_zero (x := 3388997632 + d + n * 32 + m * 65536) (by omega)) (by omega)
  have ef : formF 7 = ⟨(formF 7).nm, 3388997632, true, true, true, (formF 7).a, (formF 7).b⟩ := rfl
  have eo : isOp 7 = true := rfl
  have ew : wordF ⟨7, d, n, m, a, imm⟩ = 3388997632 + d + n * 32 + m * 65536 + wNum 7 a imm := rfl
  rw [ew]
  rw [eo, ef] at r1
  rw [ef] at r2
  rw [isa_Word.step]
  unfold isa_Word.c
  unfold Form.v at r1 r2
  clear e4 ef eo h ew
  generalize (formF 7).nm = nm at *
  generalize (formF 7).a = fa at *
  generalize (formF 7).b = fb at *
  generalize wNum 7 a imm = z at *
  refine e_in ?_
  have fx := And.intro r1 <| And.intro r2 <| And.intro r3 <| And.intro c1 <| And.intro c2 <| And.intro c3 <| And.intro s1 <| And.intro s2 <| And.intro o1 <| And.intro o2 <| And.intro o3 <| o4
  refine wkA ?_
  exact w2 rfl rfl rfl
theorem word_8 (G : Globs) (k : Nat) (d n m a imm : Int) (h : rightB ⟨8, d, n, m, a, imm⟩ = true) : isa_Word.f G (k + 5) [mV 8 d n m a imm] [] = some (.tup [W32 (wordF ⟨8, d, n, m, a, imm⟩), .bool true], []) := by
  have r1 : ∀ H, pureCall (isa_of.f G (k + 4)) [.int .i64 8] H = _ := fun H => pureCall_of (H := H) (of_spec G k 8) rfl rfl
  have r2 : ∀ H, pureCall (isa_fair.f G (k + 4)) [mV 8 d n m a imm, (formF 8).v] H = _ := fun H => pureCall_of (H := H) (fair_spec G (k + 1) 8 d n m a imm (formF 8) (form_bits 8)) rfl rfl
  have r3 : ∀ H, pureCall (isa_number.f G (k + 4)) [mV 8 d n m a imm] H = _ := fun H => pureCall_of (H := H) (number_spec G (k + 3) ⟨8, d, n, m, a, imm⟩ h) rfl rfl
  unfold rightB at h
  rw [Bool.and_eq_true] at h
  obtain ⟨_, h⟩ := h
  simp only at h
  rw [h] at r2
  simp [formF, fairB, regB, extraB, immB, halfI, stackB] at h
  have c1 : convInt .u32 (I6 d) = some (W32 d) := q_cv32 (by omega) (by omega)
  have c2 : convInt .u32 (I6 n) = some (W32 n) := q_cv32 (by omega) (by omega)
  have c3 : convInt .u32 (I6 m) = some (W32 m) := q_cv32 (by omega) (by omega)
  have s1 := shl_p Tryd.prog 71 true (v := n) (p := 32) (b := 5) 5 rfl (by decide) rfl (by omega) (by omega)
  have s2 := shl_p Tryd.prog 71 true (v := m) (p := 65536) (b := 16) 16 rfl (by decide) rfl (by omega) (by omega)
  have o1 := or_f0 Tryd.prog 71 false (x := 2600468480) (v := d) (q := 32) 5 rfl (by omega) (by omega) (by omega) (by omega) (by omega)
  have o2 := or_fd Tryd.prog 71 false (x := 2600468480 + d) (v := n) (p := 32) (q := 32) 5 5 rfl rfl (by omega) (by omega) (by omega) (by omega) (by omega)
  have o3 := or_fd Tryd.prog 71 false (x := 2600468480 + d + n * 32) (v := m) (p := 65536) (q := 32) 16 5 rfl rfl (by omega) (by omega) (by omega) (by omega) (by omega)
  have e4 : wNum 8 a imm = a * 1024 := rfl
  have o4 : bin Tryd.prog .or 71 false (W32 (2600468480 + d + n * 32 + m * 65536)) (W32 (wNum 8 a imm)) = some (W32 (2600468480 + d + n * 32 + m * 65536 + wNum 8 a imm)) := by
    rw [e4]
    exact or_dj Tryd.prog 71 false ((dj_field (x := 2600468480 + d + n * 32 + m * 65536) (v := a) (p := 1024) (q := 32) 10 5 rfl rfl (by omega) (by omega) (by omega) (by omega))) (by omega)
  have ef : formF 8 = ⟨(formF 8).nm, 2600468480, true, true, true, (formF 8).a, (formF 8).b⟩ := rfl
  have eo : isOp 8 = true := rfl
  have ew : wordF ⟨8, d, n, m, a, imm⟩ = 2600468480 + d + n * 32 + m * 65536 + wNum 8 a imm := rfl
  rw [ew]
  rw [eo, ef] at r1
  rw [ef] at r2
  rw [isa_Word.step]
  unfold isa_Word.c
  unfold Form.v at r1 r2
  clear e4 ef eo h ew
  generalize (formF 8).nm = nm at *
  generalize (formF 8).a = fa at *
  generalize (formF 8).b = fb at *
  generalize wNum 8 a imm = z at *
  refine e_in ?_
  have fx := And.intro r1 <| And.intro r2 <| And.intro r3 <| And.intro c1 <| And.intro c2 <| And.intro c3 <| And.intro s1 <| And.intro s2 <| And.intro o1 <| And.intro o2 <| And.intro o3 <| o4
  refine wkA ?_
  exact w2 rfl rfl rfl
theorem word_9 (G : Globs) (k : Nat) (d n m a imm : Int) (h : rightB ⟨9, d, n, m, a, imm⟩ = true) : isa_Word.f G (k + 5) [mV 9 d n m a imm] [] = some (.tup [W32 (wordF ⟨9, d, n, m, a, imm⟩), .bool true], []) := by
  have r1 : ∀ H, pureCall (isa_of.f G (k + 4)) [.int .i64 9] H = _ := fun H => pureCall_of (H := H) (of_spec G k 9) rfl rfl
  have r2 : ∀ H, pureCall (isa_fair.f G (k + 4)) [mV 9 d n m a imm, (formF 9).v] H = _ := fun H => pureCall_of (H := H) (fair_spec G (k + 1) 9 d n m a imm (formF 9) (form_bits 9)) rfl rfl
  have r3 : ∀ H, pureCall (isa_number.f G (k + 4)) [mV 9 d n m a imm] H = _ := fun H => pureCall_of (H := H) (number_spec G (k + 3) ⟨9, d, n, m, a, imm⟩ h) rfl rfl
  unfold rightB at h
  rw [Bool.and_eq_true] at h
  obtain ⟨_, h⟩ := h
  simp only at h
  rw [h] at r2
  simp [formF, fairB, regB, extraB, immB, halfI, stackB] at h
  have c1 : convInt .u32 (I6 d) = some (W32 d) := q_cv32 (by omega) (by omega)
  have c2 : convInt .u32 (I6 n) = some (W32 n) := q_cv32 (by omega) (by omega)
  have c3 : convInt .u32 (I6 m) = some (W32 m) := q_cv32 (by omega) (by omega)
  have s1 := shl_p Tryd.prog 71 true (v := n) (p := 32) (b := 5) 5 rfl (by decide) rfl (by omega) (by omega)
  have s2 := shl_p Tryd.prog 71 true (v := m) (p := 65536) (b := 16) 16 rfl (by decide) rfl (by omega) (by omega)
  have o1 := or_f0 Tryd.prog 71 false (x := 2613083136) (v := d) (q := 32) 5 rfl (by omega) (by omega) (by omega) (by omega) (by omega)
  have o2 := or_fd Tryd.prog 71 false (x := 2613083136 + d) (v := n) (p := 32) (q := 32) 5 5 rfl rfl (by omega) (by omega) (by omega) (by omega) (by omega)
  have o3 := or_fd Tryd.prog 71 false (x := 2613083136 + d + n * 32) (v := m) (p := 65536) (q := 32) 16 5 rfl rfl (by omega) (by omega) (by omega) (by omega) (by omega)
  have e4 : wNum 9 a imm = 0 := rfl
  have o4 : bin Tryd.prog .or 71 false (W32 (2613083136 + d + n * 32 + m * 65536)) (W32 (wNum 9 a imm)) = some (W32 (2613083136 + d + n * 32 + m * 65536 + wNum 9 a imm)) := by
    rw [e4]
    exact or_dj Tryd.prog 71 false (dj_zero (x := 2613083136 + d + n * 32 + m * 65536) (by omega)) (by omega)
  have ef : formF 9 = ⟨(formF 9).nm, 2613083136, true, true, true, (formF 9).a, (formF 9).b⟩ := rfl
  have eo : isOp 9 = true := rfl
  have ew : wordF ⟨9, d, n, m, a, imm⟩ = 2613083136 + d + n * 32 + m * 65536 + wNum 9 a imm := rfl
  rw [ew]
  rw [eo, ef] at r1
  rw [ef] at r2
  rw [isa_Word.step]
  unfold isa_Word.c
  unfold Form.v at r1 r2
  clear e4 ef eo h ew
  generalize (formF 9).nm = nm at *
  generalize (formF 9).a = fa at *
  generalize (formF 9).b = fb at *
  generalize wNum 9 a imm = z at *
  refine e_in ?_
  have fx := And.intro r1 <| And.intro r2 <| And.intro r3 <| And.intro c1 <| And.intro c2 <| And.intro c3 <| And.intro s1 <| And.intro s2 <| And.intro o1 <| And.intro o2 <| And.intro o3 <| o4
  refine wkA ?_
  exact w2 rfl rfl rfl
theorem word_10 (G : Globs) (k : Nat) (d n m a imm : Int) (h : rightB ⟨10, d, n, m, a, imm⟩ = true) : isa_Word.f G (k + 5) [mV 10 d n m a imm] [] = some (.tup [W32 (wordF ⟨10, d, n, m, a, imm⟩), .bool true], []) := by
  have r1 : ∀ H, pureCall (isa_of.f G (k + 4)) [.int .i64 10] H = _ := fun H => pureCall_of (H := H) (of_spec G k 10) rfl rfl
  have r2 : ∀ H, pureCall (isa_fair.f G (k + 4)) [mV 10 d n m a imm, (formF 10).v] H = _ := fun H => pureCall_of (H := H) (fair_spec G (k + 1) 10 d n m a imm (formF 10) (form_bits 10)) rfl rfl
  have r3 : ∀ H, pureCall (isa_number.f G (k + 4)) [mV 10 d n m a imm] H = _ := fun H => pureCall_of (H := H) (number_spec G (k + 3) ⟨10, d, n, m, a, imm⟩ h) rfl rfl
  unfold rightB at h
  rw [Bool.and_eq_true] at h
  obtain ⟨_, h⟩ := h
  simp only at h
  rw [h] at r2
  simp [formF, fairB, regB, extraB, immB, halfI, stackB] at h
  have c1 : convInt .u32 (I6 d) = some (W32 d) := q_cv32 (by omega) (by omega)
  have c2 : convInt .u32 (I6 n) = some (W32 n) := q_cv32 (by omega) (by omega)
  have c3 : convInt .u32 (I6 m) = some (W32 m) := q_cv32 (by omega) (by omega)
  have s1 := shl_p Tryd.prog 71 true (v := n) (p := 32) (b := 5) 5 rfl (by decide) rfl (by omega) (by omega)
  have s2 := shl_p Tryd.prog 71 true (v := m) (p := 65536) (b := 16) 16 rfl (by decide) rfl (by omega) (by omega)
  have o1 := or_f0 Tryd.prog 71 false (x := 2432696320) (v := d) (q := 32) 5 rfl (by omega) (by omega) (by omega) (by omega) (by omega)
  have o2 := or_fd Tryd.prog 71 false (x := 2432696320 + d) (v := n) (p := 32) (q := 32) 5 5 rfl rfl (by omega) (by omega) (by omega) (by omega) (by omega)
  have o3 := or_fd Tryd.prog 71 false (x := 2432696320 + d + n * 32) (v := m) (p := 65536) (q := 1) 16 0 rfl rfl (by omega) (by omega) (by omega) (by omega) (by omega)
  have e4 : wNum 10 a imm = imm * 1024 := rfl
  have o4 : bin Tryd.prog .or 71 false (W32 (2432696320 + d + n * 32 + m * 65536)) (W32 (wNum 10 a imm)) = some (W32 (2432696320 + d + n * 32 + m * 65536 + wNum 10 a imm)) := by
    rw [e4]
    exact or_dj Tryd.prog 71 false ((dj_field (x := 2432696320 + d + n * 32 + m * 65536) (v := imm) (p := 1024) (q := 4096) 10 12 rfl rfl (by omega) (by omega) (by omega) (by omega))) (by omega)
  have ef : formF 10 = ⟨(formF 10).nm, 2432696320, true, true, false, (formF 10).a, (formF 10).b⟩ := rfl
  have eo : isOp 10 = true := rfl
  have ew : wordF ⟨10, d, n, m, a, imm⟩ = 2432696320 + d + n * 32 + m * 65536 + wNum 10 a imm := rfl
  rw [ew]
  rw [eo, ef] at r1
  rw [ef] at r2
  rw [isa_Word.step]
  unfold isa_Word.c
  unfold Form.v at r1 r2
  clear e4 ef eo h ew
  generalize (formF 10).nm = nm at *
  generalize (formF 10).a = fa at *
  generalize (formF 10).b = fb at *
  generalize wNum 10 a imm = z at *
  refine e_in ?_
  have fx := And.intro r1 <| And.intro r2 <| And.intro r3 <| And.intro c1 <| And.intro c2 <| And.intro c3 <| And.intro s1 <| And.intro s2 <| And.intro o1 <| And.intro o2 <| And.intro o3 <| o4
  refine wkA ?_
  exact w2 rfl rfl rfl
theorem word_11 (G : Globs) (k : Nat) (d n m a imm : Int) (h : rightB ⟨11, d, n, m, a, imm⟩ = true) : isa_Word.f G (k + 5) [mV 11 d n m a imm] [] = some (.tup [W32 (wordF ⟨11, d, n, m, a, imm⟩), .bool true], []) := by
  have r1 : ∀ H, pureCall (isa_of.f G (k + 4)) [.int .i64 11] H = _ := fun H => pureCall_of (H := H) (of_spec G k 11) rfl rfl
  have r2 : ∀ H, pureCall (isa_fair.f G (k + 4)) [mV 11 d n m a imm, (formF 11).v] H = _ := fun H => pureCall_of (H := H) (fair_spec G (k + 1) 11 d n m a imm (formF 11) (form_bits 11)) rfl rfl
  have r3 : ∀ H, pureCall (isa_number.f G (k + 4)) [mV 11 d n m a imm] H = _ := fun H => pureCall_of (H := H) (number_spec G (k + 3) ⟨11, d, n, m, a, imm⟩ h) rfl rfl
  unfold rightB at h
  rw [Bool.and_eq_true] at h
  obtain ⟨_, h⟩ := h
  simp only at h
  rw [h] at r2
  simp [formF, fairB, regB, extraB, immB, halfI, stackB] at h
  have c1 : convInt .u32 (I6 d) = some (W32 d) := q_cv32 (by omega) (by omega)
  have c2 : convInt .u32 (I6 n) = some (W32 n) := q_cv32 (by omega) (by omega)
  have c3 : convInt .u32 (I6 m) = some (W32 m) := q_cv32 (by omega) (by omega)
  have s1 := shl_p Tryd.prog 71 true (v := n) (p := 32) (b := 5) 5 rfl (by decide) rfl (by omega) (by omega)
  have s2 := shl_p Tryd.prog 71 true (v := m) (p := 65536) (b := 16) 16 rfl (by decide) rfl (by omega) (by omega)
  have o1 := or_f0 Tryd.prog 71 false (x := 3506438144) (v := d) (q := 32) 5 rfl (by omega) (by omega) (by omega) (by omega) (by omega)
  have o2 := or_fd Tryd.prog 71 false (x := 3506438144 + d) (v := n) (p := 32) (q := 32) 5 5 rfl rfl (by omega) (by omega) (by omega) (by omega) (by omega)
  have o3 := or_fd Tryd.prog 71 false (x := 3506438144 + d + n * 32) (v := m) (p := 65536) (q := 1) 16 0 rfl rfl (by omega) (by omega) (by omega) (by omega) (by omega)
  have e4 : wNum 11 a imm = imm * 1024 := rfl
  have o4 : bin Tryd.prog .or 71 false (W32 (3506438144 + d + n * 32 + m * 65536)) (W32 (wNum 11 a imm)) = some (W32 (3506438144 + d + n * 32 + m * 65536 + wNum 11 a imm)) := by
    rw [e4]
    exact or_dj Tryd.prog 71 false ((dj_field (x := 3506438144 + d + n * 32 + m * 65536) (v := imm) (p := 1024) (q := 4096) 10 12 rfl rfl (by omega) (by omega) (by omega) (by omega))) (by omega)
  have ef : formF 11 = ⟨(formF 11).nm, 3506438144, true, true, false, (formF 11).a, (formF 11).b⟩ := rfl
  have eo : isOp 11 = true := rfl
  have ew : wordF ⟨11, d, n, m, a, imm⟩ = 3506438144 + d + n * 32 + m * 65536 + wNum 11 a imm := rfl
  rw [ew]
  rw [eo, ef] at r1
  rw [ef] at r2
  rw [isa_Word.step]
  unfold isa_Word.c
  unfold Form.v at r1 r2
  clear e4 ef eo h ew
  generalize (formF 11).nm = nm at *
  generalize (formF 11).a = fa at *
  generalize (formF 11).b = fb at *
  generalize wNum 11 a imm = z at *
  refine e_in ?_
  have fx := And.intro r1 <| And.intro r2 <| And.intro r3 <| And.intro c1 <| And.intro c2 <| And.intro c3 <| And.intro s1 <| And.intro s2 <| And.intro o1 <| And.intro o2 <| And.intro o3 <| o4
  refine wkA ?_
  exact w2 rfl rfl rfl
theorem word_12 (G : Globs) (k : Nat) (d n m a imm : Int) (h : rightB ⟨12, d, n, m, a, imm⟩ = true) : isa_Word.f G (k + 5) [mV 12 d n m a imm] [] = some (.tup [W32 (wordF ⟨12, d, n, m, a, imm⟩), .bool true], []) := by
  have r1 : ∀ H, pureCall (isa_of.f G (k + 4)) [.int .i64 12] H = _ := fun H => pureCall_of (H := H) (of_spec G k 12) rfl rfl
  have r2 : ∀ H, pureCall (isa_fair.f G (k + 4)) [mV 12 d n m a imm, (formF 12).v] H = _ := fun H => pureCall_of (H := H) (fair_spec G (k + 1) 12 d n m a imm (formF 12) (form_bits 12)) rfl rfl
  have r3 : ∀ H, pureCall (isa_number.f G (k + 4)) [mV 12 d n m a imm] H = _ := fun H => pureCall_of (H := H) (number_spec G (k + 3) ⟨12, d, n, m, a, imm⟩ h) rfl rfl
  unfold rightB at h
  rw [Bool.and_eq_true] at h
  obtain ⟨_, h⟩ := h
  simp only at h
  rw [h] at r2
  simp [formF, fairB, regB, extraB, immB, halfI, stackB] at h
  have c1 : convInt .u32 (I6 d) = some (W32 d) := q_cv32 (by omega) (by omega)
  have c2 : convInt .u32 (I6 n) = some (W32 n) := q_cv32 (by omega) (by omega)
  have c3 : convInt .u32 (I6 m) = some (W32 m) := q_cv32 (by omega) (by omega)
  have s1 := shl_p Tryd.prog 71 true (v := n) (p := 32) (b := 5) 5 rfl (by decide) rfl (by omega) (by omega)
  have s2 := shl_p Tryd.prog 71 true (v := m) (p := 65536) (b := 16) 16 rfl (by decide) rfl (by omega) (by omega)
  have o1 := or_f0 Tryd.prog 71 false (x := 3544186880) (v := d) (q := 32) 5 rfl (by omega) (by omega) (by omega) (by omega) (by omega)
  have o2 := or_fd Tryd.prog 71 false (x := 3544186880 + d) (v := n) (p := 32) (q := 32) 5 5 rfl rfl (by omega) (by omega) (by omega) (by omega) (by omega)
  have o3 := or_fd Tryd.prog 71 false (x := 3544186880 + d + n * 32) (v := m) (p := 65536) (q := 1) 16 0 rfl rfl (by omega) (by omega) (by omega) (by omega) (by omega)
  have e4 : wNum 12 a imm = (64 - imm) % 64 * 65536 + (63 - imm) * 1024 := rfl
  have o4 : bin Tryd.prog .or 71 false (W32 (3544186880 + d + n * 32 + m * 65536)) (W32 (wNum 12 a imm)) = some (W32 (3544186880 + d + n * 32 + m * 65536 + wNum 12 a imm)) := by
    rw [e4]
    exact or_dj Tryd.prog 71 false (dj_add (dj_field (x := 3544186880 + d + n * 32 + m * 65536) (v := (64 - imm) % 64) (p := 65536) (q := 64) 16 6 rfl rfl (by omega) (by omega) (by omega) (by omega)) (dj_field (x := 3544186880 + d + n * 32 + m * 65536) (v := (63 - imm)) (p := 1024) (q := 64) 10 6 rfl rfl (by omega) (by omega) (by omega) (by omega)) (dj_field (x := (64 - imm) % 64 * 65536) (v := (63 - imm)) (p := 1024) (q := 64) 10 6 rfl rfl (by omega) (by omega) (by omega) (by omega)) (by omega)) (by omega)
  have ef : formF 12 = ⟨(formF 12).nm, 3544186880, true, true, false, (formF 12).a, (formF 12).b⟩ := rfl
  have eo : isOp 12 = true := rfl
  have ew : wordF ⟨12, d, n, m, a, imm⟩ = 3544186880 + d + n * 32 + m * 65536 + wNum 12 a imm := rfl
  rw [ew]
  rw [eo, ef] at r1
  rw [ef] at r2
  rw [isa_Word.step]
  unfold isa_Word.c
  unfold Form.v at r1 r2
  clear e4 ef eo h ew
  generalize (formF 12).nm = nm at *
  generalize (formF 12).a = fa at *
  generalize (formF 12).b = fb at *
  generalize wNum 12 a imm = z at *
  refine e_in ?_
  have fx := And.intro r1 <| And.intro r2 <| And.intro r3 <| And.intro c1 <| And.intro c2 <| And.intro c3 <| And.intro s1 <| And.intro s2 <| And.intro o1 <| And.intro o2 <| And.intro o3 <| o4
  refine wkA ?_
  exact w2 rfl rfl rfl
theorem word_13 (G : Globs) (k : Nat) (d n m a imm : Int) (h : rightB ⟨13, d, n, m, a, imm⟩ = true) : isa_Word.f G (k + 5) [mV 13 d n m a imm] [] = some (.tup [W32 (wordF ⟨13, d, n, m, a, imm⟩), .bool true], []) := by
  have r1 : ∀ H, pureCall (isa_of.f G (k + 4)) [.int .i64 13] H = _ := fun H => pureCall_of (H := H) (of_spec G k 13) rfl rfl
  have r2 : ∀ H, pureCall (isa_fair.f G (k + 4)) [mV 13 d n m a imm, (formF 13).v] H = _ := fun H => pureCall_of (H := H) (fair_spec G (k + 1) 13 d n m a imm (formF 13) (form_bits 13)) rfl rfl
  have r3 : ∀ H, pureCall (isa_number.f G (k + 4)) [mV 13 d n m a imm] H = _ := fun H => pureCall_of (H := H) (number_spec G (k + 3) ⟨13, d, n, m, a, imm⟩ h) rfl rfl
  unfold rightB at h
  rw [Bool.and_eq_true] at h
  obtain ⟨_, h⟩ := h
  simp only at h
  rw [h] at r2
  simp [formF, fairB, regB, extraB, immB, halfI, stackB] at h
  have c1 : convInt .u32 (I6 d) = some (W32 d) := q_cv32 (by omega) (by omega)
  have c2 : convInt .u32 (I6 n) = some (W32 n) := q_cv32 (by omega) (by omega)
  have c3 : convInt .u32 (I6 m) = some (W32 m) := q_cv32 (by omega) (by omega)
  have s1 := shl_p Tryd.prog 71 true (v := n) (p := 32) (b := 5) 5 rfl (by decide) rfl (by omega) (by omega)
  have s2 := shl_p Tryd.prog 71 true (v := m) (p := 65536) (b := 16) 16 rfl (by decide) rfl (by omega) (by omega)
  have o1 := or_f0 Tryd.prog 71 false (x := 3544186880) (v := d) (q := 32) 5 rfl (by omega) (by omega) (by omega) (by omega) (by omega)
  have o2 := or_fd Tryd.prog 71 false (x := 3544186880 + d) (v := n) (p := 32) (q := 32) 5 5 rfl rfl (by omega) (by omega) (by omega) (by omega) (by omega)
  have o3 := or_fd Tryd.prog 71 false (x := 3544186880 + d + n * 32) (v := m) (p := 65536) (q := 1) 16 0 rfl rfl (by omega) (by omega) (by omega) (by omega) (by omega)
  have e4 : wNum 13 a imm = imm * 65536 + 63 * 1024 := rfl
  have o4 : bin Tryd.prog .or 71 false (W32 (3544186880 + d + n * 32 + m * 65536)) (W32 (wNum 13 a imm)) = some (W32 (3544186880 + d + n * 32 + m * 65536 + wNum 13 a imm)) := by
    rw [e4]
    exact or_dj Tryd.prog 71 false (dj_add (dj_field (x := 3544186880 + d + n * 32 + m * 65536) (v := imm) (p := 65536) (q := 64) 16 6 rfl rfl (by omega) (by omega) (by omega) (by omega)) (dj_field (x := 3544186880 + d + n * 32 + m * 65536) (v := 63) (p := 1024) (q := 64) 10 6 rfl rfl (by omega) (by omega) (by omega) (by omega)) (dj_field (x := imm * 65536) (v := 63) (p := 1024) (q := 64) 10 6 rfl rfl (by omega) (by omega) (by omega) (by omega)) (by omega)) (by omega)
  have ef : formF 13 = ⟨(formF 13).nm, 3544186880, true, true, false, (formF 13).a, (formF 13).b⟩ := rfl
  have eo : isOp 13 = true := rfl
  have ew : wordF ⟨13, d, n, m, a, imm⟩ = 3544186880 + d + n * 32 + m * 65536 + wNum 13 a imm := rfl
  rw [ew]
  rw [eo, ef] at r1
  rw [ef] at r2
  rw [isa_Word.step]
  unfold isa_Word.c
  unfold Form.v at r1 r2
  clear e4 ef eo h ew
  generalize (formF 13).nm = nm at *
  generalize (formF 13).a = fa at *
  generalize (formF 13).b = fb at *
  generalize wNum 13 a imm = z at *
  refine e_in ?_
  have fx := And.intro r1 <| And.intro r2 <| And.intro r3 <| And.intro c1 <| And.intro c2 <| And.intro c3 <| And.intro s1 <| And.intro s2 <| And.intro o1 <| And.intro o2 <| And.intro o3 <| o4
  refine wkA ?_
  exact w2 rfl rfl rfl
theorem word_14 (G : Globs) (k : Nat) (d n m a imm : Int) (h : rightB ⟨14, d, n, m, a, imm⟩ = true) : isa_Word.f G (k + 5) [mV 14 d n m a imm] [] = some (.tup [W32 (wordF ⟨14, d, n, m, a, imm⟩), .bool true], []) := by
  have r1 : ∀ H, pureCall (isa_of.f G (k + 4)) [.int .i64 14] H = _ := fun H => pureCall_of (H := H) (of_spec G k 14) rfl rfl
  have r2 : ∀ H, pureCall (isa_fair.f G (k + 4)) [mV 14 d n m a imm, (formF 14).v] H = _ := fun H => pureCall_of (H := H) (fair_spec G (k + 1) 14 d n m a imm (formF 14) (form_bits 14)) rfl rfl
  have r3 : ∀ H, pureCall (isa_number.f G (k + 4)) [mV 14 d n m a imm] H = _ := fun H => pureCall_of (H := H) (number_spec G (k + 3) ⟨14, d, n, m, a, imm⟩ h) rfl rfl
  unfold rightB at h
  rw [Bool.and_eq_true] at h
  obtain ⟨_, h⟩ := h
  simp only at h
  rw [h] at r2
  simp [formF, fairB, regB, extraB, immB, halfI, stackB] at h
  have c1 : convInt .u32 (I6 d) = some (W32 d) := q_cv32 (by omega) (by omega)
  have c2 : convInt .u32 (I6 n) = some (W32 n) := q_cv32 (by omega) (by omega)
  have c3 : convInt .u32 (I6 m) = some (W32 m) := q_cv32 (by omega) (by omega)
  have s1 := shl_p Tryd.prog 71 true (v := n) (p := 32) (b := 5) 5 rfl (by decide) rfl (by omega) (by omega)
  have s2 := shl_p Tryd.prog 71 true (v := m) (p := 65536) (b := 16) 16 rfl (by decide) rfl (by omega) (by omega)
  have o1 := or_f0 Tryd.prog 71 false (x := 2470509568) (v := d) (q := 32) 5 rfl (by omega) (by omega) (by omega) (by omega) (by omega)
  have o2 := or_fd Tryd.prog 71 false (x := 2470509568 + d) (v := n) (p := 32) (q := 32) 5 5 rfl rfl (by omega) (by omega) (by omega) (by omega) (by omega)
  have o3 := or_fd Tryd.prog 71 false (x := 2470509568 + d + n * 32) (v := m) (p := 65536) (q := 1) 16 0 rfl rfl (by omega) (by omega) (by omega) (by omega) (by omega)
  have e4 : wNum 14 a imm = imm * 65536 := rfl
  have o4 : bin Tryd.prog .or 71 false (W32 (2470509568 + d + n * 32 + m * 65536)) (W32 (wNum 14 a imm)) = some (W32 (2470509568 + d + n * 32 + m * 65536 + wNum 14 a imm)) := by
    rw [e4]
    exact or_dj Tryd.prog 71 false ((dj_field (x := 2470509568 + d + n * 32 + m * 65536) (v := imm) (p := 65536) (q := 64) 16 6 rfl rfl (by omega) (by omega) (by omega) (by omega))) (by omega)
  have ef : formF 14 = ⟨(formF 14).nm, 2470509568, true, true, false, (formF 14).a, (formF 14).b⟩ := rfl
  have eo : isOp 14 = true := rfl
  have ew : wordF ⟨14, d, n, m, a, imm⟩ = 2470509568 + d + n * 32 + m * 65536 + wNum 14 a imm := rfl
  rw [ew]
  rw [eo, ef] at r1
  rw [ef] at r2
  rw [isa_Word.step]
  unfold isa_Word.c
  unfold Form.v at r1 r2
  clear e4 ef eo h ew
  generalize (formF 14).nm = nm at *
  generalize (formF 14).a = fa at *
  generalize (formF 14).b = fb at *
  generalize wNum 14 a imm = z at *
  refine e_in ?_
  have fx := And.intro r1 <| And.intro r2 <| And.intro r3 <| And.intro c1 <| And.intro c2 <| And.intro c3 <| And.intro s1 <| And.intro s2 <| And.intro o1 <| And.intro o2 <| And.intro o3 <| o4
  refine wkA ?_
  exact w2 rfl rfl rfl
theorem word_15 (G : Globs) (k : Nat) (d n m a imm : Int) (h : rightB ⟨15, d, n, m, a, imm⟩ = true) : isa_Word.f G (k + 5) [mV 15 d n m a imm] [] = some (.tup [W32 (wordF ⟨15, d, n, m, a, imm⟩), .bool true], []) := by
  have r1 : ∀ H, pureCall (isa_of.f G (k + 4)) [.int .i64 15] H = _ := fun H => pureCall_of (H := H) (of_spec G k 15) rfl rfl
  have r2 : ∀ H, pureCall (isa_fair.f G (k + 4)) [mV 15 d n m a imm, (formF 15).v] H = _ := fun H => pureCall_of (H := H) (fair_spec G (k + 1) 15 d n m a imm (formF 15) (form_bits 15)) rfl rfl
  have r3 : ∀ H, pureCall (isa_number.f G (k + 4)) [mV 15 d n m a imm] H = _ := fun H => pureCall_of (H := H) (number_spec G (k + 3) ⟨15, d, n, m, a, imm⟩ h) rfl rfl
  unfold rightB at h
  rw [Bool.and_eq_true] at h
  obtain ⟨_, h⟩ := h
  simp only at h
  rw [h] at r2
  simp [formF, fairB, regB, extraB, immB, halfI, stackB] at h
  have c1 : convInt .u32 (I6 d) = some (W32 d) := q_cv32 (by omega) (by omega)
  have c2 : convInt .u32 (I6 n) = some (W32 n) := q_cv32 (by omega) (by omega)
  have c3 : convInt .u32 (I6 m) = some (W32 m) := q_cv32 (by omega) (by omega)
  have s1 := shl_p Tryd.prog 71 true (v := n) (p := 32) (b := 5) 5 rfl (by decide) rfl (by omega) (by omega)
  have s2 := shl_p Tryd.prog 71 true (v := m) (p := 65536) (b := 16) 16 rfl (by decide) rfl (by omega) (by omega)
  have o1 := or_f0 Tryd.prog 71 false (x := 3942645791) (v := d) (q := 1) 0 rfl (by omega) (by omega) (by omega) (by omega) (by omega)
  have o2 := or_fd Tryd.prog 71 false (x := 3942645791 + d) (v := n) (p := 32) (q := 32) 5 5 rfl rfl (by omega) (by omega) (by omega) (by omega) (by omega)
  have o3 := or_fd Tryd.prog 71 false (x := 3942645791 + d + n * 32) (v := m) (p := 65536) (q := 32) 16 5 rfl rfl (by omega) (by omega) (by omega) (by omega) (by omega)
  have e4 : wNum 15 a imm = 0 := rfl
  have o4 : bin Tryd.prog .or 71 false (W32 (3942645791 + d + n * 32 + m * 65536)) (W32 (wNum 15 a imm)) = some (W32 (3942645791 + d + n * 32 + m * 65536 + wNum 15 a imm)) := by
    rw [e4]
    exact or_dj Tryd.prog 71 false (dj_zero (x := 3942645791 + d + n * 32 + m * 65536) (by omega)) (by omega)
  have ef : formF 15 = ⟨(formF 15).nm, 3942645791, false, true, true, (formF 15).a, (formF 15).b⟩ := rfl
  have eo : isOp 15 = true := rfl
  have ew : wordF ⟨15, d, n, m, a, imm⟩ = 3942645791 + d + n * 32 + m * 65536 + wNum 15 a imm := rfl
  rw [ew]
  rw [eo, ef] at r1
  rw [ef] at r2
  rw [isa_Word.step]
  unfold isa_Word.c
  unfold Form.v at r1 r2
  clear e4 ef eo h ew
  generalize (formF 15).nm = nm at *
  generalize (formF 15).a = fa at *
  generalize (formF 15).b = fb at *
  generalize wNum 15 a imm = z at *
  refine e_in ?_
  have fx := And.intro r1 <| And.intro r2 <| And.intro r3 <| And.intro c1 <| And.intro c2 <| And.intro c3 <| And.intro s1 <| And.intro s2 <| And.intro o1 <| And.intro o2 <| And.intro o3 <| o4
  refine wkA ?_
  exact w2 rfl rfl rfl
theorem word_16 (G : Globs) (k : Nat) (d n m a imm : Int) (h : rightB ⟨16, d, n, m, a, imm⟩ = true) : isa_Word.f G (k + 5) [mV 16 d n m a imm] [] = some (.tup [W32 (wordF ⟨16, d, n, m, a, imm⟩), .bool true], []) := by
  have r1 : ∀ H, pureCall (isa_of.f G (k + 4)) [.int .i64 16] H = _ := fun H => pureCall_of (H := H) (of_spec G k 16) rfl rfl
  have r2 : ∀ H, pureCall (isa_fair.f G (k + 4)) [mV 16 d n m a imm, (formF 16).v] H = _ := fun H => pureCall_of (H := H) (fair_spec G (k + 1) 16 d n m a imm (formF 16) (form_bits 16)) rfl rfl
  have r3 : ∀ H, pureCall (isa_number.f G (k + 4)) [mV 16 d n m a imm] H = _ := fun H => pureCall_of (H := H) (number_spec G (k + 3) ⟨16, d, n, m, a, imm⟩ h) rfl rfl
  unfold rightB at h
  rw [Bool.and_eq_true] at h
  obtain ⟨_, h⟩ := h
  simp only at h
  rw [h] at r2
  simp [formF, fairB, regB, extraB, immB, halfI, stackB] at h
  have c1 : convInt .u32 (I6 d) = some (W32 d) := q_cv32 (by omega) (by omega)
  have c2 : convInt .u32 (I6 n) = some (W32 n) := q_cv32 (by omega) (by omega)
  have c3 : convInt .u32 (I6 m) = some (W32 m) := q_cv32 (by omega) (by omega)
  have s1 := shl_p Tryd.prog 71 true (v := n) (p := 32) (b := 5) 5 rfl (by decide) rfl (by omega) (by omega)
  have s2 := shl_p Tryd.prog 71 true (v := m) (p := 65536) (b := 16) 16 rfl (by decide) rfl (by omega) (by omega)
  have o1 := or_f0 Tryd.prog 71 false (x := 2592079872) (v := d) (q := 32) 5 rfl (by omega) (by omega) (by omega) (by omega) (by omega)
  have o2 := or_fd Tryd.prog 71 false (x := 2592079872 + d) (v := n) (p := 32) (q := 32) 5 5 rfl rfl (by omega) (by omega) (by omega) (by omega) (by omega)
  have o3 := or_fd Tryd.prog 71 false (x := 2592079872 + d + n * 32) (v := m) (p := 65536) (q := 32) 16 5 rfl rfl (by omega) (by omega) (by omega) (by omega) (by omega)
  have e4 : wNum 16 a imm = a * 4096 := rfl
  have o4 : bin Tryd.prog .or 71 false (W32 (2592079872 + d + n * 32 + m * 65536)) (W32 (wNum 16 a imm)) = some (W32 (2592079872 + d + n * 32 + m * 65536 + wNum 16 a imm)) := by
    rw [e4]
    exact or_dj Tryd.prog 71 false ((dj_field (x := 2592079872 + d + n * 32 + m * 65536) (v := a) (p := 4096) (q := 16) 12 4 rfl rfl (by omega) (by omega) (by omega) (by omega))) (by omega)
  have ef : formF 16 = ⟨(formF 16).nm, 2592079872, true, true, true, (formF 16).a, (formF 16).b⟩ := rfl
  have eo : isOp 16 = true := rfl
  have ew : wordF ⟨16, d, n, m, a, imm⟩ = 2592079872 + d + n * 32 + m * 65536 + wNum 16 a imm := rfl
  rw [ew]
  rw [eo, ef] at r1
  rw [ef] at r2
  rw [isa_Word.step]
  unfold isa_Word.c
  unfold Form.v at r1 r2
  clear e4 ef eo h ew
  generalize (formF 16).nm = nm at *
  generalize (formF 16).a = fa at *
  generalize (formF 16).b = fb at *
  generalize wNum 16 a imm = z at *
  refine e_in ?_
  have fx := And.intro r1 <| And.intro r2 <| And.intro r3 <| And.intro c1 <| And.intro c2 <| And.intro c3 <| And.intro s1 <| And.intro s2 <| And.intro o1 <| And.intro o2 <| And.intro o3 <| o4
  refine wkA ?_
  exact w2 rfl rfl rfl
theorem word_17 (G : Globs) (k : Nat) (d n m a imm : Int) (h : rightB ⟨17, d, n, m, a, imm⟩ = true) : isa_Word.f G (k + 5) [mV 17 d n m a imm] [] = some (.tup [W32 (wordF ⟨17, d, n, m, a, imm⟩), .bool true], []) := by
  have r1 : ∀ H, pureCall (isa_of.f G (k + 4)) [.int .i64 17] H = _ := fun H => pureCall_of (H := H) (of_spec G k 17) rfl rfl
  have r2 : ∀ H, pureCall (isa_fair.f G (k + 4)) [mV 17 d n m a imm, (formF 17).v] H = _ := fun H => pureCall_of (H := H) (fair_spec G (k + 1) 17 d n m a imm (formF 17) (form_bits 17)) rfl rfl
  have r3 : ∀ H, pureCall (isa_number.f G (k + 4)) [mV 17 d n m a imm] H = _ := fun H => pureCall_of (H := H) (number_spec G (k + 3) ⟨17, d, n, m, a, imm⟩ h) rfl rfl
  unfold rightB at h
  rw [Bool.and_eq_true] at h
  obtain ⟨_, h⟩ := h
  simp only at h
  rw [h] at r2
  simp [formF, fairB, regB, extraB, immB, halfI, stackB] at h
  have c1 : convInt .u32 (I6 d) = some (W32 d) := q_cv32 (by omega) (by omega)
  have c2 : convInt .u32 (I6 n) = some (W32 n) := q_cv32 (by omega) (by omega)
  have c3 : convInt .u32 (I6 m) = some (W32 m) := q_cv32 (by omega) (by omega)
  have s1 := shl_p Tryd.prog 71 true (v := n) (p := 32) (b := 5) 5 rfl (by decide) rfl (by omega) (by omega)
  have s2 := shl_p Tryd.prog 71 true (v := m) (p := 65536) (b := 16) 16 rfl (by decide) rfl (by omega) (by omega)
  have o1 := or_f0 Tryd.prog 71 false (x := 2594113504) (v := d) (q := 32) 5 rfl (by omega) (by omega) (by omega) (by omega) (by omega)
  have o2 := or_fd Tryd.prog 71 false (x := 2594113504 + d) (v := n) (p := 32) (q := 1) 5 0 rfl rfl (by omega) (by omega) (by omega) (by omega) (by omega)
  have o3 := or_fd Tryd.prog 71 false (x := 2594113504 + d + n * 32) (v := m) (p := 65536) (q := 1) 16 0 rfl rfl (by omega) (by omega) (by omega) (by omega) (by omega)
  have e4 : wNum 17 a imm = (if a % 2 = 0 then a + 1 else a - 1) * 4096 := rfl
  have o4 : bin Tryd.prog .or 71 false (W32 (2594113504 + d + n * 32 + m * 65536)) (W32 (wNum 17 a imm)) = some (W32 (2594113504 + d + n * 32 + m * 65536 + wNum 17 a imm)) := by
    rw [e4]
    exact or_dj Tryd.prog 71 false ((dj_field (x := 2594113504 + d + n * 32 + m * 65536) (v := (if a % 2 = 0 then a + 1 else a - 1)) (p := 4096) (q := 16) 12 4 rfl rfl (by omega) (by split <;> omega) (by split <;> omega) (by omega))) (by split <;> omega)
  have ef : formF 17 = ⟨(formF 17).nm, 2594113504, true, false, false, (formF 17).a, (formF 17).b⟩ := rfl
  have eo : isOp 17 = true := rfl
  have ew : wordF ⟨17, d, n, m, a, imm⟩ = 2594113504 + d + n * 32 + m * 65536 + wNum 17 a imm := rfl
  rw [ew]
  rw [eo, ef] at r1
  rw [ef] at r2
  rw [isa_Word.step]
  unfold isa_Word.c
  unfold Form.v at r1 r2
  clear e4 ef eo h ew
  generalize (formF 17).nm = nm at *
  generalize (formF 17).a = fa at *
  generalize (formF 17).b = fb at *
  generalize wNum 17 a imm = z at *
  refine e_in ?_
  have fx := And.intro r1 <| And.intro r2 <| And.intro r3 <| And.intro c1 <| And.intro c2 <| And.intro c3 <| And.intro s1 <| And.intro s2 <| And.intro o1 <| And.intro o2 <| And.intro o3 <| o4
  refine wkA ?_
  exact w2 rfl rfl rfl
theorem word_18 (G : Globs) (k : Nat) (d n m a imm : Int) (h : rightB ⟨18, d, n, m, a, imm⟩ = true) : isa_Word.f G (k + 5) [mV 18 d n m a imm] [] = some (.tup [W32 (wordF ⟨18, d, n, m, a, imm⟩), .bool true], []) := by
  have r1 : ∀ H, pureCall (isa_of.f G (k + 4)) [.int .i64 18] H = _ := fun H => pureCall_of (H := H) (of_spec G k 18) rfl rfl
  have r2 : ∀ H, pureCall (isa_fair.f G (k + 4)) [mV 18 d n m a imm, (formF 18).v] H = _ := fun H => pureCall_of (H := H) (fair_spec G (k + 1) 18 d n m a imm (formF 18) (form_bits 18)) rfl rfl
  have r3 : ∀ H, pureCall (isa_number.f G (k + 4)) [mV 18 d n m a imm] H = _ := fun H => pureCall_of (H := H) (number_spec G (k + 3) ⟨18, d, n, m, a, imm⟩ h) rfl rfl
  unfold rightB at h
  rw [Bool.and_eq_true] at h
  obtain ⟨_, h⟩ := h
  simp only at h
  rw [h] at r2
  simp [formF, fairB, regB, extraB, immB, halfI, stackB] at h
  have c1 : convInt .u32 (I6 d) = some (W32 d) := q_cv32 (by omega) (by omega)
  have c2 : convInt .u32 (I6 n) = some (W32 n) := q_cv32 (by omega) (by omega)
  have c3 : convInt .u32 (I6 m) = some (W32 m) := q_cv32 (by omega) (by omega)
  have s1 := shl_p Tryd.prog 71 true (v := n) (p := 32) (b := 5) 5 rfl (by decide) rfl (by omega) (by omega)
  have s2 := shl_p Tryd.prog 71 true (v := m) (p := 65536) (b := 16) 16 rfl (by decide) rfl (by omega) (by omega)
  have o1 := or_f0 Tryd.prog 71 false (x := 4181721088) (v := d) (q := 32) 5 rfl (by omega) (by omega) (by omega) (by omega) (by omega)
  have o2 := or_fd Tryd.prog 71 false (x := 4181721088 + d) (v := n) (p := 32) (q := 32) 5 5 rfl rfl (by omega) (by omega) (by omega) (by omega) (by omega)
  have o3 := or_fd Tryd.prog 71 false (x := 4181721088 + d + n * 32) (v := m) (p := 65536) (q := 1) 16 0 rfl rfl (by omega) (by omega) (by omega) (by omega) (by omega)
  have e4 : wNum 18 a imm = imm * 1024 := rfl
  have o4 : bin Tryd.prog .or 71 false (W32 (4181721088 + d + n * 32 + m * 65536)) (W32 (wNum 18 a imm)) = some (W32 (4181721088 + d + n * 32 + m * 65536 + wNum 18 a imm)) := by
    rw [e4]
    exact or_dj Tryd.prog 71 false ((dj_field (x := 4181721088 + d + n * 32 + m * 65536) (v := imm) (p := 1024) (q := 4096) 10 12 rfl rfl (by omega) (by omega) (by omega) (by omega))) (by omega)
  have ef : formF 18 = ⟨(formF 18).nm, 4181721088, true, true, false, (formF 18).a, (formF 18).b⟩ := rfl
  have eo : isOp 18 = true := rfl
  have ew : wordF ⟨18, d, n, m, a, imm⟩ = 4181721088 + d + n * 32 + m * 65536 + wNum 18 a imm := rfl
  rw [ew]
  rw [eo, ef] at r1
  rw [ef] at r2
  rw [isa_Word.step]
  unfold isa_Word.c
  unfold Form.v at r1 r2
  clear e4 ef eo h ew
  generalize (formF 18).nm = nm at *
  generalize (formF 18).a = fa at *
  generalize (formF 18).b = fb at *
  generalize wNum 18 a imm = z at *
  refine e_in ?_
  have fx := And.intro r1 <| And.intro r2 <| And.intro r3 <| And.intro c1 <| And.intro c2 <| And.intro c3 <| And.intro s1 <| And.intro s2 <| And.intro o1 <| And.intro o2 <| And.intro o3 <| o4
  refine wkA ?_
  exact w2 rfl rfl rfl
theorem word_19 (G : Globs) (k : Nat) (d n m a imm : Int) (h : rightB ⟨19, d, n, m, a, imm⟩ = true) : isa_Word.f G (k + 5) [mV 19 d n m a imm] [] = some (.tup [W32 (wordF ⟨19, d, n, m, a, imm⟩), .bool true], []) := by
  have r1 : ∀ H, pureCall (isa_of.f G (k + 4)) [.int .i64 19] H = _ := fun H => pureCall_of (H := H) (of_spec G k 19) rfl rfl
  have r2 : ∀ H, pureCall (isa_fair.f G (k + 4)) [mV 19 d n m a imm, (formF 19).v] H = _ := fun H => pureCall_of (H := H) (fair_spec G (k + 1) 19 d n m a imm (formF 19) (form_bits 19)) rfl rfl
  have r3 : ∀ H, pureCall (isa_number.f G (k + 4)) [mV 19 d n m a imm] H = _ := fun H => pureCall_of (H := H) (number_spec G (k + 3) ⟨19, d, n, m, a, imm⟩ h) rfl rfl
  unfold rightB at h
  rw [Bool.and_eq_true] at h
  obtain ⟨_, h⟩ := h
  simp only at h
  rw [h] at r2
  simp [formF, fairB, regB, extraB, immB, halfI, stackB] at h
  have c1 : convInt .u32 (I6 d) = some (W32 d) := q_cv32 (by omega) (by omega)
  have c2 : convInt .u32 (I6 n) = some (W32 n) := q_cv32 (by omega) (by omega)
  have c3 : convInt .u32 (I6 m) = some (W32 m) := q_cv32 (by omega) (by omega)
  have s1 := shl_p Tryd.prog 71 true (v := n) (p := 32) (b := 5) 5 rfl (by decide) rfl (by omega) (by omega)
  have s2 := shl_p Tryd.prog 71 true (v := m) (p := 65536) (b := 16) 16 rfl (by decide) rfl (by omega) (by omega)
  have o1 := or_f0 Tryd.prog 71 false (x := 4177526784) (v := d) (q := 32) 5 rfl (by omega) (by omega) (by omega) (by omega) (by omega)
  have o2 := or_fd Tryd.prog 71 false (x := 4177526784 + d) (v := n) (p := 32) (q := 32) 5 5 rfl rfl (by omega) (by omega) (by omega) (by omega) (by omega)
  have o3 := or_fd Tryd.prog 71 false (x := 4177526784 + d + n * 32) (v := m) (p := 65536) (q := 1) 16 0 rfl rfl (by omega) (by omega) (by omega) (by omega) (by omega)
  have e4 : wNum 19 a imm = imm * 1024 := rfl
  have o4 : bin Tryd.prog .or 71 false (W32 (4177526784 + d + n * 32 + m * 65536)) (W32 (wNum 19 a imm)) = some (W32 (4177526784 + d + n * 32 + m * 65536 + wNum 19 a imm)) := by
    rw [e4]
    exact or_dj Tryd.prog 71 false ((dj_field (x := 4177526784 + d + n * 32 + m * 65536) (v := imm) (p := 1024) (q := 4096) 10 12 rfl rfl (by omega) (by omega) (by omega) (by omega))) (by omega)
  have ef : formF 19 = ⟨(formF 19).nm, 4177526784, true, true, false, (formF 19).a, (formF 19).b⟩ := rfl
  have eo : isOp 19 = true := rfl
  have ew : wordF ⟨19, d, n, m, a, imm⟩ = 4177526784 + d + n * 32 + m * 65536 + wNum 19 a imm := rfl
  rw [ew]
  rw [eo, ef] at r1
  rw [ef] at r2
  rw [isa_Word.step]
  unfold isa_Word.c
  unfold Form.v at r1 r2
  clear e4 ef eo h ew
  generalize (formF 19).nm = nm at *
  generalize (formF 19).a = fa at *
  generalize (formF 19).b = fb at *
  generalize wNum 19 a imm = z at *
  refine e_in ?_
  have fx := And.intro r1 <| And.intro r2 <| And.intro r3 <| And.intro c1 <| And.intro c2 <| And.intro c3 <| And.intro s1 <| And.intro s2 <| And.intro o1 <| And.intro o2 <| And.intro o3 <| o4
  refine wkA ?_
  exact w2 rfl rfl rfl
theorem word_20 (G : Globs) (k : Nat) (d n m a imm : Int) (h : rightB ⟨20, d, n, m, a, imm⟩ = true) : isa_Word.f G (k + 5) [mV 20 d n m a imm] [] = some (.tup [W32 (wordF ⟨20, d, n, m, a, imm⟩), .bool true], []) := by
  have r1 : ∀ H, pureCall (isa_of.f G (k + 4)) [.int .i64 20] H = _ := fun H => pureCall_of (H := H) (of_spec G k 20) rfl rfl
  have r2 : ∀ H, pureCall (isa_fair.f G (k + 4)) [mV 20 d n m a imm, (formF 20).v] H = _ := fun H => pureCall_of (H := H) (fair_spec G (k + 1) 20 d n m a imm (formF 20) (form_bits 20)) rfl rfl
  have r3 : ∀ H, pureCall (isa_number.f G (k + 4)) [mV 20 d n m a imm] H = _ := fun H => pureCall_of (H := H) (number_spec G (k + 3) ⟨20, d, n, m, a, imm⟩ h) rfl rfl
  unfold rightB at h
  rw [Bool.and_eq_true] at h
  obtain ⟨_, h⟩ := h
  simp only at h
  rw [h] at r2
  simp [formF, fairB, regB, extraB, immB, halfI, stackB] at h
  have c1 : convInt .u32 (I6 d) = some (W32 d) := q_cv32 (by omega) (by omega)
  have c2 : convInt .u32 (I6 n) = some (W32 n) := q_cv32 (by omega) (by omega)
  have c3 : convInt .u32 (I6 m) = some (W32 m) := q_cv32 (by omega) (by omega)
  have s1 := shl_p Tryd.prog 71 true (v := n) (p := 32) (b := 5) 5 rfl (by decide) rfl (by omega) (by omega)
  have s2 := shl_p Tryd.prog 71 true (v := m) (p := 65536) (b := 16) 16 rfl (by decide) rfl (by omega) (by omega)
  have o1 := or_f0 Tryd.prog 71 false (x := 335544320) (v := d) (q := 1) 0 rfl (by omega) (by omega) (by omega) (by omega) (by omega)
  have o2 := or_fd Tryd.prog 71 false (x := 335544320 + d) (v := n) (p := 32) (q := 1) 5 0 rfl rfl (by omega) (by omega) (by omega) (by omega) (by omega)
  have o3 := or_fd Tryd.prog 71 false (x := 335544320 + d + n * 32) (v := m) (p := 65536) (q := 1) 16 0 rfl rfl (by omega) (by omega) (by omega) (by omega) (by omega)
  have e4 : wNum 20 a imm = imm % 67108864 := rfl
  have o4 : bin Tryd.prog .or 71 false (W32 (335544320 + d + n * 32 + m * 65536)) (W32 (wNum 20 a imm)) = some (W32 (335544320 + d + n * 32 + m * 65536 + wNum 20 a imm)) := by
    rw [e4]
    exact or_dj Tryd.prog 71 false ((by have := dj_field (x := 335544320 + d + n * 32 + m * 65536) (v := imm % 67108864) (p := 1) (q := 67108864) 0 26 rfl rfl (by omega) (by omega) (by omega) (by omega); rwa [Int.mul_one] at this)) (by omega)
  have ef : formF 20 = ⟨(formF 20).nm, 335544320, false, false, false, (formF 20).a, (formF 20).b⟩ := rfl
  have eo : isOp 20 = true := rfl
  have ew : wordF ⟨20, d, n, m, a, imm⟩ = 335544320 + d + n * 32 + m * 65536 + wNum 20 a imm := rfl
  rw [ew]
  rw [eo, ef] at r1
  rw [ef] at r2
  rw [isa_Word.step]
  unfold isa_Word.c
  unfold Form.v at r1 r2
  clear e4 ef eo h ew
  generalize (formF 20).nm = nm at *
  generalize (formF 20).a = fa at *
  generalize (formF 20).b = fb at *
  generalize wNum 20 a imm = z at *
  refine e_in ?_
  have fx := And.intro r1 <| And.intro r2 <| And.intro r3 <| And.intro c1 <| And.intro c2 <| And.intro c3 <| And.intro s1 <| And.intro s2 <| And.intro o1 <| And.intro o2 <| And.intro o3 <| o4
  refine wkA ?_
  exact w2 rfl rfl rfl
theorem word_21 (G : Globs) (k : Nat) (d n m a imm : Int) (h : rightB ⟨21, d, n, m, a, imm⟩ = true) : isa_Word.f G (k + 5) [mV 21 d n m a imm] [] = some (.tup [W32 (wordF ⟨21, d, n, m, a, imm⟩), .bool true], []) := by
  have r1 : ∀ H, pureCall (isa_of.f G (k + 4)) [.int .i64 21] H = _ := fun H => pureCall_of (H := H) (of_spec G k 21) rfl rfl
  have r2 : ∀ H, pureCall (isa_fair.f G (k + 4)) [mV 21 d n m a imm, (formF 21).v] H = _ := fun H => pureCall_of (H := H) (fair_spec G (k + 1) 21 d n m a imm (formF 21) (form_bits 21)) rfl rfl
  have r3 : ∀ H, pureCall (isa_number.f G (k + 4)) [mV 21 d n m a imm] H = _ := fun H => pureCall_of (H := H) (number_spec G (k + 3) ⟨21, d, n, m, a, imm⟩ h) rfl rfl
  unfold rightB at h
  rw [Bool.and_eq_true] at h
  obtain ⟨_, h⟩ := h
  simp only at h
  rw [h] at r2
  simp [formF, fairB, regB, extraB, immB, halfI, stackB] at h
  have c1 : convInt .u32 (I6 d) = some (W32 d) := q_cv32 (by omega) (by omega)
  have c2 : convInt .u32 (I6 n) = some (W32 n) := q_cv32 (by omega) (by omega)
  have c3 : convInt .u32 (I6 m) = some (W32 m) := q_cv32 (by omega) (by omega)
  have s1 := shl_p Tryd.prog 71 true (v := n) (p := 32) (b := 5) 5 rfl (by decide) rfl (by omega) (by omega)
  have s2 := shl_p Tryd.prog 71 true (v := m) (p := 65536) (b := 16) 16 rfl (by decide) rfl (by omega) (by omega)
  have o1 := or_f0 Tryd.prog 71 false (x := 1409286144) (v := d) (q := 1) 0 rfl (by omega) (by omega) (by omega) (by omega) (by omega)
  have o2 := or_fd Tryd.prog 71 false (x := 1409286144 + d) (v := n) (p := 32) (q := 1) 5 0 rfl rfl (by omega) (by omega) (by omega) (by omega) (by omega)
  have o3 := or_fd Tryd.prog 71 false (x := 1409286144 + d + n * 32) (v := m) (p := 65536) (q := 1) 16 0 rfl rfl (by omega) (by omega) (by omega) (by omega) (by omega)
  have e4 : wNum 21 a imm = a + imm % 524288 * 32 := rfl
  have o4 : bin Tryd.prog .or 71 false (W32 (1409286144 + d + n * 32 + m * 65536)) (W32 (wNum 21 a imm)) = some (W32 (1409286144 + d + n * 32 + m * 65536 + wNum 21 a imm)) := by
    rw [e4]
    exact or_dj Tryd.prog 71 false (dj_add (by have := dj_field (x := 1409286144 + d + n * 32 + m * 65536) (v := a) (p := 1) (q := 16) 0 4 rfl rfl (by omega) (by omega) (by omega) (by omega); rwa [Int.mul_one] at this) (dj_field (x := 1409286144 + d + n * 32 + m * 65536) (v := imm % 524288) (p := 32) (q := 524288) 5 19 rfl rfl (by omega) (by omega) (by omega) (by omega)) (dj_field (x := a) (v := imm % 524288) (p := 32) (q := 524288) 5 19 rfl rfl (by omega) (by omega) (by omega) (by omega)) (by omega)) (by omega)
  have ef : formF 21 = ⟨(formF 21).nm, 1409286144, false, false, false, (formF 21).a, (formF 21).b⟩ := rfl
  have eo : isOp 21 = true := rfl
  have ew : wordF ⟨21, d, n, m, a, imm⟩ = 1409286144 + d + n * 32 + m * 65536 + wNum 21 a imm := rfl
  rw [ew]
  rw [eo, ef] at r1
  rw [ef] at r2
  rw [isa_Word.step]
  unfold isa_Word.c
  unfold Form.v at r1 r2
  clear e4 ef eo h ew
  generalize (formF 21).nm = nm at *
  generalize (formF 21).a = fa at *
  generalize (formF 21).b = fb at *
  generalize wNum 21 a imm = z at *
  refine e_in ?_
  have fx := And.intro r1 <| And.intro r2 <| And.intro r3 <| And.intro c1 <| And.intro c2 <| And.intro c3 <| And.intro s1 <| And.intro s2 <| And.intro o1 <| And.intro o2 <| And.intro o3 <| o4
  refine wkA ?_
  exact w2 rfl rfl rfl
theorem word_22 (G : Globs) (k : Nat) (d n m a imm : Int) (h : rightB ⟨22, d, n, m, a, imm⟩ = true) : isa_Word.f G (k + 5) [mV 22 d n m a imm] [] = some (.tup [W32 (wordF ⟨22, d, n, m, a, imm⟩), .bool true], []) := by
  have r1 : ∀ H, pureCall (isa_of.f G (k + 4)) [.int .i64 22] H = _ := fun H => pureCall_of (H := H) (of_spec G k 22) rfl rfl
  have r2 : ∀ H, pureCall (isa_fair.f G (k + 4)) [mV 22 d n m a imm, (formF 22).v] H = _ := fun H => pureCall_of (H := H) (fair_spec G (k + 1) 22 d n m a imm (formF 22) (form_bits 22)) rfl rfl
  have r3 : ∀ H, pureCall (isa_number.f G (k + 4)) [mV 22 d n m a imm] H = _ := fun H => pureCall_of (H := H) (number_spec G (k + 3) ⟨22, d, n, m, a, imm⟩ h) rfl rfl
  unfold rightB at h
  rw [Bool.and_eq_true] at h
  obtain ⟨_, h⟩ := h
  simp only at h
  rw [h] at r2
  simp [formF, fairB, regB, extraB, immB, halfI, stackB] at h
  have c1 : convInt .u32 (I6 d) = some (W32 d) := q_cv32 (by omega) (by omega)
  have c2 : convInt .u32 (I6 n) = some (W32 n) := q_cv32 (by omega) (by omega)
  have c3 : convInt .u32 (I6 m) = some (W32 m) := q_cv32 (by omega) (by omega)
  have s1 := shl_p Tryd.prog 71 true (v := n) (p := 32) (b := 5) 5 rfl (by decide) rfl (by omega) (by omega)
  have s2 := shl_p Tryd.prog 71 true (v := m) (p := 65536) (b := 16) 16 rfl (by decide) rfl (by omega) (by omega)
  have o1 := or_f0 Tryd.prog 71 false (x := 3019898880) (v := d) (q := 32) 5 rfl (by omega) (by omega) (by omega) (by omega) (by omega)
  have o2 := or_fd Tryd.prog 71 false (x := 3019898880 + d) (v := n) (p := 32) (q := 1) 5 0 rfl rfl (by omega) (by omega) (by omega) (by omega) (by omega)
  have o3 := or_fd Tryd.prog 71 false (x := 3019898880 + d + n * 32) (v := m) (p := 65536) (q := 1) 16 0 rfl rfl (by omega) (by omega) (by omega) (by omega) (by omega)
  have e4 : wNum 22 a imm = imm % 524288 * 32 := rfl
  have o4 : bin Tryd.prog .or 71 false (W32 (3019898880 + d + n * 32 + m * 65536)) (W32 (wNum 22 a imm)) = some (W32 (3019898880 + d + n * 32 + m * 65536 + wNum 22 a imm)) := by
    rw [e4]
    exact or_dj Tryd.prog 71 false ((dj_field (x := 3019898880 + d + n * 32 + m * 65536) (v := imm % 524288) (p := 32) (q := 524288) 5 19 rfl rfl (by omega) (by omega) (by omega) (by omega))) (by omega)
  have ef : formF 22 = ⟨(formF 22).nm, 3019898880, true, false, false, (formF 22).a, (formF 22).b⟩ := rfl
  have eo : isOp 22 = true := rfl
  have ew : wordF ⟨22, d, n, m, a, imm⟩ = 3019898880 + d + n * 32 + m * 65536 + wNum 22 a imm := rfl
  rw [ew]
  rw [eo, ef] at r1
  rw [ef] at r2
  rw [isa_Word.step]
  unfold isa_Word.c
  unfold Form.v at r1 r2
  clear e4 ef eo h ew
  generalize (formF 22).nm = nm at *
  generalize (formF 22).a = fa at *
  generalize (formF 22).b = fb at *
  generalize wNum 22 a imm = z at *
  refine e_in ?_
  have fx := And.intro r1 <| And.intro r2 <| And.intro r3 <| And.intro c1 <| And.intro c2 <| And.intro c3 <| And.intro s1 <| And.intro s2 <| And.intro o1 <| And.intro o2 <| And.intro o3 <| o4
  refine wkA ?_
  exact w2 rfl rfl rfl
theorem word_23 (G : Globs) (k : Nat) (d n m a imm : Int) (h : rightB ⟨23, d, n, m, a, imm⟩ = true) : isa_Word.f G (k + 5) [mV 23 d n m a imm] [] = some (.tup [W32 (wordF ⟨23, d, n, m, a, imm⟩), .bool true], []) := by
  have r1 : ∀ H, pureCall (isa_of.f G (k + 4)) [.int .i64 23] H = _ := fun H => pureCall_of (H := H) (of_spec G k 23) rfl rfl
  have r2 : ∀ H, pureCall (isa_fair.f G (k + 4)) [mV 23 d n m a imm, (formF 23).v] H = _ := fun H => pureCall_of (H := H) (fair_spec G (k + 1) 23 d n m a imm (formF 23) (form_bits 23)) rfl rfl
  have r3 : ∀ H, pureCall (isa_number.f G (k + 4)) [mV 23 d n m a imm] H = _ := fun H => pureCall_of (H := H) (number_spec G (k + 3) ⟨23, d, n, m, a, imm⟩ h) rfl rfl
  unfold rightB at h
  rw [Bool.and_eq_true] at h
  obtain ⟨_, h⟩ := h
  simp only at h
  rw [h] at r2
  simp [formF, fairB, regB, extraB, immB, halfI, stackB] at h
  have c1 : convInt .u32 (I6 d) = some (W32 d) := q_cv32 (by omega) (by omega)
  have c2 : convInt .u32 (I6 n) = some (W32 n) := q_cv32 (by omega) (by omega)
  have c3 : convInt .u32 (I6 m) = some (W32 m) := q_cv32 (by omega) (by omega)
  have s1 := shl_p Tryd.prog 71 true (v := n) (p := 32) (b := 5) 5 rfl (by decide) rfl (by omega) (by omega)
  have s2 := shl_p Tryd.prog 71 true (v := m) (p := 65536) (b := 16) 16 rfl (by decide) rfl (by omega) (by omega)
  have o1 := or_f0 Tryd.prog 71 false (x := 3036676096) (v := d) (q := 32) 5 rfl (by omega) (by omega) (by omega) (by omega) (by omega)
  have o2 := or_fd Tryd.prog 71 false (x := 3036676096 + d) (v := n) (p := 32) (q := 1) 5 0 rfl rfl (by omega) (by omega) (by omega) (by omega) (by omega)
  have o3 := or_fd Tryd.prog 71 false (x := 3036676096 + d + n * 32) (v := m) (p := 65536) (q := 1) 16 0 rfl rfl (by omega) (by omega) (by omega) (by omega) (by omega)
  have e4 : wNum 23 a imm = imm % 524288 * 32 := rfl
  have o4 : bin Tryd.prog .or 71 false (W32 (3036676096 + d + n * 32 + m * 65536)) (W32 (wNum 23 a imm)) = some (W32 (3036676096 + d + n * 32 + m * 65536 + wNum 23 a imm)) := by
    rw [e4]
    exact or_dj Tryd.prog 71 false ((dj_field (x := 3036676096 + d + n * 32 + m * 65536) (v := imm % 524288) (p := 32) (q := 524288) 5 19 rfl rfl (by omega) (by omega) (by omega) (by omega))) (by omega)
  have ef : formF 23 = ⟨(formF 23).nm, 3036676096, true, false, false, (formF 23).a, (formF 23).b⟩ := rfl
  have eo : isOp 23 = true := rfl
  have ew : wordF ⟨23, d, n, m, a, imm⟩ = 3036676096 + d + n * 32 + m * 65536 + wNum 23 a imm := rfl
  rw [ew]
  rw [eo, ef] at r1
  rw [ef] at r2
  rw [isa_Word.step]
  unfold isa_Word.c
  unfold Form.v at r1 r2
  clear e4 ef eo h ew
  generalize (formF 23).nm = nm at *
  generalize (formF 23).a = fa at *
  generalize (formF 23).b = fb at *
  generalize wNum 23 a imm = z at *
  refine e_in ?_
  have fx := And.intro r1 <| And.intro r2 <| And.intro r3 <| And.intro c1 <| And.intro c2 <| And.intro c3 <| And.intro s1 <| And.intro s2 <| And.intro o1 <| And.intro o2 <| And.intro o3 <| o4
  refine wkA ?_
  exact w2 rfl rfl rfl
theorem word_24 (G : Globs) (k : Nat) (d n m a imm : Int) (h : rightB ⟨24, d, n, m, a, imm⟩ = true) : isa_Word.f G (k + 5) [mV 24 d n m a imm] [] = some (.tup [W32 (wordF ⟨24, d, n, m, a, imm⟩), .bool true], []) := by
  have r1 : ∀ H, pureCall (isa_of.f G (k + 4)) [.int .i64 24] H = _ := fun H => pureCall_of (H := H) (of_spec G k 24) rfl rfl
  have r2 : ∀ H, pureCall (isa_fair.f G (k + 4)) [mV 24 d n m a imm, (formF 24).v] H = _ := fun H => pureCall_of (H := H) (fair_spec G (k + 1) 24 d n m a imm (formF 24) (form_bits 24)) rfl rfl
  have r3 : ∀ H, pureCall (isa_number.f G (k + 4)) [mV 24 d n m a imm] H = _ := fun H => pureCall_of (H := H) (number_spec G (k + 3) ⟨24, d, n, m, a, imm⟩ h) rfl rfl
  unfold rightB at h
  rw [Bool.and_eq_true] at h
  obtain ⟨_, h⟩ := h
  simp only at h
  rw [h] at r2
  simp [formF, fairB, regB, extraB, immB, halfI, stackB] at h
  have c1 : convInt .u32 (I6 d) = some (W32 d) := q_cv32 (by omega) (by omega)
  have c2 : convInt .u32 (I6 n) = some (W32 n) := q_cv32 (by omega) (by omega)
  have c3 : convInt .u32 (I6 m) = some (W32 m) := q_cv32 (by omega) (by omega)
  have s1 := shl_p Tryd.prog 71 true (v := n) (p := 32) (b := 5) 5 rfl (by decide) rfl (by omega) (by omega)
  have s2 := shl_p Tryd.prog 71 true (v := m) (p := 65536) (b := 16) 16 rfl (by decide) rfl (by omega) (by omega)
  have o1 := or_f0 Tryd.prog 71 false (x := 3560964096) (v := d) (q := 1) 0 rfl (by omega) (by omega) (by omega) (by omega) (by omega)
  have o2 := or_fd Tryd.prog 71 false (x := 3560964096 + d) (v := n) (p := 32) (q := 1) 5 0 rfl rfl (by omega) (by omega) (by omega) (by omega) (by omega)
  have o3 := or_fd Tryd.prog 71 false (x := 3560964096 + d + n * 32) (v := m) (p := 65536) (q := 1) 16 0 rfl rfl (by omega) (by omega) (by omega) (by omega) (by omega)
  have e4 : wNum 24 a imm = imm * 32 := rfl
  have o4 : bin Tryd.prog .or 71 false (W32 (3560964096 + d + n * 32 + m * 65536)) (W32 (wNum 24 a imm)) = some (W32 (3560964096 + d + n * 32 + m * 65536 + wNum 24 a imm)) := by
    rw [e4]
    exact or_dj Tryd.prog 71 false ((dj_field (x := 3560964096 + d + n * 32 + m * 65536) (v := imm) (p := 32) (q := 65536) 5 16 rfl rfl (by omega) (by omega) (by omega) (by omega))) (by omega)
  have ef : formF 24 = ⟨(formF 24).nm, 3560964096, false, false, false, (formF 24).a, (formF 24).b⟩ := rfl
  have eo : isOp 24 = true := rfl
  have ew : wordF ⟨24, d, n, m, a, imm⟩ = 3560964096 + d + n * 32 + m * 65536 + wNum 24 a imm := rfl
  rw [ew]
  rw [eo, ef] at r1
  rw [ef] at r2
  rw [isa_Word.step]
  unfold isa_Word.c
  unfold Form.v at r1 r2
  clear e4 ef eo h ew
  generalize (formF 24).nm = nm at *
  generalize (formF 24).a = fa at *
  generalize (formF 24).b = fb at *
  generalize wNum 24 a imm = z at *
  refine e_in ?_
  have fx := And.intro r1 <| And.intro r2 <| And.intro r3 <| And.intro c1 <| And.intro c2 <| And.intro c3 <| And.intro s1 <| And.intro s2 <| And.intro o1 <| And.intro o2 <| And.intro o3 <| o4
  refine wkA ?_
  exact w2 rfl rfl rfl
theorem word_spec (G : Globs) (k : Nat) (i : MI) : isa_Word.f G (k + 5) [i.v] [] = some (.tup [W32 (wordR i), .bool (rightB i)], []) := by
  cases hr : rightB i
  · have e : wordR i = 0 := by unfold wordR; rw [hr]; rfl
    rw [e]
    obtain ⟨op, d, n, m, a, imm⟩ := i
    show isa_Word.f G (k + 5) [mV op d n m a imm] [] = _
    rw [isa_Word.step]
    unfold isa_Word.c
    unfold rightB at hr
    have r1 : ∀ H, pureCall (isa_of.f G (k + 4)) [I6 op] H = _ := fun H => pureCall_of (H := H) (of_spec G k op) rfl rfl
    have r2 : ∀ H, pureCall (isa_fair.f G (k + 4)) [mV op d n m a imm, (formF op).v] H = _ := fun H => pureCall_of (H := H) (fair_spec G (k + 1) op d n m a imm (formF op) (form_bits op)) rfl rfl
    simp only at hr
    generalize fairB ⟨op, d, n, m, a, imm⟩ (formF op) = g2 at *
    generalize isOp op = g1 at *
    obtain ⟨nm, w, fd, fn, fm, fa, fb⟩ := formF op
    unfold Form.v at *
    refine e_in ?_
    cases g1
    · have fx := And.intro r1 <| r2
      refine wkA ?_
      exact w2 rfl rfl rfl
    · cases g2
      · have fx := And.intro r1 <| r2
        refine wkA ?_
        exact w2 rfl rfl rfl
      · cases hr
  · have e : wordR i = wordF i := by unfold wordR; rw [hr]; rfl
    rw [e]
    obtain ⟨op, d, n, m, a, imm⟩ := i
    show isa_Word.f G (k + 5) [mV op d n m a imm] [] = _
    have h24 := (Bool.and_eq_true_iff.1 hr).1
    have h24 : 1 ≤ op ∧ op ≤ 24 := of_decide_eq_true h24
    rcases op24 h24 with rfl | rfl | rfl | rfl | rfl | rfl | rfl | rfl | rfl | rfl | rfl | rfl | rfl | rfl | rfl | rfl | rfl | rfl | rfl | rfl | rfl | rfl | rfl | rfl
    · exact word_1 G k d n m a imm hr
    · exact word_2 G k d n m a imm hr
    · exact word_3 G k d n m a imm hr
    · exact word_4 G k d n m a imm hr
    · exact word_5 G k d n m a imm hr
    · exact word_6 G k d n m a imm hr
    · exact word_7 G k d n m a imm hr
    · exact word_8 G k d n m a imm hr
    · exact word_9 G k d n m a imm hr
    · exact word_10 G k d n m a imm hr
    · exact word_11 G k d n m a imm hr
    · exact word_12 G k d n m a imm hr
    · exact word_13 G k d n m a imm hr
    · exact word_14 G k d n m a imm hr
    · exact word_15 G k d n m a imm hr
    · exact word_16 G k d n m a imm hr
    · exact word_17 G k d n m a imm hr
    · exact word_18 G k d n m a imm hr
    · exact word_19 G k d n m a imm hr
    · exact word_20 G k d n m a imm hr
    · exact word_21 G k d n m a imm hr
    · exact word_22 G k d n m a imm hr
    · exact word_23 G k d n m a imm hr
    · exact word_24 G k d n m a imm hr
end Go.Proofs.YtdfglgnflldkpaaDoor.Mir
namespace Go.Proofs.YtdfglgnflldkpaaDoor.Mir
open Go
set_option linter.unusedVariables false
set_option linter.unusedSimpArgs false
set_option maxHeartbeats 8000000
set_option maxRecDepth 20000
def x1F (v : Int) : Int := if v % 2 = 0 then v + 1 else v - 1
def sgnF (n h : Int) : Int := if h ≤ n then n - 2 * h else n
def exA (op w : Int) : Int :=
  if op = 1 ∨ op = 2 then w / 2097152 % 4
  else if op = 8 then w / 1024 % 32
  else if op = 16 then w / 4096 % 16
  else if op = 17 then x1F (w / 4096 % 16)
  else if op = 21 then w % 16
  else 0
def exI (op w : Int) : Int :=
  if op = 1 ∨ op = 2 then w / 32 % 65536
  else if op = 10 ∨ op = 11 ∨ op = 18 ∨ op = 19 then w / 1024 % 4096
  else if op = 12 then 63 - w / 1024 % 64
  else if op = 13 ∨ op = 14 then w / 65536 % 64
  else if op = 20 then sgnF (w % 67108864) 33554432
  else if op = 21 ∨ op = 22 ∨ op = 23 then sgnF (w / 32 % 524288) 262144
  else if op = 24 then w / 32 % 65536
  else 0
/-- A word as an instruction of a kind. -/
def asF (op w : Int) : MI := ⟨op, if (formF op).d = true then w % 32 else 0, if (formF op).n = true then w / 32 % 32 else 0, if (formF op).m = true then w / 65536 % 32 else 0, exA op w, exI op w⟩
theorem shr_p (P : Program) (t : Nat) (c : Bool) (kk : IntKind) {v p b : Int} (s : Nat) (hb : b = (s : Int)) (hs : s ≤ 32) (hp : p = ((2 ^ s : Nat) : Int)) (h0 : 0 ≤ v) : bin P .shr t c (W32 v) (.int kk b) = some (W32 (v / p)) := by
  subst hb
  rw [bin_shr _ _ _ _ _ _ _ (Int.natCast_nonneg s), Int.toNat_natCast]
  have e : min s IntKind.u32.bits = s := Nat.min_eq_left hs
  have e2 : ((2 : Int) ^ s) = p := by rw [hp]; exact_mod_cast rfl
  rw [e, e2, Int.fdiv_eq_ediv_of_nonneg _ (by rw [hp]; exact Int.natCast_nonneg _)]
theorem xor1i (P : Program) (t : Nat) (c : Bool) {a : Int} (h0 : 0 ≤ a) (h1 : a < 16) : bin P .xor t c (I6 a) (.int .i64 1) = some (I6 (x1F a)) := by
  have h : a = 0 ∨ a = 1 ∨ a = 2 ∨ a = 3 ∨ a = 4 ∨ a = 5 ∨ a = 6 ∨ a = 7 ∨ a = 8 ∨ a = 9 ∨ a = 10 ∨ a = 11 ∨ a = 12 ∨ a = 13 ∨ a = 14 ∨ a = 15 := by omega
  rcases h with rfl | rfl | rfl | rfl | rfl | rfl | rfl | rfl | rfl | rfl | rfl | rfl | rfl | rfl | rfl | rfl <;> (clear h0 h1; show _ = _; kernel_rfl)
theorem finL_two {x y : AV} {H : AHeap} (hx : belowB 0 x = true) (hy : belowB 0 y = true) {m : Option AV} (hm : m = some x) : finL [m, some y] 0 H = some (.ret, [.tup [x, y]], []) := by
  subst hm
  have : belowB 0 (.tup [x, y]) = true := by simp [belowB, belowL, hx, hy]
  unfold finL
  exact finV_two hx hy H
/-- Is a word an instruction of a kind? -/
def asB (op w : Int) : Bool := rightB (asF op w) && decide (wordF (asF op w) = w)
end Go.Proofs.YtdfglgnflldkpaaDoor.Mir
namespace Go.Proofs.YtdfglgnflldkpaaDoor.Mir
open Go
set_option linter.unusedVariables false
set_option linter.unusedSimpArgs false
set_option maxHeartbeats 8000000
set_option maxRecDepth 20000
/-- One that is found: not a shift up by none. -/
def okB (op w : Int) : Bool := asB op w && (decide (op ≠ 12) || decide ((asF op w).imm ≠ 0))
def findF : Nat → Int → Int → Option MI
  | 0, _, _ => none
  | d + 1, op, w => if okB op w = true then some (asF op w) else findF d (op + 1) w
/-- A word's instruction. -/
def ofF (w : Int) : Option MI := findF 24 1 w
def ofV (q : Option MI) : AV := match q with
  | some i => .tup [i.v, .bool true]
  | none => .tup [mV 0 0 0 0 0 0, .bool false]
def ofStep (q : Option MI) (w : Int) (T : AHeap) : Outc := match q with
  | some i => (.ret, [W32 w, .ptr 0 1 0 0, .bool true, I6 i.op], ⟨57, 6, [i.v]⟩ :: T)
  | none => (.exit 0, [W32 w, .ptr 0 1 0 0, .bool false, I6 25], ⟨57, 6, [mV 0 0 0 0 0 0]⟩ :: T)
end Go.Proofs.YtdfglgnflldkpaaDoor.Mir
namespace Go.Proofs.YtdfglgnflldkpaaDoor.Mir
open Go
set_option linter.unusedVariables false
set_option linter.unusedSimpArgs false
set_option maxHeartbeats 8000000
set_option maxRecDepth 20000
theorem right24 {i : MI} (h : rightB i = true) : 1 ≤ i.op ∧ i.op ≤ 24 := by
  unfold rightB at h
  rw [Bool.and_eq_true] at h
  exact of_decide_eq_true h.1
/-- The kind of a word. -/
def cls (w : Int) : Int :=
  if w < 402653184 then 20 else if w < 1426063360 then 21 else if w < 2317352960 then 5 else if w < 2334130176 then 3 else if w < 2436890624 then 10
  else if w < 2474639360 then 14 else if w < 2594177024 then (if w / 1024 % 4 = 1 then 17 else 16) else if w < 2602565632 then 8 else if w < 2615148544 then 9
  else if w < 2854223872 then 6 else if w < 3036676096 then 22 else if w < 3053453312 then 23 else if w < 3391094784 then 7 else if w < 3407872000 then 4
  else if w < 3510632448 then 11 else if w < 3539992576 then 1 else if w < 3548381184 then (if w / 1024 % 64 = 63 then 13 else 12) else if w < 3563061248 then 24
  else if w < 3944742912 then 15 else if w < 4076863488 then 2 else if w < 4181721088 then 19 else 18
theorem word_all {i : MI} (h : rightB i = true) : 0 ≤ wordF i ∧ wordF i < 4294967296 ∧ asF i.op (wordF i) = i ∧ cls (wordF i) = (if i.op = 12 ∧ i.imm = 0 then 13 else i.op) := by
  have h24 := right24 h
  obtain ⟨op, d, n, m, a, imm⟩ := i
  unfold rightB at h
  rw [Bool.and_eq_true] at h
  obtain ⟨_, h⟩ := h
  simp only at h24
  obtain ⟨w, hw⟩ : ∃ w, w = wordF ⟨op, d, n, m, a, imm⟩ := ⟨_, rfl⟩
  rw [← hw]
  rcases op24 h24 with rfl | rfl | rfl | rfl | rfl | rfl | rfl | rfl | rfl | rfl | rfl | rfl | rfl | rfl | rfl | rfl | rfl | rfl | rfl | rfl | rfl | rfl | rfl | rfl
  all_goals (
    simp [formF, fairB, regB, extraB, immB, halfI, stackB] at h
    have hw2 := hw
    simp [wordF, formF, wNum] at hw2
    clear hw
    refine ⟨by omega, by omega, ?_, ?_⟩
    · simp [asF, formF, exA, exI, sgnF, x1F]
      first | omega | (refine ⟨?_, ?_, ?_, ?_⟩ <;> omega)
    · unfold cls
      simp (disch := omega) only [if_pos, if_neg]
      first | done | omega | (by_cases hi : imm = 0 <;> simp [hi] <;> omega))
theorem asB_iff {op w : Int} : asB op w = true ↔ rightB (asF op w) = true ∧ wordF (asF op w) = w := by
  unfold asB; simp
theorem okB_iff {op w : Int} : okB op w = true ↔ (rightB (asF op w) = true ∧ wordF (asF op w) = w) ∧ ¬ (op = 12 ∧ (asF op w).imm = 0) := by
  unfold okB
  rw [Bool.and_eq_true, asB_iff]
  simp
  intro _ _
  constructor
  · rintro (h | h)
    · intro h2; exact absurd h2 h
    · intro _; exact h
  · intro h
    by_cases h2 : op = 12
    · exact .inr (h h2)
    · exact .inl h2
theorem okB_cls {op w : Int} (h : okB op w = true) : cls w = op := by
  obtain ⟨⟨h1, h2⟩, h3⟩ := okB_iff.1 h
  have := (word_all h1).2.2.2
  rw [h2] at this
  have h3' : ¬ ((asF op w).op = 12 ∧ (asF op w).imm = 0) := h3
  rw [this, if_neg h3']
  rfl
theorem find_none : ∀ {d : Nat} {op w : Int}, findF d op w = none → ∀ o : Int, op ≤ o → o < op + d → okB o w = false
  | 0, op, w, _, o, h1, h2 => by omega
  | d + 1, op, w, h, o, h1, h2 => by
    unfold findF at h
    by_cases hk : okB op w = true
    · rw [if_pos hk] at h; cases h
    · rw [if_neg hk] at h
      by_cases ho : o = op
      · subst ho; simpa using hk
      · exact find_none h o (by omega) (by omega)
theorem find_some : ∀ {d : Nat} {op w : Int} {i : MI}, findF d op w = some i → ∃ o, okB o w = true ∧ i = asF o w ∧ op ≤ o ∧ o < op + d
  | 0, op, w, i, h => by cases h
  | d + 1, op, w, i, h => by
    unfold findF at h
    by_cases hk : okB op w = true
    · rw [if_pos hk] at h
      simp at h
      exact ⟨op, hk, h.symm, by omega, by omega⟩
    · rw [if_neg hk] at h
      obtain ⟨o, h1, h2, h3, h4⟩ := find_some h
      exact ⟨o, h1, h2, by omega, by omega⟩
/-- What is found. -/
theorem of_some {w : Int} {i : MI} (h : ofF w = some i) : rightB i = true ∧ wordF i = w ∧ ¬ (i.op = 12 ∧ i.imm = 0) := by
  obtain ⟨o, h1, rfl, _, _⟩ := find_some h
  obtain ⟨⟨h2, h3⟩, h4⟩ := okB_iff.1 h1
  exact ⟨h2, h3, h4⟩
/-- An instruction is found by its word. -/
theorem of_word {i : MI} (h : rightB i = true) (hs : ¬ (i.op = 12 ∧ i.imm = 0)) : ofF (wordF i) = some i := by
  obtain ⟨w0, w1, w2, w3⟩ := word_all h
  rw [if_neg hs] at w3
  have h24 := right24 h
  have hk : okB i.op (wordF i) = true := by
    rw [okB_iff, w2]
    exact ⟨⟨h, rfl⟩, hs⟩
  cases hq : ofF (wordF i) with
  | none =>
    have := find_none hq i.op h24.1 (by omega)
    rw [hk] at this; cases this
  | some j =>
    obtain ⟨o, h1, rfl, _, _⟩ := find_some hq
    have := okB_cls h1
    rw [w3] at this
    rw [← this, w2]
theorem of_iff {w : Int} {i : MI} : ofF w = some i ↔ rightB i = true ∧ wordF i = w ∧ ¬ (i.op = 12 ∧ i.imm = 0) := by
  constructor
  · exact of_some
  · rintro ⟨h1, rfl, h3⟩; exact of_word h1 h3
end Go.Proofs.YtdfglgnflldkpaaDoor.Mir
namespace Go.Proofs.YtdfglgnflldkpaaDoor.Mir
open Go
set_option linter.unusedVariables false
set_option linter.unusedSimpArgs false
set_option maxHeartbeats 8000000
set_option maxRecDepth 20000
theorem ofInt_u64 (a : Nat) (h : a < 18446744073709551616) : (BitVec.ofInt 64 (a : Int)).toNat = a := by
  rw [BitVec.toNat_ofInt]
  omega
theorem u64_and (a b : Nat) (ha : a < 18446744073709551616) (hb : b < 18446744073709551616) : bits .and .u64 (a : Int) (b : Int) = ((a &&& b : Nat) : Int) := by
  have hx : a &&& b ≤ a := Nat.and_le_left
  show IntKind.u64.wrap ((BitVec.ofInt 64 (a : Int) &&& BitVec.ofInt 64 (b : Int)).toNat : Int) = _
  rw [BitVec.toNat_and, ofInt_u64 a ha, ofInt_u64 b hb, wrap_of_u64 (by omega) (by omega)]
theorem u64_or (a b : Nat) (ha : a < 18446744073709551616) (hb : b < 18446744073709551616) : bits .or .u64 (a : Int) (b : Int) = ((a ||| b : Nat) : Int) := by
  have hx : a ||| b < 2 ^ 64 := Nat.or_lt_two_pow (by omega) (by omega)
  show IntKind.u64.wrap ((BitVec.ofInt 64 (a : Int) ||| BitVec.ofInt 64 (b : Int)).toNat : Int) = _
  rw [BitVec.toNat_or, ofInt_u64 a ha, ofInt_u64 b hb, wrap_of_u64 (by omega) (by omega)]
theorem u64_xor (a b : Nat) (ha : a < 18446744073709551616) (hb : b < 18446744073709551616) : bits .xor .u64 (a : Int) (b : Int) = ((a ^^^ b : Nat) : Int) := by
  have hx : a ^^^ b < 2 ^ 64 := Nat.xor_lt_two_pow (by omega) (by omega)
  show IntKind.u64.wrap ((BitVec.ofInt 64 (a : Int) ^^^ BitVec.ofInt 64 (b : Int)).toNat : Int) = _
  rw [BitVec.toNat_xor, ofInt_u64 a ha, ofInt_u64 b hb, wrap_of_u64 (by omega) (by omega)]
theorem wrap_u64_nat (n : Nat) : IntKind.u64.wrap (n : Int) = ((n % 18446744073709551616 : Nat) : Int) := by rw [wrap_u64_eq]; rfl
theorem u64_add (P : Program) (t : Nat) (c : Bool) (a b : Nat) : bin P .add t c (Un a) (Un b) = some (Un ((a + b) % 18446744073709551616)) := by
  rw [bin_add, ← Int.natCast_add, wrap_u64_nat]
theorem u64_mul (P : Program) (t : Nat) (c : Bool) (a b : Nat) : bin P .mul t c (Un a) (Un b) = some (Un (a * b % 18446744073709551616)) := by
  rw [bin_mul, ← Int.natCast_mul, wrap_u64_nat]
theorem u64_sub (P : Program) (t : Nat) (c : Bool) (a b : Nat) (hb : b < 18446744073709551616) : bin P .sub t c (Un a) (Un b) = some (Un ((a + 18446744073709551616 - b) % 18446744073709551616)) := by
  rw [bin_sub, wrap_u64_eq]; congr 2; omega
theorem u64_shr (P : Program) (t : Nat) (c : Bool) (k : IntKind) (a n : Nat) (h : n ≤ 64) : bin P .shr t c (Un a) (.int k (n : Int)) = some (Un (a / 2 ^ n)) := by
  rw [bin_shr _ _ _ _ _ _ _ (Int.natCast_nonneg n)]
  have e : min ((n : Int)).toNat IntKind.u64.bits = n := by rw [Int.toNat_natCast]; exact Nat.min_eq_left h
  rw [e, fdiv_pow_nat]
theorem u64_shl (P : Program) (t : Nat) (c : Bool) (k : IntKind) (a n : Nat) (h : n ≤ 64) : bin P .shl t c (Un a) (.int k (n : Int)) = some (Un (a * 2 ^ n % 18446744073709551616)) := by
  rw [bin_shl _ _ _ _ _ _ _ (Int.natCast_nonneg n)]
  have e : min ((n : Int)).toNat IntKind.u64.bits = n := by rw [Int.toNat_natCast]; exact Nat.min_eq_left h
  have e2 : ((a : Int) * 2 ^ n : Int) = ((a * 2 ^ n : Nat) : Int) := by push_cast; rfl
  rw [e, e2, wrap_u64_nat]
/-- A word with its sign. -/
def s64 (a : Nat) : Int := if a ≥ 9223372036854775808 then (a : Int) - 18446744073709551616 else (a : Int)
/-- A number as a word. -/
def u64 (n : Int) : Nat := (n % 18446744073709551616).toNat
theorem u64_lt (n : Int) : u64 n < 18446744073709551616 := by unfold u64; omega
theorem conv_i64 (a : Nat) (h : a < 18446744073709551616) : convInt .i64 (Un a) = some (I6 (s64 a)) := by
  rw [convInt_int, wrap_i64_eq]; unfold s64; congr 2; split <;> split <;> omega
theorem conv_u64 (k : IntKind) (n : Int) : convInt .u64 (.int k n) = some (Un (u64 n)) := by
  rw [convInt_int, wrap_u64_eq]; unfold u64; congr 2; omega
theorem u64_s64 (a : Nat) (h : a < 18446744073709551616) : u64 (s64 a) = a := by unfold u64 s64; split <;> omega
theorem mul_low (x0 x1 y0 y1 : Nat) (hx0 : x0 < 4294967296) (hx1 : x1 < 4294967296) (hy0 : y0 < 4294967296) (hy1 : y1 < 4294967296) :
    x0 * y0 ≤ 18446744065119617025 ∧ x1 * y0 ≤ 18446744065119617025 ∧ x0 * y1 ≤ 18446744065119617025 ∧ x1 * y1 ≤ 18446744065119617025 ∧
    (x1 * 4294967296 + x0) * (y1 * 4294967296 + y0) = x1 * y1 * 18446744073709551616 + (x1 * y0 + x0 * y1) * 4294967296 + x0 * y0 := by
  have b : ∀ p q : Nat, p < 4294967296 → q < 4294967296 → p * q ≤ 18446744065119617025 := fun p q hp hq => by
    have := Nat.mul_le_mul (show p ≤ 4294967295 by omega) (show q ≤ 4294967295 by omega)
    omega
  refine ⟨b _ _ hx0 hy0, b _ _ hx1 hy0, b _ _ hx0 hy1, b _ _ hx1 hy1, ?_⟩
  simp only [Nat.add_mul, Nat.mul_add]
  have e1 : x1 * 4294967296 * (y1 * 4294967296) = x1 * y1 * 18446744073709551616 := by
    rw [Nat.mul_mul_mul_comm]
  have e2 : x1 * 4294967296 * y0 = x1 * y0 * 4294967296 := by rw [Nat.mul_right_comm]
  have e3 : x0 * (y1 * 4294967296) = x0 * y1 * 4294967296 := by rw [Nat.mul_assoc]
  rw [e1, e2, e3]; omega
theorem mask32 (n : Nat) : n &&& 4294967295 = n % 4294967296 := Nat.and_two_pow_sub_one_eq_mod n 32
theorem mul64_spec (G : Globs) (k : Nat) (a b : Nat) (ha : a < 18446744073709551616) (hb : b < 18446744073709551616) :
    math_bits_Mul64.f G (k + 1) [Un a, Un b] [] = some (.tup [Un (a * b / 18446744073709551616), Un (a * b % 18446744073709551616)], []) := by
  rw [math_bits_Mul64.step]
  unfold math_bits_Mul64.c
  have and32 : ∀ n : Nat, n < 18446744073709551616 → bin Tryd.prog .and 43 true (Un n) (.int .u64 4294967295) = some (Un (n % 4294967296)) := fun n hn => by
    rw [bin_and]; have := u64_and n 4294967295 hn (by omega); rw [mask32] at this; exact congrArg (fun z => some (AV.int .u64 z)) this
  have shr32 : ∀ n : Nat, bin Tryd.prog .shr 43 true (Un n) (.int .u64 32) = some (Un (n / 4294967296)) := fun n => u64_shr Tryd.prog 43 true .u64 n 32 (by omega)
  obtain ⟨x0, hx0⟩ : ∃ z, z = a % 4294967296 := ⟨_, rfl⟩
  obtain ⟨x1, hx1⟩ : ∃ z, z = a / 4294967296 := ⟨_, rfl⟩
  obtain ⟨y0, hy0⟩ : ∃ z, z = b % 4294967296 := ⟨_, rfl⟩
  obtain ⟨y1, hy1⟩ : ∃ z, z = b / 4294967296 := ⟨_, rfl⟩
  have c0 := and32 a ha
  have c1 := shr32 a
  have c2 := and32 b hb
  have c3 := shr32 b
  rw [← hx0] at c0
  rw [← hx1] at c1
  rw [← hy0] at c2
  rw [← hy1] at c3
  obtain ⟨b1, b2, b3, b4, hm⟩ := mul_low x0 x1 y0 y1 (by omega) (by omega) (by omega) (by omega)
  have hab : a * b = x1 * y1 * 18446744073709551616 + (x1 * y0 + x0 * y1) * 4294967296 + x0 * y0 := by
    rw [← hm]; congr 1 <;> omega
  have m : ∀ p q : Nat, p * q ≤ 18446744065119617025 → bin Tryd.prog .mul 43 false (Un p) (Un q) = some (Un (p * q)) := fun p q h => by rw [u64_mul, Nat.mod_eq_of_lt (by omega)]
  have ad : ∀ p q : Nat, p + q < 18446744073709551616 → bin Tryd.prog .add 43 false (Un p) (Un q) = some (Un (p + q)) := fun p q h => by rw [u64_add, Nat.mod_eq_of_lt h]
  have c4 := m x0 y0 b1
  have c5 := m x1 y0 b2
  have c10 := m x0 y1 b3
  have c12 := m x1 y1 b4
  have c16 := u64_mul Tryd.prog 43 false a b
  rw [hab] at c16 ⊢
  generalize x0 * y0 = A at *
  generalize x1 * y0 = B at *
  generalize x0 * y1 = C at *
  generalize x1 * y1 = D at *
  have c6 := shr32 A
  have c7 := ad B (A / 4294967296) (by omega)
  obtain ⟨E, hE⟩ : ∃ z, z = B + A / 4294967296 := ⟨_, rfl⟩
  rw [← hE] at c7
  have c8 := and32 E (by omega)
  have c9 := shr32 E
  have c11 := ad (E % 4294967296) C (by omega)
  obtain ⟨F, hF⟩ : ∃ z, z = E % 4294967296 + C := ⟨_, rfl⟩
  rw [← hF] at c11
  have c13 := ad D (E / 4294967296) (by omega)
  have c14 := shr32 F
  have c15 := ad (D + E / 4294967296) (F / 4294967296) (by omega)
  have r1 : (D * 18446744073709551616 + (B + C) * 4294967296 + A) / 18446744073709551616 = D + E / 4294967296 + F / 4294967296 := by omega
  rw [r1]
  generalize (D * 18446744073709551616 + (B + C) * 4294967296 + A) % 18446744073709551616 = Z at *
  generalize D + E / 4294967296 + F / 4294967296 = Y at *
  generalize D + E / 4294967296 = X at *
  generalize F / 4294967296 = X2 at *
  generalize E / 4294967296 = X3 at *
  generalize E % 4294967296 = X4 at *
  generalize A / 4294967296 = X5 at *
  clear hE hF hab hm
  repeat first
    | refine oB (by first | (simp only [pu_val, nth_zero, nth_succ, gd_tt, gd_ff, gd_tf, gd_ft, gd_no, pickA_true, pickA_false, un_not, c0, c1, c2, c3, c4, c5, c6, c7, c8, c9, c10, c11, c12, c13, c14, c15, c16]; first | done | (with_reducible exact rfl) | (with_reducible exact ⟨rfl, rfl⟩)) | (with_reducible exact rfl)) ?_
    | refine lB (by first | (simp only [pu_val, nth_zero, nth_succ, gd_tt, gd_ff, gd_tf, gd_ft, gd_no, pickA_true, pickA_false, un_not, c0, c1, c2, c3, c4, c5, c6, c7, c8, c9, c10, c11, c12, c13, c14, c15, c16]; first | done | (with_reducible exact rfl) | (with_reducible exact ⟨rfl, rfl⟩)) | (with_reducible exact rfl)) ?_
    | refine oT ?_
    | refine oN ?_
    | refine oX ?_
    | refine oXn ?_
    | refine oXr ?_
    | exact oF (finV_bool ..)
    | apply oK
    | refine lT ?_
    | refine lN ?_
    | refine lX ?_
    | refine lXn ?_
    | refine lXr ?_
    | apply lK
    | refine oI ?_
    | refine oJ rfl ?_
    | refine lI ?_
    | refine lJ rfl ?_
    | (with_reducible exact rfl)
  exact oF (finV_two rfl rfl _)
/-- The sign's shift. -/
def sarF (a n : Nat) : Nat := u64 ((s64 a).fdiv (2 ^ n))
/-- Sixteen bits put into a word. -/
def movkF (d k s : Nat) : Nat := u64 (bits .or .u64 (bits .andNot .u64 d ((65535 * 2 ^ s % 18446744073709551616 : Nat) : Int)) ((k * 2 ^ s % 18446744073709551616 : Nat) : Int))
/-- What an instruction makes of numbers. -/
def madeF (op a imm : Int) (d n m x : Nat) (h : Bool) : Nat :=
  if op = 1 then u64 imm * 2 ^ (16 * a).toNat % 18446744073709551616
  else if op = 2 then movkF d (u64 imm) (16 * a).toNat
  else if op = 3 then (n + m) % 18446744073709551616
  else if op = 4 then (n + 18446744073709551616 - m) % 18446744073709551616
  else if op = 5 then n &&& m
  else if op = 6 then n ||| m
  else if op = 7 then n ^^^ m
  else if op = 8 then (n * m % 18446744073709551616 + x) % 18446744073709551616
  else if op = 9 then n * m / 18446744073709551616
  else if op = 10 then (n + u64 imm) % 18446744073709551616
  else if op = 11 then (n + 18446744073709551616 - u64 imm) % 18446744073709551616
  else if op = 12 then n * 2 ^ (u64 imm) % 18446744073709551616
  else if op = 13 then n / 2 ^ (u64 imm)
  else if op = 14 then sarF n (u64 imm)
  else if op = 16 then (if h = true then n else m)
  else (if h = true then 1 else 0)
/-- What stands at A and the number, of one that may be. -/
def fits (op a imm : Int) : Prop := (op = 1 ∨ op = 2 → 0 ≤ a ∧ a ≤ 3) ∧ (12 ≤ op → op ≤ 14 → 0 ≤ imm ∧ imm ≤ 63)
/-! ### Registers and flags -/
def natsU (l : List Nat) : List AV := l.map fun n => Un n
theorem natsU_len (l : List Nat) : (natsU l).length = l.length := by simp [natsU]
theorem natsU_below (n : Nat) (l : List Nat) : belowL n (natsU l) = true := belowL_map n _ (fun _ => rfl) l
theorem plainU (l : List Nat) : plainL (natsU l) = true := plainL_map _ (fun _ => rfl) l
theorem cleanU (l : List Nat) : cleanL (natsU l) = true := cleanL_map _ (fun _ => rfl) l
theorem natsU_get (l : List Nat) (j : Nat) (h : j < l.length) : (natsU l)[j]? = some (Un (l.getD j 0)) := by
  simp [natsU, List.getD, List.getElem?_eq_getElem h]
theorem natsU_set (l : List Nat) (j x : Nat) : natsU (l.set j x) = (natsU l).set j (Un x) := by simp [natsU, List.map_set]
abbrev rgV (l : List Nat) : AV := .agg (natsU l)
structure FL where
  n : Bool
  z : Bool
  c : Bool
  v : Bool
def FL.a (f : FL) : AV := .agg [.bool f.n, .bool f.z, .bool f.c, .bool f.v]
def f00 : FL := ⟨false, false, false, false⟩
def getF (r : List Nat) (j : Int) : Nat := if j = 31 then 0 else r.getD j.toNat 0
def setF (r : List Nat) (j : Int) (x : Nat) : List Nat := if j = 31 then r else r.set j.toNat x
def holdsF (c : Int) (f : FL) : Bool :=
  if c = 0 then f.z else if c = 1 then !f.z else if c = 2 then f.c else if c = 3 then !f.c else if c = 8 then f.c && !f.z else if c = 9 then !f.c || f.z else false
def lessX (a b x : Nat) : FL := ⟨decide (x / 2 ^ 63 = 1), decide (x = 0), decide (b ≤ a), decide (((a ^^^ b) &&& (a ^^^ x)) / 2 ^ 63 = 1)⟩
def lessF (a b : Nat) : FL := lessX a b ((a + 18446744073709551616 - b) % 18446744073709551616)
end Go.Proofs.YtdfglgnflldkpaaDoor.Mir
namespace Go.Proofs.YtdfglgnflldkpaaDoor.Mir
open Go
set_option linter.unusedVariables false
set_option linter.unusedSimpArgs false
set_option maxHeartbeats 8000000
set_option maxRecDepth 20000
theorem finV_three {x y z : AV} (hx : belowB 0 x = true) (hy : belowB 0 y = true) (hz : belowB 0 z = true) (H : AHeap) : finV [x, y, z] 0 H = some (.ret, [.tup [x, y, z]], []) := by
  have : belowB 0 (.tup [x, y, z]) = true := by simp [belowB, belowL, hx, hy, hz]
  simp [finV, packR, frz_low this, cutH_zero]
section
variable (G : Globs) (k : Nat)
/-- What an instruction does, of one that makes something. -/
def doesF (i : MI) (r : List Nat) (f : FL) : List Nat × FL :=
  if i.op = 15 then (r, lessF (getF r i.n) (getF r i.m))
  else if i.op = 16 ∨ i.op = 17 then (setF r i.d (madeF i.op i.a i.imm (getF r i.d) (getF r i.n) (getF r i.m) 0 (holdsF i.a f)), f)
  else if i.op = 8 then (setF r i.d (madeF i.op i.a i.imm (getF r i.d) (getF r i.n) (getF r i.m) (getF r i.a) false), f)
  else (setF r i.d (madeF i.op i.a i.imm (getF r i.d) (getF r i.n) (getF r i.m) 0 false), f)
/-- What an instruction that may be is like. -/
structure MI.Ok (i : MI) : Prop where
  d : 0 ≤ i.d ∧ i.d ≤ 31
  n : 0 ≤ i.n ∧ i.n ≤ 31
  m : 0 ≤ i.m ∧ i.m ≤ 31
  a : 0 ≤ i.a ∧ i.a ≤ 31
  fits : fits i.op i.a i.imm
structure RgOk (r : List Nat) : Prop where
  len : r.length = 31
  lt : ∀ x ∈ r, x < 18446744073709551616
theorem RgOk.get {r : List Nat} (h : RgOk r) (j : Int) : getF r j < 18446744073709551616 := by
  unfold getF
  split
  · decide
  · rw [List.getD_eq_getElem?_getD]
    cases hq : r[j.toNat]? with
    | none => decide
    | some x => exact h.lt x (List.mem_of_getElem? hq)
theorem right_ok {i : MI} (h : rightB i = true) : (1 ≤ i.op ∧ i.op ≤ 24) ∧ i.Ok := by
  obtain ⟨op, d, n, m, a, imm⟩ := i
  unfold rightB at h
  rw [Bool.and_eq_true] at h
  have h24 : 1 ≤ op ∧ op ≤ 24 := of_decide_eq_true h.1
  refine ⟨h24, ?_⟩
  obtain ⟨_, h⟩ := h
  rcases op24 h24 with rfl | rfl | rfl | rfl | rfl | rfl | rfl | rfl | rfl | rfl | rfl | rfl | rfl | rfl | rfl | rfl | rfl | rfl | rfl | rfl | rfl | rfl | rfl | rfl
  all_goals (
    simp [formF, fairB, regB, extraB, immB, halfI, stackB] at h
    constructor <;> simp [fits] <;> omega)
/-- An instruction, alone. -/
def oneF (i : MI) (r : List Nat) (f : FL) : List Nat × FL × Bool :=
  if rightB i = true ∧ i.op ≤ 17 then ((doesF i r f).1, (doesF i r f).2, true) else (List.replicate 31 0, f00, false)
abbrev oneV (q : List Nat × FL × Bool) : AV := .tup [rgV q.1, q.2.1.a, .bool q.2.2]
theorem ldRg {j : Nat} {H : AHeap} {r : List Nat} (hr : r.length = 31) (e : H[j]? = some ⟨44, 31, [rgV r]⟩) : loadV G true 31 (.ptr j 1 0 0) H = some (rgV r) := by
  unfold loadV
  simp only [e, List.length_singleton, if_true, List.getElem?_cons_zero, AV.cells, loadC]
  show (if 0 + 31 ≤ (natsU r).length then some (AV.agg (List.take 31 (List.drop 0 (natsU r)))) else none) = _
  rw [if_pos (by rw [natsU_len, hr]; omega), List.drop_zero, List.take_of_length_le (by rw [natsU_len, hr]; omega)]
theorem setF_ok {r : List Nat} (h : RgOk r) (j : Int) (x : Nat) (hx : x < 18446744073709551616) : RgOk (setF r j x) := by
  unfold setF
  split
  · exact h
  · refine ⟨by simp [h.len], fun y hy => ?_⟩
    rcases List.mem_or_eq_of_mem_set hy with h1 | rfl
    · exact h.lt y h1
    · exact hx
theorem madeF_lt (op a imm : Int) (d n m x : Nat) (h : Bool) (hd : d < 18446744073709551616) (hn : n < 18446744073709551616) (hm : m < 18446744073709551616) : madeF op a imm d n m x h < 18446744073709551616 := by
  have hM : ∀ n : Nat, n % 18446744073709551616 < 18446744073709551616 := fun n => Nat.mod_lt _ (by decide)
  unfold madeF
  by_cases e1 : op = 1
  · rw [if_pos e1]; exact hM _
  rw [if_neg e1]
  by_cases e2 : op = 2
  · rw [if_pos e2]; exact u64_lt _
  rw [if_neg e2]
  by_cases e3 : op = 3
  · rw [if_pos e3]; exact hM _
  rw [if_neg e3]
  by_cases e4 : op = 4
  · rw [if_pos e4]; exact hM _
  rw [if_neg e4]
  by_cases e5 : op = 5
  · rw [if_pos e5]; exact Nat.lt_of_le_of_lt Nat.and_le_left hn
  rw [if_neg e5]
  by_cases e6 : op = 6
  · rw [if_pos e6]; exact Nat.or_lt_two_pow (n := 64) hn hm
  rw [if_neg e6]
  by_cases e7 : op = 7
  · rw [if_pos e7]; exact Nat.xor_lt_two_pow (n := 64) hn hm
  rw [if_neg e7]
  by_cases e8 : op = 8
  · rw [if_pos e8]; exact hM _
  rw [if_neg e8]
  by_cases e9 : op = 9
  · rw [if_pos e9]; exact Nat.div_lt_of_lt_mul (Nat.mul_lt_mul'' hn hm)
  rw [if_neg e9]
  by_cases e10 : op = 10
  · rw [if_pos e10]; exact hM _
  rw [if_neg e10]
  by_cases e11 : op = 11
  · rw [if_pos e11]; exact hM _
  rw [if_neg e11]
  by_cases e12 : op = 12
  · rw [if_pos e12]; exact hM _
  rw [if_neg e12]
  by_cases e13 : op = 13
  · rw [if_pos e13]; exact Nat.lt_of_le_of_lt (Nat.div_le_self _ _) hn
  rw [if_neg e13]
  by_cases e14 : op = 14
  · rw [if_pos e14]; exact u64_lt _
  rw [if_neg e14]
  by_cases e16 : op = 16
  · rw [if_pos e16]; cases h
    · exact hm
    · exact hn
  rw [if_neg e16]; cases h <;> decide
theorem doesF_ok (i : MI) {r : List Nat} (h : RgOk r) (f : FL) : RgOk (doesF i r f).1 := by
  have m := fun x hh => madeF_lt i.op i.a i.imm (getF r i.d) (getF r i.n) (getF r i.m) x hh (h.get _) (h.get _) (h.get _)
  unfold doesF
  split
  · exact h
  · split
    · exact setF_ok h _ _ (m _ _)
    · split
      · exact setF_ok h _ _ (m _ _)
      · exact setF_ok h _ _ (m _ _)
end
end Go.Proofs.YtdfglgnflldkpaaDoor.Mir
namespace Go.Proofs.YtdfglgnflldkpaaDoor.Mir
open Go
set_option linter.unusedVariables false
set_option linter.unusedSimpArgs false
set_option maxHeartbeats 8000000
set_option maxRecDepth 20000
instance : Inhabited MI := ⟨⟨0, 0, 0, 0, 0, 0⟩⟩
def leakV (p : Int × Int) : AV := .agg [I6 p.1, I6 p.2]
def leaksV (l : List (Int × Int)) : List AV := l.map leakV
def instsV (cs : List MI) : List AV := cs.map MI.v
theorem leaksV_len (l : List (Int × Int)) : (leaksV l).length = l.length := by simp [leaksV]
theorem instsV_len (l : List MI) : (instsV l).length = l.length := by simp [instsV]
theorem leaksV_below (n : Nat) (l : List (Int × Int)) : belowL n (leaksV l) = true := belowL_map n _ (fun _ => rfl) l
theorem instsV_below (n : Nat) (l : List MI) : belowL n (instsV l) = true := belowL_map n _ (fun _ => rfl) l
/-- The machine: what it holds. -/
structure QS where
  code : Int
  mem : List Nat
  regs : List Nat
  leaks : List (Int × Int)
  steps : Nat
  flags : FL
  at_ : Int
def QS.leak (s : QS) (kind at_ : Int) : QS := { s with leaks := s.leaks ++ [(kind, at_)] }
def QS.goes (s : QS) (i : MI) : Bool := if i.op = 21 then holdsF i.a s.flags else if i.op = 22 then decide (getF s.regs i.d = 0) else decide (getF s.regs i.d ≠ 0)
def QS.addr (s : QS) (i : MI) : Nat := (getF s.regs i.n + 8 * u64 i.imm % 18446744073709551616) % 18446744073709551616
def QS.touch (s : QS) (i : MI) : QS × Bool :=
  let s1 := s.leak 3 (s64 (s.addr i))
  if s.addr i % 8 ≠ 0 ∨ s.mem.length ≤ s.addr i / 8 then ({ s1 with code := 3 }, false)
  else if i.op = 18 then ({ s1 with regs := setF s.regs i.d (s.mem.getD (s.addr i / 8) 0) }, true)
  else ({ s1 with mem := s.mem.set (s.addr i / 8) (getF s.regs i.d) }, true)
def QS.branch (s : QS) (i : MI) : QS :=
  if i.op = 20 then { s with at_ := s.at_ + (i.imm - 1) }
  else if s.goes i = true then { s.leak 2 1 with at_ := s.at_ + (i.imm - 1) }
  else s.leak 2 0
/-- An instruction, its place already behind; false: it ends. -/
def QS.act (s : QS) (i : MI) : QS × Bool :=
  if i.op = 18 ∨ i.op = 19 then s.touch i
  else if i.op = 20 ∨ i.op = 21 ∨ i.op = 22 ∨ i.op = 23 then (s.branch i, true)
  else if i.op = 24 then ({ s with code := if i.imm ≤ 2 then i.imm else 3 }, false)
  else ({ s with regs := (doesF i s.regs s.flags).1, flags := (doesF i s.regs s.flags).2 }, true)
def QS.next (s : QS) : QS := { s with at_ := s.at_ + 1 }
def QS.step (s : QS) (w : Int) : QS × Bool :=
  match ofF w with
  | none => ({ s with code := 3 }, false)
  | some i => s.next.act i
/-- The blocks of a run. -/
def QS.tail (n : Nat) (s : QS) : List AV := [.sl 6 s.leaks.length 0 s.leaks.length 2, Nn s.steps, .bool s.flags.n, .bool s.flags.z, .bool s.flags.c, .bool s.flags.v, I6 s.at_, .sl 1 n 0 n 6]
def QS.cells (n : Nat) (s : QS) : List AV := I6 s.code :: .sl 4 s.mem.length 0 s.mem.length 1 :: (natsU s.regs ++ s.tail n)
def hpQ (b0 : ABlk) (T : AHeap) (kn : List MI) (s : QS) : AHeap :=
  b0 :: ⟨57, 6, instsV kn⟩ :: ⟨123, 41, [.agg (s.cells kn.length)]⟩ :: ⟨43, 1, []⟩ :: ⟨43, 1, natsU s.mem⟩ :: ⟨107, 2, []⟩ :: ⟨107, 2, leaksV s.leaks⟩ :: T
section
variable (G : Globs) (b0 : ABlk) (T : AHeap) (kn : List MI) (s : QS)
variable (hr : s.regs.length = 31)
theorem cells_len (n : Nat) (hr : s.regs.length = 31) : (s.cells n).length = 41 := by
  simp [QS.cells, QS.tail, natsU_len, hr]
theorem stQ (o : Nat) (v : AV) (hv : storable v = true) (h1 : v.cells = [v]) (ho : o < 41) (hr : s.regs.length = 31) : stS (storeV 1 (.ptr 2 1 0 o) v (hpQ b0 T kn s)) =
    some (.tup [], (hpQ b0 T kn s).set 2 ⟨123, 41, [.agg (putC (s.cells kn.length) o [v])]⟩) := by
  have e : (hpQ b0 T kn s)[2]? = some ⟨123, 41, [.agg (s.cells kn.length)]⟩ := rfl
  have e2 : (AV.agg (s.cells kn.length)).cells = s.cells kn.length := rfl
  unfold storeV
  simp only [e, List.length_singleton, hv, List.getElem?_cons_zero, h1]
  rw [if_pos (by simp), e2, if_pos (by rw [cells_len _ _ hr]; omega)]
  rfl
theorem st0 (n : Int) (hr : s.regs.length = 31) : stS (storeV 1 (.ptr 2 1 0 0) (I6 n) (hpQ b0 T kn s)) = some (.tup [], hpQ b0 T kn { s with code := n }) := stQ b0 T kn s 0 (I6 n) rfl rfl (by decide) hr
end
end Go.Proofs.YtdfglgnflldkpaaDoor.Mir
namespace Go.Proofs.YtdfglgnflldkpaaDoor.Mir
open Go
set_option linter.unusedVariables false
set_option linter.unusedSimpArgs false
set_option maxHeartbeats 8000000
set_option maxRecDepth 20000
section
variable (G : Globs) (b0 : ABlk) (T : AHeap) (hb : belowL 7 b0.elems = true) (hT : ∀ n, 7 ≤ n → heapBelow n T = true) (kn : List MI) (s : QS)
end
/-- What a run needs. -/
structure QS.Ok (s : QS) : Prop where
  rg : RgOk s.regs
  mem : ∀ x ∈ s.mem, x < 18446744073709551616
  leaks : s.leaks.length ≤ 3 * s.steps
  big : s.mem.length ≤ 1000000
  few : s.steps ≤ 100000
section
variable (G : Globs) (b0 : ABlk) (T : AHeap) (hb : belowL 7 b0.elems = true) (hT : ∀ n, 7 ≤ n → heapBelow n T = true) (kn : List MI) (s : QS) (i : MI) (hr : RgOk s.regs) (hl : s.leaks.length ≤ 999990)
theorem bx (H : AHeap) : boxRoA i.v H = some (.rp false i.v 0, H) := rfl
theorem u64_rem8 (P : Program) (t : Nat) (c : Bool) (a : Nat) : bin P .rem t c (Un a) (.int .u64 8) = some (Un (a % 8)) := by
  rw [bin_rem _ _ _ _ _ _ (by decide), Int.tmod_eq_emod_of_nonneg (by omega)]; rfl
theorem u64_quo8 (P : Program) (t : Nat) (c : Bool) (a : Nat) (ha : a < 18446744073709551616) : bin P .quo t c (Un a) (.int .u64 8) = some (Un (a / 8)) := by
  rw [bin_quo _ _ _ _ _ _ (by decide), Int.tdiv_eq_ediv_of_nonneg (by omega), wrap_of_u64 (by omega) (by omega)]; rfl
end
end Go.Proofs.YtdfglgnflldkpaaDoor.Mir
namespace Go.Proofs.YtdfglgnflldkpaaDoor.Mir
open Go
set_option linter.unusedVariables false
set_option linter.unusedSimpArgs false
set_option maxHeartbeats 8000000
set_option maxRecDepth 20000
section
variable (G : Globs) (b0 : ABlk) (T : AHeap) (hb : belowL 7 b0.elems = true) (hT : ∀ n, 7 ≤ n → heapBelow n T = true) (kn : List MI) (s : QS) (i : MI) (hr : RgOk s.regs) (hl : s.leaks.length ≤ 999990)
end
/-- What was read is what stands there. -/
structure KN (cs : List Int) (kn : List MI) : Prop where
  len : kn.length = cs.length
  is : ∀ j, j < cs.length → (kn.getD j default).op = 0 ∨ ofF (cs.getD j 0) = some (kn.getD j default)
theorem imm_small {i : MI} (h : rightB i = true) : -100000000 ≤ i.imm ∧ i.imm ≤ 100000000 := by
  have h24 := right24 h
  obtain ⟨op, d, n, m, a, imm⟩ := i
  unfold rightB at h
  rw [Bool.and_eq_true] at h
  obtain ⟨_, h⟩ := h
  rcases op24 h24 with rfl | rfl | rfl | rfl | rfl | rfl | rfl | rfl | rfl | rfl | rfl | rfl | rfl | rfl | rfl | rfl | rfl | rfl | rfl | rfl | rfl | rfl | rfl | rfl
  all_goals (
    simp [formF, fairB, regB, extraB, immB, halfI, stackB] at h
    simp only
    omega)
section
variable (G : Globs) (b0 : ABlk) (kn : List MI) (s : QS) (i : MI)
abbrev TB (i : MI) : AHeap := [⟨57, 6, [i.v]⟩]
end
end Go.Proofs.YtdfglgnflldkpaaDoor.Mir
namespace Go.Proofs.YtdfglgnflldkpaaDoor.Mir
open Go
set_option linter.unusedVariables false
set_option linter.unusedSimpArgs false
set_option maxHeartbeats 8000000
set_option maxRecDepth 20000
theorem mem_set {l : List Nat} {j x : Nat} (h : ∀ y ∈ l, y < 18446744073709551616) (hx : x < 18446744073709551616) : ∀ y ∈ l.set j x, y < 18446744073709551616 := by
  intro y hy
  rcases List.mem_or_eq_of_mem_set hy with h1 | rfl
  · exact h y h1
  · exact hx
theorem QS.Ok.mg {s : QS} (h : s.Ok) (i : Nat) : s.mem.getD i 0 < 18446744073709551616 := by
  rw [List.getD_eq_getElem?_getD]
  cases hq : s.mem[i]? with
  | none => decide
  | some x => exact h.mem x (List.mem_of_getElem? hq)
/-- What a step leaves of what a run needs. -/
theorem QS.step_ok {s : QS} (h : s.Ok) (w : Int) (hl : s.leaks.length + 1 ≤ 3 * s.steps) : (s.step w).1.Ok ∧ (s.step w).1.steps = s.steps ∧ (s.step w).1.mem.length = s.mem.length := by
  have hl' : s.leaks.length ≤ 3 * s.steps := by omega
  unfold QS.step
  cases ofF w with
  | none => exact ⟨⟨h.rg, h.mem, hl', h.big, h.few⟩, rfl, rfl⟩
  | some i =>
    simp only
    unfold QS.act
    split
    · unfold QS.touch
      generalize s.next.addr i = ad
      simp only
      split
      · exact ⟨⟨h.rg, h.mem, by simpa [QS.leak, QS.next] using hl, h.big, h.few⟩, rfl, rfl⟩
      · split
        · exact ⟨⟨setF_ok h.rg _ _ (h.mg _), h.mem, by simpa [QS.leak, QS.next] using hl, h.big, h.few⟩, rfl, rfl⟩
        · exact ⟨⟨h.rg, mem_set h.mem (h.rg.get _), by simpa [QS.leak, QS.next] using hl, by simpa [QS.leak, QS.next] using h.big, h.few⟩, rfl, by simp [QS.leak, QS.next]⟩
    · split
      · unfold QS.branch
        split
        · exact ⟨⟨h.rg, h.mem, hl', h.big, h.few⟩, rfl, rfl⟩
        · split
          · exact ⟨⟨h.rg, h.mem, by simpa [QS.leak, QS.next] using hl, h.big, h.few⟩, rfl, rfl⟩
          · exact ⟨⟨h.rg, h.mem, by simpa [QS.leak, QS.next] using hl, h.big, h.few⟩, rfl, rfl⟩
      · split
        · exact ⟨⟨h.rg, h.mem, hl', h.big, h.few⟩, rfl, rfl⟩
        · exact ⟨⟨doesF_ok i h.rg s.flags, h.mem, hl', h.big, h.few⟩, rfl, rfl⟩
/-- The rounds of a run. -/
def QS.tick (s : QS) : QS := ({ s with steps := s.steps + 1 } : QS).leak 1 s.at_
def runQ (cs : List Int) (fuel : Int) : Nat → QS → Option QS
  | 0, _ => none
  | f + 1, s =>
    if s.at_ < 0 ∨ (cs.length : Int) ≤ s.at_ then some { s with code := 3 }
    else if (s.steps : Int) = fuel then some { s with code := 4 }
    else match s.tick.step (cs.getD s.at_.toNat 0) with
      | (s', true) => runQ cs fuel f s'
      | (s', false) => some s'
def codeW (cs : List Int) : List AV := cs.map W32
theorem codeW_len (cs : List Int) : (codeW cs).length = cs.length := by simp [codeW]
theorem codeW_below (n : Nat) (cs : List Int) : belowL n (codeW cs) = true := belowL_map n _ (fun _ => rfl) cs
/-- The result's cells. -/
def rsL (m l : AV) (s : QS) : List AV := I6 s.code :: m :: (natsU s.regs ++ [l, Nn s.steps])
theorem rsL_len (m l : AV) (s : QS) (hr : s.regs.length = 31) : (rsL m l s).length = 35 := by simp [rsL, natsU_len, hr]
def bR (T : Nat) (cs : List AV) : ABlk := ⟨T, 35, [.agg cs]⟩
def zR : List AV := I6 0 :: .nils :: (natsU (List.replicate 31 0) ++ [.sl 5 0 0 0 2, .int .i64 0])
section
variable (G : Globs)
theorem wAt (bor : Bool) (cs : List Int) (j : Int) (h0 : 0 ≤ j) (h : j < cs.length) : idxAddrSl 1 (.ro bor (codeW cs)) (I6 j) = some (.rp bor (W32 (cs.getD j.toNat 0)) 0) := by
  have e : (codeW cs)[j.toNat]? = some (W32 (cs.getD j.toNat 0)) := by
    have : j.toNat < cs.length := by omega
    simp [codeW, List.getElem?_map, List.getD, List.getElem?_eq_getElem this]
  unfold idxAddrSl
  simp only [e]
  rw [if_pos h0]
  rfl
end
def q0 (c : Int) (mem : List Nat) : QS := ⟨c, mem, List.replicate 31 0, [], 0, f00, 0⟩
theorem q0_ok (c : Int) (mem : List Nat) (hm : ∀ x ∈ mem, x < 18446744073709551616) (hl : mem.length ≤ 1000000) : (q0 c mem).Ok :=
  ⟨⟨by simp [q0], fun x hx => by simp [q0] at hx; omega⟩, hm, by simp [q0], hl, by simp [q0]⟩
theorem allSz_U (l : List Nat) : allSz 1 (natsU l) = true := allSz_map 1 _ (fun _ => rfl) l
theorem allSz_L (l : List (Int × Int)) : allSz 2 (leaksV l) = true := allSz_map 2 _ (fun _ => rfl) l
theorem cleanLk (l : List (Int × Int)) : cleanL (leaksV l) = true := cleanL_map _ (fun _ => rfl) l
/-- What a run gives. -/
def endQ (s : QS) : AV := .agg (rsL (.ro false (natsU s.mem)) (.ro false (leaksV s.leaks)) s)
theorem cleanL_app : ∀ xs ys : List AV, cleanL xs = true → cleanL ys = true → cleanL (xs ++ ys) = true
  | [], ys, _, h => h
  | x :: xs, ys, h1, h2 => by
    simp only [cleanL, Bool.and_eq_true] at h1
    simp [cleanL, h1.1, cleanL_app xs ys h1.2 h2]
theorem endQ_clean (s : QS) : cleanB (endQ s) = true := by
  simp [endQ, rsL, cleanB, cleanL, cleanU, cleanLk, cleanL_app]
theorem mapO_app {f : AV → Option AV} : ∀ {xs xs' ys ys' : List AV}, mapO f xs = some xs' → mapO f ys = some ys' → mapO f (xs ++ ys) = some (xs' ++ ys')
  | [], xs', ys, ys', h1, h2 => by simp [mapO] at h1; subst h1; exact h2
  | x :: xs, xs', ys, ys', h1, h2 => by
    simp only [mapO] at h1
    cases hx : f x with
    | none => simp [hx] at h1
    | some y =>
      cases hs : mapO f xs with
      | none => simp [hx, hs] at h1
      | some zs =>
        simp [hx, hs] at h1; subst h1
        simp only [List.cons_append, mapO, hx, mapO_app hs h2]
end Go.Proofs.YtdfglgnflldkpaaDoor.Mir
namespace Go.Proofs.YtdfglgnflldkpaaDoor.Mir
open Go
set_option linter.unusedVariables false
set_option linter.unusedSimpArgs false
set_option maxHeartbeats 8000000
set_option maxRecDepth 20000
theorem finL_one {x : AV} {H : AHeap} (hx : belowB 0 x = true) {m : Option AV} (hm : m = some x) : finL [m] 0 H = some (.ret, [x], []) := by
  subst hm
  unfold finL
  exact finV_zero hx H
def partsV (f : Form) : AV := .agg [.bool f.d, .bool f.n, .bool f.m, .bool f.a, I6 f.b]
theorem parts_spec (G : Globs) (k : Nat) (op : Int) : alembicref17_partsOf.f G (k + 4) [I6 op] [] = some (partsV (formF op), []) := by
  by_cases h : 1 ≤ op ∧ op ≤ 24
  · rcases op24 h with rfl | rfl | rfl | rfl | rfl | rfl | rfl | rfl | rfl | rfl | rfl | rfl | rfl | rfl | rfl | rfl | rfl | rfl | rfl | rfl | rfl | rfl | rfl | rfl <;> (clear h; show _ = _; kernel_rfl)
  · rw [formF_none h, alembicref17_partsOf.step]
    unfold alembicref17_partsOf.c
    refine e_in ?_
    have fx := True.intro
    refine wkA ?_
    all_goals first | omega | exact oF (finL_one (x := partsV ⟨⟨#[]⟩, 0, false, false, false, false, 0⟩) rfl rfl)
theorem rreg_spec (G : Globs) (k : Nat) (r : Int) (is : Bool) : alembicref17_reg.f G (k + 1) [I6 r, .bool is] [] = some (.bool (regB r is), []) := by
  rw [alembicref17_reg.step]
  unfold alembicref17_reg.c regB
  refine e_in ?_
  cases is
  all_goals (
    repeat' first
      | (with_reducible first | refine eT ?_ | refine eN ?_ | refine eS ?_ | refine eXn ?_ | refine eXr ?_ | refine eX ?_ | refine eI ?_ | refine eK ?_ | refine eV0 ?_ | refine eGr0 ?_ | refine eGtt ?_ | refine eGff ?_ | refine eGtf ?_ | refine eGft ?_ | refine eGno ?_)
      | ((with_reducible apply eCn); (simp only [nth_zero, nth_succ]; first | done | (with_reducible exact rfl)))
      | ((with_reducible apply eJ); (rfl))
      | ((with_reducible apply eGr1); (first | rfl | (simp only [nth_zero, nth_succ]; rfl)))
      | ((with_reducible apply eB); (first | (with_reducible exact rfl) | (simp (disch := omega) only [qa, putC, AV.cells, storable, buildSt, fillA, buildRo, buildOwn, fillE, Nat.reduceLeDiff, Nat.reduceLT, Nat.reduceAdd, ↓reduceIte]; first | done | (with_reducible exact rfl) | (with_reducible exact ⟨rfl, rfl⟩))))
      | ((with_reducible apply eR); (simp only [nth_zero, nth_succ]; (with_reducible exact rfl)))
      | ((with_reducible first | refine sEql ?_ ?_ | refine sNeq ?_ ?_ | refine sLss ?_ ?_ | refine sLeq ?_ ?_ | refine sGtr ?_ ?_ | refine sGeq ?_ ?_ | refine sNot ?_ ?_ | refine sPick ?_ ?_ | refine sGd ?_ ?_ | refine eBool ?_ ?_) <;> intro hq <;> try subst hq)
    all_goals (refine w1b ?_; simp; try omega))
theorem rcond_spec (G : Globs) (k : Nat) (n : Int) : alembicref17_cond.f G (k + 1) [I6 n] [] = some (.bool (decide ((0 ≤ n ∧ n ≤ 3) ∨ n = 8 ∨ n = 9)), []) := by
  rw [alembicref17_cond.step]
  unfold alembicref17_cond.c
  refine e_in ?_
  have fx := True.intro
  exact wkC
theorem rfar_spec (G : Globs) (k : Nat) (n b h : Int) (hb : (b = 19 ∧ h = 262144) ∨ (b = 26 ∧ h = 33554432)) : alembicref17_far.f G (k + 1) [I6 n, I6 b] [] = some (.bool (decide (-h ≤ n ∧ n < h)), []) := by
  rw [alembicref17_far.step]
  unfold alembicref17_far.c
  obtain ⟨s1, s2, s3, s4⟩ : bin Tryd.prog .sub 3 true (I6 b) (.int .i64 1) = some (I6 (b - 1)) ∧ convInt .u64 (I6 (b - 1)) = some (.int .u64 (b - 1)) ∧ bin Tryd.prog .shl 3 true (.int .i64 1) (.int .u64 (b - 1)) = some (I6 h) ∧ bin Tryd.prog .shl 3 true (.int .i64 (-1)) (.int .u64 (b - 1)) = some (I6 (-h)) := by
    rcases hb with ⟨rfl, rfl⟩ | ⟨rfl, rfl⟩
    · exact ⟨by kernel_rfl, by kernel_rfl, by kernel_rfl, by kernel_rfl⟩
    · exact ⟨by kernel_rfl, by kernel_rfl, by kernel_rfl, by kernel_rfl⟩
  clear hb
  refine e_in ?_
  have fx := And.intro s1 <| And.intro s2 <| And.intro s3 <| s4
  exact wkC
theorem rbase_spec (G : Globs) (k : Nat) (op : Int) (h : 1 ≤ op ∧ op ≤ 24) : alembicref17_base.f G (k + 1) [I6 op] [] = some (W32 (formF op).w, []) := by
  rcases op24 h with rfl | rfl | rfl | rfl | rfl | rfl | rfl | rfl | rfl | rfl | rfl | rfl | rfl | rfl | rfl | rfl | rfl | rfl | rfl | rfl | rfl | rfl | rfl | rfl <;> (clear h; show _ = _; kernel_rfl)
theorem rright_spec (G : Globs) (k : Nat) (op d n m a imm : Int) : alembicref17_right.f G (k + 5) [mV op d n m a imm] [] = some (.bool (rightB ⟨op, d, n, m, a, imm⟩), []) := by
  rw [alembicref17_right.step]
  unfold alembicref17_right.c
  have r1 : ∀ H, pureCall (alembicref17_partsOf.f G (k + 4)) [I6 op] H = _ := fun H => pureCall_of (H := H) (parts_spec G k op) rfl rfl
  have r2 : ∀ r is H, pureCall (alembicref17_reg.f G (k + 4)) [I6 r, .bool is] H = _ := fun r is H => pureCall_of (H := H) (rreg_spec G (k + 3) r is) rfl rfl
  have r3 : ∀ H, pureCall (alembicref17_cond.f G (k + 4)) [I6 a] H = _ := fun H => pureCall_of (H := H) (rcond_spec G (k + 3) a) rfl rfl
  have r4 : ∀ H, pureCall (alembicref17_far.f G (k + 4)) [I6 imm, .int .i64 19] H = _ := fun H => pureCall_of (H := H) (rfar_spec G (k + 3) imm 19 262144 (.inl ⟨rfl, rfl⟩)) rfl rfl
  have r5 : ∀ H, pureCall (alembicref17_far.f G (k + 4)) [I6 imm, .int .i64 26] H = _ := fun H => pureCall_of (H := H) (rfar_spec G (k + 3) imm 26 33554432 (.inr ⟨rfl, rfl⟩)) rfl rfl
  have s12 : bin Tryd.prog .shl 3 true (.int .i64 1) (.int .u64 12) = some (.int .i64 4096) := by kernel_rfl
  have s16 : bin Tryd.prog .shl 3 true (.int .i64 1) (.int .u64 16) = some (.int .i64 65536) := by kernel_rfl
  have s6 : bin Tryd.prog .shl 3 true (.int .i64 1) (.int .u64 6) = some (.int .i64 64) := by kernel_rfl
  have s0 : bin Tryd.prog .shl 3 true (.int .i64 1) (.int .u64 0) = some (.int .i64 1) := by kernel_rfl
  by_cases h : 1 ≤ op ∧ op ≤ 24
  · refine e_in ?_
    rcases op24 h with rfl | rfl | rfl | rfl | rfl | rfl | rfl | rfl | rfl | rfl | rfl | rfl | rfl | rfl | rfl | rfl | rfl | rfl | rfl | rfl | rfl | rfl | rfl | rfl
    all_goals (
      clear h
      simp only [partsV, formF, Int.reduceEq, if_true, if_false, ↓reduceIte] at r1
      repeat' first
        | (with_reducible first | refine eT ?_ | refine eN ?_ | refine eS ?_ | refine eXn ?_ | refine eXr ?_ | refine eX ?_ | refine eI ?_ | refine eK ?_ | refine eV0 ?_ | refine eGr0 ?_ | refine eGtt ?_ | refine eGff ?_ | refine eGtf ?_ | refine eGft ?_ | refine eGno ?_)
        | ((with_reducible apply eCn); (simp only [nth_zero, nth_succ]; first | done | (with_reducible exact rfl)))
        | ((with_reducible apply eJ); (rfl))
        | ((with_reducible apply eGr1); (first | rfl | (simp only [nth_zero, nth_succ]; rfl)))
        | ((with_reducible apply eB); (first | (with_reducible exact rfl) | (simp (disch := omega) only [qf, r1, r2, r3, r4, r5, s0, s6, s12, s16]; first | done | (with_reducible exact rfl) | (with_reducible exact ⟨rfl, rfl⟩)) | (simp (disch := omega) only [qa, putC, AV.cells, storable, buildSt, fillA, buildRo, buildOwn, fillE, Nat.reduceLeDiff, Nat.reduceLT, Nat.reduceAdd, ↓reduceIte, r1, r2, r3, r4, r5, s0, s6, s12, s16]; first | done | (with_reducible exact rfl) | (with_reducible exact ⟨rfl, rfl⟩))))
        | ((with_reducible apply eR); (simp only [nth_zero, nth_succ]; (with_reducible exact rfl)))
        | ((with_reducible first | refine sEql ?_ ?_ | refine sNeq ?_ ?_ | refine sLss ?_ ?_ | refine sLeq ?_ ?_ | refine sGtr ?_ ?_ | refine sGeq ?_ ?_ | refine sNot ?_ ?_ | refine sPick ?_ ?_ | refine sGd ?_ ?_ | refine eBool ?_ ?_) <;> intro hq <;> try subst hq)
      all_goals (refine w1b ?_; simp [rightB, isOp, fairB, formF, regB, extraB, immB, halfI, stackB] at *; try omega))
  · have e : rightB ⟨op, d, n, m, a, imm⟩ = false := by
      unfold rightB isOp
      simp only
      rw [decide_eq_false h, Bool.false_and]
    rw [e]
    rw [formF_none h] at r1
    unfold partsV at r1
    refine e_in ?_
    repeat' first
      | (with_reducible first | refine eT ?_ | refine eN ?_ | refine eS ?_ | refine eXn ?_ | refine eXr ?_ | refine eX ?_ | refine eI ?_ | refine eK ?_ | refine eV0 ?_ | refine eGr0 ?_ | refine eGtt ?_ | refine eGff ?_ | refine eGtf ?_ | refine eGft ?_ | refine eGno ?_)
      | ((with_reducible apply eCn); (simp only [nth_zero, nth_succ]; first | done | (with_reducible exact rfl)))
      | ((with_reducible apply eJ); (rfl))
      | ((with_reducible apply eGr1); (first | rfl | (simp only [nth_zero, nth_succ]; rfl)))
      | ((with_reducible apply eB); (first | (with_reducible exact rfl) | (simp (disch := omega) only [qf, r1]; first | done | (with_reducible exact rfl) | (with_reducible exact ⟨rfl, rfl⟩)) | (simp (disch := omega) only [qa, putC, AV.cells, storable, buildSt, fillA, buildRo, buildOwn, fillE, Nat.reduceLeDiff, Nat.reduceLT, Nat.reduceAdd, ↓reduceIte, r1]; first | done | (with_reducible exact rfl) | (with_reducible exact ⟨rfl, rfl⟩))))
      | ((with_reducible apply eR); (simp only [nth_zero, nth_succ]; (with_reducible exact rfl)))
      | ((with_reducible first | refine sEql ?_ ?_ | refine sNeq ?_ ?_ | refine sLss ?_ ?_ | refine sLeq ?_ ?_ | refine sGtr ?_ ?_ | refine sGeq ?_ ?_ | refine sNot ?_ ?_ | refine sPick ?_ ?_ | refine sGd ?_ ?_ | refine eBool ?_ ?_) <;> intro hq <;> try subst hq)
    exact w1b rfl
end Go.Proofs.YtdfglgnflldkpaaDoor.Mir
namespace Go.Proofs.YtdfglgnflldkpaaDoor.Mir
open Go
set_option linter.unusedVariables false
set_option linter.unusedSimpArgs false
set_option maxHeartbeats 8000000
set_option maxRecDepth 20000
theorem rword_1 (G : Globs) (k : Nat) (d n m a imm : Int) (h : rightB ⟨1, d, n, m, a, imm⟩ = true) : alembicref17_Word.f G (k + 6) [mV 1 d n m a imm] [] = some (.tup [W32 (wordF ⟨1, d, n, m, a, imm⟩), .bool true], []) := by
  have r1 : ∀ H, pureCall (alembicref17_right.f G (k + 5)) [mV 1 d n m a imm] H = _ := fun H => pureCall_of (H := H) (rright_spec G k 1 d n m a imm) rfl rfl
  have r2 : ∀ H, pureCall (alembicref17_partsOf.f G (k + 5)) [.int .i64 1] H = _ := fun H => pureCall_of (H := H) (parts_spec G (k + 1) 1) rfl rfl
  have r3 : ∀ H, pureCall (alembicref17_base.f G (k + 5)) [.int .i64 1] H = _ := fun H => pureCall_of (H := H) (rbase_spec G (k + 4) 1 (by decide)) rfl rfl
  rw [h] at r1
  unfold rightB at h
  rw [Bool.and_eq_true] at h
  obtain ⟨_, h⟩ := h
  simp [formF, fairB, regB, extraB, immB, halfI, stackB] at h
  have c1 : convInt .u32 (I6 d) = some (W32 d) := q_cv32 (by omega) (by omega)
  have c2 : convInt .u32 (I6 n) = some (W32 n) := q_cv32 (by omega) (by omega)
  have c3 : convInt .u32 (I6 m) = some (W32 m) := q_cv32 (by omega) (by omega)
  have s1 := shl_p Tryd.prog 71 true (v := n) (p := 32) (b := 5) 5 rfl (by decide) rfl (by omega) (by omega)
  have s2 := shl_p Tryd.prog 71 true (v := m) (p := 65536) (b := 16) 16 rfl (by decide) rfl (by omega) (by omega)
  have o1 := or_f0 Tryd.prog 71 false (x := 3531603968) (v := d) (q := 32) 5 rfl (by omega) (by omega) (by omega) (by omega) (by omega)
  have o2 := or_fd Tryd.prog 71 false (x := 3531603968 + d) (v := n) (p := 32) (q := 1) 5 0 rfl rfl (by omega) (by omega) (by omega) (by omega) (by omega)
  have o3 := or_fd Tryd.prog 71 false (x := 3531603968 + d + n * 32) (v := m) (p := 65536) (q := 1) 16 0 rfl rfl (by omega) (by omega) (by omega) (by omega) (by omega)
  have t1 := shl_p Tryd.prog 71 true (v := a) (p := 2097152) (b := 21) 21 rfl (by decide) rfl (by omega) (by omega)
  have t2 := or_fd Tryd.prog 71 false (x := 3531603968 + d + n * 32 + m * 65536) (v := a) (p := 2097152) (q := 4) 21 2 rfl rfl (by omega) (by omega) (by omega) (by omega) (by omega)
  have t3 := shl_p Tryd.prog 71 true (v := imm) (p := 32) (b := 5) 5 rfl (by decide) rfl (by omega) (by omega)
  have t4 := or_fd Tryd.prog 71 false (x := 3531603968 + d + n * 32 + m * 65536 + a * 2097152) (v := imm) (p := 32) (q := 65536) 5 16 rfl rfl (by omega) (by omega) (by omega) (by omega) (by omega)
  have ew : wordF ⟨1, d, n, m, a, imm⟩ = 3531603968 + d + n * 32 + m * 65536 + (a * 2097152 + imm * 32) := rfl
  rw [ew]
  simp only [partsV, formF, Int.reduceEq, if_true, if_false, ↓reduceIte] at r2 r3
  clear ew
  rw [alembicref17_Word.step]
  unfold alembicref17_Word.c
  refine e_in ?_
  have fx := And.intro r1 <| And.intro r2 <| And.intro r3 <| And.intro c1 <| And.intro c2 <| And.intro c3 <| And.intro s1 <| And.intro s2 <| And.intro o1 <| And.intro o2 <| And.intro o3 <| And.intro t1 <| And.intro t2 <| And.intro t3 <| t4
  refine wkA ?_
  all_goals first | exact w2b rfl rfl | (refine w2b ?_ rfl; omega)
theorem rword_2 (G : Globs) (k : Nat) (d n m a imm : Int) (h : rightB ⟨2, d, n, m, a, imm⟩ = true) : alembicref17_Word.f G (k + 6) [mV 2 d n m a imm] [] = some (.tup [W32 (wordF ⟨2, d, n, m, a, imm⟩), .bool true], []) := by
  have r1 : ∀ H, pureCall (alembicref17_right.f G (k + 5)) [mV 2 d n m a imm] H = _ := fun H => pureCall_of (H := H) (rright_spec G k 2 d n m a imm) rfl rfl
  have r2 : ∀ H, pureCall (alembicref17_partsOf.f G (k + 5)) [.int .i64 2] H = _ := fun H => pureCall_of (H := H) (parts_spec G (k + 1) 2) rfl rfl
  have r3 : ∀ H, pureCall (alembicref17_base.f G (k + 5)) [.int .i64 2] H = _ := fun H => pureCall_of (H := H) (rbase_spec G (k + 4) 2 (by decide)) rfl rfl
  rw [h] at r1
  unfold rightB at h
  rw [Bool.and_eq_true] at h
  obtain ⟨_, h⟩ := h
  simp [formF, fairB, regB, extraB, immB, halfI, stackB] at h
  have c1 : convInt .u32 (I6 d) = some (W32 d) := q_cv32 (by omega) (by omega)
  have c2 : convInt .u32 (I6 n) = some (W32 n) := q_cv32 (by omega) (by omega)
  have c3 : convInt .u32 (I6 m) = some (W32 m) := q_cv32 (by omega) (by omega)
  have s1 := shl_p Tryd.prog 71 true (v := n) (p := 32) (b := 5) 5 rfl (by decide) rfl (by omega) (by omega)
  have s2 := shl_p Tryd.prog 71 true (v := m) (p := 65536) (b := 16) 16 rfl (by decide) rfl (by omega) (by omega)
  have o1 := or_f0 Tryd.prog 71 false (x := 4068474880) (v := d) (q := 32) 5 rfl (by omega) (by omega) (by omega) (by omega) (by omega)
  have o2 := or_fd Tryd.prog 71 false (x := 4068474880 + d) (v := n) (p := 32) (q := 1) 5 0 rfl rfl (by omega) (by omega) (by omega) (by omega) (by omega)
  have o3 := or_fd Tryd.prog 71 false (x := 4068474880 + d + n * 32) (v := m) (p := 65536) (q := 1) 16 0 rfl rfl (by omega) (by omega) (by omega) (by omega) (by omega)
  have t1 := shl_p Tryd.prog 71 true (v := a) (p := 2097152) (b := 21) 21 rfl (by decide) rfl (by omega) (by omega)
  have t2 := or_fd Tryd.prog 71 false (x := 4068474880 + d + n * 32 + m * 65536) (v := a) (p := 2097152) (q := 4) 21 2 rfl rfl (by omega) (by omega) (by omega) (by omega) (by omega)
  have t3 := shl_p Tryd.prog 71 true (v := imm) (p := 32) (b := 5) 5 rfl (by decide) rfl (by omega) (by omega)
  have t4 := or_fd Tryd.prog 71 false (x := 4068474880 + d + n * 32 + m * 65536 + a * 2097152) (v := imm) (p := 32) (q := 65536) 5 16 rfl rfl (by omega) (by omega) (by omega) (by omega) (by omega)
  have ew : wordF ⟨2, d, n, m, a, imm⟩ = 4068474880 + d + n * 32 + m * 65536 + (a * 2097152 + imm * 32) := rfl
  rw [ew]
  simp only [partsV, formF, Int.reduceEq, if_true, if_false, ↓reduceIte] at r2 r3
  clear ew
  rw [alembicref17_Word.step]
  unfold alembicref17_Word.c
  refine e_in ?_
  have fx := And.intro r1 <| And.intro r2 <| And.intro r3 <| And.intro c1 <| And.intro c2 <| And.intro c3 <| And.intro s1 <| And.intro s2 <| And.intro o1 <| And.intro o2 <| And.intro o3 <| And.intro t1 <| And.intro t2 <| And.intro t3 <| t4
  refine wkA ?_
  all_goals first | exact w2b rfl rfl | (refine w2b ?_ rfl; omega)
theorem rword_3 (G : Globs) (k : Nat) (d n m a imm : Int) (h : rightB ⟨3, d, n, m, a, imm⟩ = true) : alembicref17_Word.f G (k + 6) [mV 3 d n m a imm] [] = some (.tup [W32 (wordF ⟨3, d, n, m, a, imm⟩), .bool true], []) := by
  have r1 : ∀ H, pureCall (alembicref17_right.f G (k + 5)) [mV 3 d n m a imm] H = _ := fun H => pureCall_of (H := H) (rright_spec G k 3 d n m a imm) rfl rfl
  have r2 : ∀ H, pureCall (alembicref17_partsOf.f G (k + 5)) [.int .i64 3] H = _ := fun H => pureCall_of (H := H) (parts_spec G (k + 1) 3) rfl rfl
  have r3 : ∀ H, pureCall (alembicref17_base.f G (k + 5)) [.int .i64 3] H = _ := fun H => pureCall_of (H := H) (rbase_spec G (k + 4) 3 (by decide)) rfl rfl
  rw [h] at r1
  unfold rightB at h
  rw [Bool.and_eq_true] at h
  obtain ⟨_, h⟩ := h
  simp [formF, fairB, regB, extraB, immB, halfI, stackB] at h
  have c1 : convInt .u32 (I6 d) = some (W32 d) := q_cv32 (by omega) (by omega)
  have c2 : convInt .u32 (I6 n) = some (W32 n) := q_cv32 (by omega) (by omega)
  have c3 : convInt .u32 (I6 m) = some (W32 m) := q_cv32 (by omega) (by omega)
  have s1 := shl_p Tryd.prog 71 true (v := n) (p := 32) (b := 5) 5 rfl (by decide) rfl (by omega) (by omega)
  have s2 := shl_p Tryd.prog 71 true (v := m) (p := 65536) (b := 16) 16 rfl (by decide) rfl (by omega) (by omega)
  have o1 := or_f0 Tryd.prog 71 false (x := 2332033024) (v := d) (q := 32) 5 rfl (by omega) (by omega) (by omega) (by omega) (by omega)
  have o2 := or_fd Tryd.prog 71 false (x := 2332033024 + d) (v := n) (p := 32) (q := 32) 5 5 rfl rfl (by omega) (by omega) (by omega) (by omega) (by omega)
  have o3 := or_fd Tryd.prog 71 false (x := 2332033024 + d + n * 32) (v := m) (p := 65536) (q := 32) 16 5 rfl rfl (by omega) (by omega) (by omega) (by omega) (by omega)
  have ew : wordF ⟨3, d, n, m, a, imm⟩ = 2332033024 + d + n * 32 + m * 65536 + 0 := rfl
  rw [ew]
  simp only [partsV, formF, Int.reduceEq, if_true, if_false, ↓reduceIte] at r2 r3
  clear ew
  rw [alembicref17_Word.step]
  unfold alembicref17_Word.c
  refine e_in ?_
  have fx := And.intro r1 <| And.intro r2 <| And.intro r3 <| And.intro c1 <| And.intro c2 <| And.intro c3 <| And.intro s1 <| And.intro s2 <| And.intro o1 <| And.intro o2 <| o3
  refine wkA ?_
  all_goals first | exact w2b rfl rfl | (refine w2b ?_ rfl; omega)
theorem rword_4 (G : Globs) (k : Nat) (d n m a imm : Int) (h : rightB ⟨4, d, n, m, a, imm⟩ = true) : alembicref17_Word.f G (k + 6) [mV 4 d n m a imm] [] = some (.tup [W32 (wordF ⟨4, d, n, m, a, imm⟩), .bool true], []) := by
  have r1 : ∀ H, pureCall (alembicref17_right.f G (k + 5)) [mV 4 d n m a imm] H = _ := fun H => pureCall_of (H := H) (rright_spec G k 4 d n m a imm) rfl rfl
  have r2 : ∀ H, pureCall (alembicref17_partsOf.f G (k + 5)) [.int .i64 4] H = _ := fun H => pureCall_of (H := H) (parts_spec G (k + 1) 4) rfl rfl
  have r3 : ∀ H, pureCall (alembicref17_base.f G (k + 5)) [.int .i64 4] H = _ := fun H => pureCall_of (H := H) (rbase_spec G (k + 4) 4 (by decide)) rfl rfl
  rw [h] at r1
  unfold rightB at h
  rw [Bool.and_eq_true] at h
  obtain ⟨_, h⟩ := h
  simp [formF, fairB, regB, extraB, immB, halfI, stackB] at h
  have c1 : convInt .u32 (I6 d) = some (W32 d) := q_cv32 (by omega) (by omega)
  have c2 : convInt .u32 (I6 n) = some (W32 n) := q_cv32 (by omega) (by omega)
  have c3 : convInt .u32 (I6 m) = some (W32 m) := q_cv32 (by omega) (by omega)
  have s1 := shl_p Tryd.prog 71 true (v := n) (p := 32) (b := 5) 5 rfl (by decide) rfl (by omega) (by omega)
  have s2 := shl_p Tryd.prog 71 true (v := m) (p := 65536) (b := 16) 16 rfl (by decide) rfl (by omega) (by omega)
  have o1 := or_f0 Tryd.prog 71 false (x := 3405774848) (v := d) (q := 32) 5 rfl (by omega) (by omega) (by omega) (by omega) (by omega)
  have o2 := or_fd Tryd.prog 71 false (x := 3405774848 + d) (v := n) (p := 32) (q := 32) 5 5 rfl rfl (by omega) (by omega) (by omega) (by omega) (by omega)
  have o3 := or_fd Tryd.prog 71 false (x := 3405774848 + d + n * 32) (v := m) (p := 65536) (q := 32) 16 5 rfl rfl (by omega) (by omega) (by omega) (by omega) (by omega)
  have ew : wordF ⟨4, d, n, m, a, imm⟩ = 3405774848 + d + n * 32 + m * 65536 + 0 := rfl
  rw [ew]
  simp only [partsV, formF, Int.reduceEq, if_true, if_false, ↓reduceIte] at r2 r3
  clear ew
  rw [alembicref17_Word.step]
  unfold alembicref17_Word.c
  refine e_in ?_
  have fx := And.intro r1 <| And.intro r2 <| And.intro r3 <| And.intro c1 <| And.intro c2 <| And.intro c3 <| And.intro s1 <| And.intro s2 <| And.intro o1 <| And.intro o2 <| o3
  refine wkA ?_
  all_goals first | exact w2b rfl rfl | (refine w2b ?_ rfl; omega)
theorem rword_5 (G : Globs) (k : Nat) (d n m a imm : Int) (h : rightB ⟨5, d, n, m, a, imm⟩ = true) : alembicref17_Word.f G (k + 6) [mV 5 d n m a imm] [] = some (.tup [W32 (wordF ⟨5, d, n, m, a, imm⟩), .bool true], []) := by
  have r1 : ∀ H, pureCall (alembicref17_right.f G (k + 5)) [mV 5 d n m a imm] H = _ := fun H => pureCall_of (H := H) (rright_spec G k 5 d n m a imm) rfl rfl
  have r2 : ∀ H, pureCall (alembicref17_partsOf.f G (k + 5)) [.int .i64 5] H = _ := fun H => pureCall_of (H := H) (parts_spec G (k + 1) 5) rfl rfl
  have r3 : ∀ H, pureCall (alembicref17_base.f G (k + 5)) [.int .i64 5] H = _ := fun H => pureCall_of (H := H) (rbase_spec G (k + 4) 5 (by decide)) rfl rfl
  rw [h] at r1
  unfold rightB at h
  rw [Bool.and_eq_true] at h
  obtain ⟨_, h⟩ := h
  simp [formF, fairB, regB, extraB, immB, halfI, stackB] at h
  have c1 : convInt .u32 (I6 d) = some (W32 d) := q_cv32 (by omega) (by omega)
  have c2 : convInt .u32 (I6 n) = some (W32 n) := q_cv32 (by omega) (by omega)
  have c3 : convInt .u32 (I6 m) = some (W32 m) := q_cv32 (by omega) (by omega)
  have s1 := shl_p Tryd.prog 71 true (v := n) (p := 32) (b := 5) 5 rfl (by decide) rfl (by omega) (by omega)
  have s2 := shl_p Tryd.prog 71 true (v := m) (p := 65536) (b := 16) 16 rfl (by decide) rfl (by omega) (by omega)
  have o1 := or_f0 Tryd.prog 71 false (x := 2315255808) (v := d) (q := 32) 5 rfl (by omega) (by omega) (by omega) (by omega) (by omega)
  have o2 := or_fd Tryd.prog 71 false (x := 2315255808 + d) (v := n) (p := 32) (q := 32) 5 5 rfl rfl (by omega) (by omega) (by omega) (by omega) (by omega)
  have o3 := or_fd Tryd.prog 71 false (x := 2315255808 + d + n * 32) (v := m) (p := 65536) (q := 32) 16 5 rfl rfl (by omega) (by omega) (by omega) (by omega) (by omega)
  have ew : wordF ⟨5, d, n, m, a, imm⟩ = 2315255808 + d + n * 32 + m * 65536 + 0 := rfl
  rw [ew]
  simp only [partsV, formF, Int.reduceEq, if_true, if_false, ↓reduceIte] at r2 r3
  clear ew
  rw [alembicref17_Word.step]
  unfold alembicref17_Word.c
  refine e_in ?_
  have fx := And.intro r1 <| And.intro r2 <| And.intro r3 <| And.intro c1 <| And.intro c2 <| And.intro c3 <| And.intro s1 <| And.intro s2 <| And.intro o1 <| And.intro o2 <| o3
  refine wkA ?_
  all_goals first | exact w2b rfl rfl | (refine w2b ?_ rfl; omega)
theorem rword_6 (G : Globs) (k : Nat) (d n m a imm : Int) (h : rightB ⟨6, d, n, m, a, imm⟩ = true) : alembicref17_Word.f G (k + 6) [mV 6 d n m a imm] [] = some (.tup [W32 (wordF ⟨6, d, n, m, a, imm⟩), .bool true], []) := by
  have r1 : ∀ H, pureCall (alembicref17_right.f G (k + 5)) [mV 6 d n m a imm] H = _ := fun H => pureCall_of (H := H) (rright_spec G k 6 d n m a imm) rfl rfl
  have r2 : ∀ H, pureCall (alembicref17_partsOf.f G (k + 5)) [.int .i64 6] H = _ := fun H => pureCall_of (H := H) (parts_spec G (k + 1) 6) rfl rfl
  have r3 : ∀ H, pureCall (alembicref17_base.f G (k + 5)) [.int .i64 6] H = _ := fun H => pureCall_of (H := H) (rbase_spec G (k + 4) 6 (by decide)) rfl rfl
  rw [h] at r1
  unfold rightB at h
  rw [Bool.and_eq_true] at h
  obtain ⟨_, h⟩ := h
  simp [formF, fairB, regB, extraB, immB, halfI, stackB] at h
  have c1 : convInt .u32 (I6 d) = some (W32 d) := q_cv32 (by omega) (by omega)
  have c2 : convInt .u32 (I6 n) = some (W32 n) := q_cv32 (by omega) (by omega)
  have c3 : convInt .u32 (I6 m) = some (W32 m) := q_cv32 (by omega) (by omega)
  have s1 := shl_p Tryd.prog 71 true (v := n) (p := 32) (b := 5) 5 rfl (by decide) rfl (by omega) (by omega)
  have s2 := shl_p Tryd.prog 71 true (v := m) (p := 65536) (b := 16) 16 rfl (by decide) rfl (by omega) (by omega)
  have o1 := or_f0 Tryd.prog 71 false (x := 2852126720) (v := d) (q := 32) 5 rfl (by omega) (by omega) (by omega) (by omega) (by omega)
  have o2 := or_fd Tryd.prog 71 false (x := 2852126720 + d) (v := n) (p := 32) (q := 32) 5 5 rfl rfl (by omega) (by omega) (by omega) (by omega) (by omega)
  have o3 := or_fd Tryd.prog 71 false (x := 2852126720 + d + n * 32) (v := m) (p := 65536) (q := 32) 16 5 rfl rfl (by omega) (by omega) (by omega) (by omega) (by omega)
  have ew : wordF ⟨6, d, n, m, a, imm⟩ = 2852126720 + d + n * 32 + m * 65536 + 0 := rfl
  rw [ew]
  simp only [partsV, formF, Int.reduceEq, if_true, if_false, ↓reduceIte] at r2 r3
  clear ew
  rw [alembicref17_Word.step]
  unfold alembicref17_Word.c
  refine e_in ?_
  have fx := And.intro r1 <| And.intro r2 <| And.intro r3 <| And.intro c1 <| And.intro c2 <| And.intro c3 <| And.intro s1 <| And.intro s2 <| And.intro o1 <| And.intro o2 <| o3
  refine wkA ?_
  all_goals first | exact w2b rfl rfl | (refine w2b ?_ rfl; omega)
theorem rword_7 (G : Globs) (k : Nat) (d n m a imm : Int) (h : rightB ⟨7, d, n, m, a, imm⟩ = true) : alembicref17_Word.f G (k + 6) [mV 7 d n m a imm] [] = some (.tup [W32 (wordF ⟨7, d, n, m, a, imm⟩), .bool true], []) := by
  have r1 : ∀ H, pureCall (alembicref17_right.f G (k + 5)) [mV 7 d n m a imm] H = _ := fun H => pureCall_of (H := H) (rright_spec G k 7 d n m a imm) rfl rfl
  have r2 : ∀ H, pureCall (alembicref17_partsOf.f G (k + 5)) [.int .i64 7] H = _ := fun H => pureCall_of (H := H) (parts_spec G (k + 1) 7) rfl rfl
  have r3 : ∀ H, pureCall (alembicref17_base.f G (k + 5)) [.int .i64 7] H = _ := fun H => pureCall_of (H := H) (rbase_spec G (k + 4) 7 (by decide)) rfl rfl
  rw [h] at r1
  unfold rightB at h
  rw [Bool.and_eq_true] at h
  obtain ⟨_, h⟩ := h
  simp [formF, fairB, regB, extraB, immB, halfI, stackB] at h
  have c1 : convInt .u32 (I6 d) = some (W32 d) := q_cv32 (by omega) (by omega)
  have c2 : convInt .u32 (I6 n) = some (W32 n) := q_cv32 (by omega) (by omega)
  have c3 : convInt .u32 (I6 m) = some (W32 m) := q_cv32 (by omega) (by omega)
  have s1 := shl_p Tryd.prog 71 true (v := n) (p := 32) (b := 5) 5 rfl (by decide) rfl (by omega) (by omega)
  have s2 := shl_p Tryd.prog 71 true (v := m) (p := 65536) (b := 16) 16 rfl (by decide) rfl (by omega) (by omega)
  have o1 := or_f0 Tryd.prog 71 false (x := 3388997632) (v := d) (q := 32) 5 rfl (by omega) (by omega) (by omega) (by omega) (by omega)
  have o2 := or_fd Tryd.prog 71 false (x := 3388997632 + d) (v := n) (p := 32) (q := 32) 5 5 rfl rfl (by omega) (by omega) (by omega) (by omega) (by omega)
  have o3 := or_fd Tryd.prog 71 false (x := 3388997632 + d + n * 32) (v := m) (p := 65536) (q := 32) 16 5 rfl rfl (by omega) (by omega) (by omega) (by omega) (by omega)
  have ew : wordF ⟨7, d, n, m, a, imm⟩ = 3388997632 + d + n * 32 + m * 65536 + 0 := rfl
  rw [ew]
  simp only [partsV, formF, Int.reduceEq, if_true, if_false, ↓reduceIte] at r2 r3
  clear ew
  rw [alembicref17_Word.step]
  unfold alembicref17_Word.c
  refine e_in ?_
  have fx := And.intro r1 <| And.intro r2 <| And.intro r3 <| And.intro c1 <| And.intro c2 <| And.intro c3 <| And.intro s1 <| And.intro s2 <| And.intro o1 <| And.intro o2 <| o3
  refine wkA ?_
  all_goals first | exact w2b rfl rfl | (refine w2b ?_ rfl; omega)
theorem rword_8 (G : Globs) (k : Nat) (d n m a imm : Int) (h : rightB ⟨8, d, n, m, a, imm⟩ = true) : alembicref17_Word.f G (k + 6) [mV 8 d n m a imm] [] = some (.tup [W32 (wordF ⟨8, d, n, m, a, imm⟩), .bool true], []) := by
  have r1 : ∀ H, pureCall (alembicref17_right.f G (k + 5)) [mV 8 d n m a imm] H = _ := fun H => pureCall_of (H := H) (rright_spec G k 8 d n m a imm) rfl rfl
  have r2 : ∀ H, pureCall (alembicref17_partsOf.f G (k + 5)) [.int .i64 8] H = _ := fun H => pureCall_of (H := H) (parts_spec G (k + 1) 8) rfl rfl
  have r3 : ∀ H, pureCall (alembicref17_base.f G (k + 5)) [.int .i64 8] H = _ := fun H => pureCall_of (H := H) (rbase_spec G (k + 4) 8 (by decide)) rfl rfl
  rw [h] at r1
  unfold rightB at h
  rw [Bool.and_eq_true] at h
  obtain ⟨_, h⟩ := h
  simp [formF, fairB, regB, extraB, immB, halfI, stackB] at h
  have c1 : convInt .u32 (I6 d) = some (W32 d) := q_cv32 (by omega) (by omega)
  have c2 : convInt .u32 (I6 n) = some (W32 n) := q_cv32 (by omega) (by omega)
  have c3 : convInt .u32 (I6 m) = some (W32 m) := q_cv32 (by omega) (by omega)
  have s1 := shl_p Tryd.prog 71 true (v := n) (p := 32) (b := 5) 5 rfl (by decide) rfl (by omega) (by omega)
  have s2 := shl_p Tryd.prog 71 true (v := m) (p := 65536) (b := 16) 16 rfl (by decide) rfl (by omega) (by omega)
  have o1 := or_f0 Tryd.prog 71 false (x := 2600468480) (v := d) (q := 32) 5 rfl (by omega) (by omega) (by omega) (by omega) (by omega)
  have o2 := or_fd Tryd.prog 71 false (x := 2600468480 + d) (v := n) (p := 32) (q := 32) 5 5 rfl rfl (by omega) (by omega) (by omega) (by omega) (by omega)
  have o3 := or_fd Tryd.prog 71 false (x := 2600468480 + d + n * 32) (v := m) (p := 65536) (q := 32) 16 5 rfl rfl (by omega) (by omega) (by omega) (by omega) (by omega)
  have t1 := shl_p Tryd.prog 71 true (v := a) (p := 1024) (b := 10) 10 rfl (by decide) rfl (by omega) (by omega)
  have t2 := or_fd Tryd.prog 71 false (x := 2600468480 + d + n * 32 + m * 65536) (v := a) (p := 1024) (q := 32) 10 5 rfl rfl (by omega) (by omega) (by omega) (by omega) (by omega)
  have ew : wordF ⟨8, d, n, m, a, imm⟩ = 2600468480 + d + n * 32 + m * 65536 + a * 1024 := rfl
  rw [ew]
  simp only [partsV, formF, Int.reduceEq, if_true, if_false, ↓reduceIte] at r2 r3
  clear ew
  rw [alembicref17_Word.step]
  unfold alembicref17_Word.c
  refine e_in ?_
  have fx := And.intro r1 <| And.intro r2 <| And.intro r3 <| And.intro c1 <| And.intro c2 <| And.intro c3 <| And.intro s1 <| And.intro s2 <| And.intro o1 <| And.intro o2 <| And.intro o3 <| And.intro t1 <| t2
  refine wkA ?_
  all_goals first | exact w2b rfl rfl | (refine w2b ?_ rfl; omega)
theorem rword_9 (G : Globs) (k : Nat) (d n m a imm : Int) (h : rightB ⟨9, d, n, m, a, imm⟩ = true) : alembicref17_Word.f G (k + 6) [mV 9 d n m a imm] [] = some (.tup [W32 (wordF ⟨9, d, n, m, a, imm⟩), .bool true], []) := by
  have r1 : ∀ H, pureCall (alembicref17_right.f G (k + 5)) [mV 9 d n m a imm] H = _ := fun H => pureCall_of (H := H) (rright_spec G k 9 d n m a imm) rfl rfl
  have r2 : ∀ H, pureCall (alembicref17_partsOf.f G (k + 5)) [.int .i64 9] H = _ := fun H => pureCall_of (H := H) (parts_spec G (k + 1) 9) rfl rfl
  have r3 : ∀ H, pureCall (alembicref17_base.f G (k + 5)) [.int .i64 9] H = _ := fun H => pureCall_of (H := H) (rbase_spec G (k + 4) 9 (by decide)) rfl rfl
  rw [h] at r1
  unfold rightB at h
  rw [Bool.and_eq_true] at h
  obtain ⟨_, h⟩ := h
  simp [formF, fairB, regB, extraB, immB, halfI, stackB] at h
  have c1 : convInt .u32 (I6 d) = some (W32 d) := q_cv32 (by omega) (by omega)
  have c2 : convInt .u32 (I6 n) = some (W32 n) := q_cv32 (by omega) (by omega)
  have c3 : convInt .u32 (I6 m) = some (W32 m) := q_cv32 (by omega) (by omega)
  have s1 := shl_p Tryd.prog 71 true (v := n) (p := 32) (b := 5) 5 rfl (by decide) rfl (by omega) (by omega)
  have s2 := shl_p Tryd.prog 71 true (v := m) (p := 65536) (b := 16) 16 rfl (by decide) rfl (by omega) (by omega)
  have o1 := or_f0 Tryd.prog 71 false (x := 2613083136) (v := d) (q := 32) 5 rfl (by omega) (by omega) (by omega) (by omega) (by omega)
  have o2 := or_fd Tryd.prog 71 false (x := 2613083136 + d) (v := n) (p := 32) (q := 32) 5 5 rfl rfl (by omega) (by omega) (by omega) (by omega) (by omega)
  have o3 := or_fd Tryd.prog 71 false (x := 2613083136 + d + n * 32) (v := m) (p := 65536) (q := 32) 16 5 rfl rfl (by omega) (by omega) (by omega) (by omega) (by omega)
  have ew : wordF ⟨9, d, n, m, a, imm⟩ = 2613083136 + d + n * 32 + m * 65536 + 0 := rfl
  rw [ew]
  simp only [partsV, formF, Int.reduceEq, if_true, if_false, ↓reduceIte] at r2 r3
  clear ew
  rw [alembicref17_Word.step]
  unfold alembicref17_Word.c
  refine e_in ?_
  have fx := And.intro r1 <| And.intro r2 <| And.intro r3 <| And.intro c1 <| And.intro c2 <| And.intro c3 <| And.intro s1 <| And.intro s2 <| And.intro o1 <| And.intro o2 <| o3
  refine wkA ?_
  all_goals first | exact w2b rfl rfl | (refine w2b ?_ rfl; omega)
theorem rword_10 (G : Globs) (k : Nat) (d n m a imm : Int) (h : rightB ⟨10, d, n, m, a, imm⟩ = true) : alembicref17_Word.f G (k + 6) [mV 10 d n m a imm] [] = some (.tup [W32 (wordF ⟨10, d, n, m, a, imm⟩), .bool true], []) := by
  have r1 : ∀ H, pureCall (alembicref17_right.f G (k + 5)) [mV 10 d n m a imm] H = _ := fun H => pureCall_of (H := H) (rright_spec G k 10 d n m a imm) rfl rfl
  have r2 : ∀ H, pureCall (alembicref17_partsOf.f G (k + 5)) [.int .i64 10] H = _ := fun H => pureCall_of (H := H) (parts_spec G (k + 1) 10) rfl rfl
  have r3 : ∀ H, pureCall (alembicref17_base.f G (k + 5)) [.int .i64 10] H = _ := fun H => pureCall_of (H := H) (rbase_spec G (k + 4) 10 (by decide)) rfl rfl
  rw [h] at r1
  unfold rightB at h
  rw [Bool.and_eq_true] at h
  obtain ⟨_, h⟩ := h
  simp [formF, fairB, regB, extraB, immB, halfI, stackB] at h
  have c1 : convInt .u32 (I6 d) = some (W32 d) := q_cv32 (by omega) (by omega)
  have c2 : convInt .u32 (I6 n) = some (W32 n) := q_cv32 (by omega) (by omega)
  have c3 : convInt .u32 (I6 m) = some (W32 m) := q_cv32 (by omega) (by omega)
  have s1 := shl_p Tryd.prog 71 true (v := n) (p := 32) (b := 5) 5 rfl (by decide) rfl (by omega) (by omega)
  have s2 := shl_p Tryd.prog 71 true (v := m) (p := 65536) (b := 16) 16 rfl (by decide) rfl (by omega) (by omega)
  have o1 := or_f0 Tryd.prog 71 false (x := 2432696320) (v := d) (q := 32) 5 rfl (by omega) (by omega) (by omega) (by omega) (by omega)
  have o2 := or_fd Tryd.prog 71 false (x := 2432696320 + d) (v := n) (p := 32) (q := 32) 5 5 rfl rfl (by omega) (by omega) (by omega) (by omega) (by omega)
  have o3 := or_fd Tryd.prog 71 false (x := 2432696320 + d + n * 32) (v := m) (p := 65536) (q := 1) 16 0 rfl rfl (by omega) (by omega) (by omega) (by omega) (by omega)
  have t1 := shl_p Tryd.prog 71 true (v := imm) (p := 1024) (b := 10) 10 rfl (by decide) rfl (by omega) (by omega)
  have t2 := or_fd Tryd.prog 71 false (x := 2432696320 + d + n * 32 + m * 65536) (v := imm) (p := 1024) (q := 4096) 10 12 rfl rfl (by omega) (by omega) (by omega) (by omega) (by omega)
  have ew : wordF ⟨10, d, n, m, a, imm⟩ = 2432696320 + d + n * 32 + m * 65536 + imm * 1024 := rfl
  rw [ew]
  simp only [partsV, formF, Int.reduceEq, if_true, if_false, ↓reduceIte] at r2 r3
  clear ew
  rw [alembicref17_Word.step]
  unfold alembicref17_Word.c
  refine e_in ?_
  have fx := And.intro r1 <| And.intro r2 <| And.intro r3 <| And.intro c1 <| And.intro c2 <| And.intro c3 <| And.intro s1 <| And.intro s2 <| And.intro o1 <| And.intro o2 <| And.intro o3 <| And.intro t1 <| t2
  refine wkA ?_
  all_goals first | exact w2b rfl rfl | (refine w2b ?_ rfl; omega)
theorem rword_11 (G : Globs) (k : Nat) (d n m a imm : Int) (h : rightB ⟨11, d, n, m, a, imm⟩ = true) : alembicref17_Word.f G (k + 6) [mV 11 d n m a imm] [] = some (.tup [W32 (wordF ⟨11, d, n, m, a, imm⟩), .bool true], []) := by
  have r1 : ∀ H, pureCall (alembicref17_right.f G (k + 5)) [mV 11 d n m a imm] H = _ := fun H => pureCall_of (H := H) (rright_spec G k 11 d n m a imm) rfl rfl
  have r2 : ∀ H, pureCall (alembicref17_partsOf.f G (k + 5)) [.int .i64 11] H = _ := fun H => pureCall_of (H := H) (parts_spec G (k + 1) 11) rfl rfl
  have r3 : ∀ H, pureCall (alembicref17_base.f G (k + 5)) [.int .i64 11] H = _ := fun H => pureCall_of (H := H) (rbase_spec G (k + 4) 11 (by decide)) rfl rfl
  rw [h] at r1
  unfold rightB at h
  rw [Bool.and_eq_true] at h
  obtain ⟨_, h⟩ := h
  simp [formF, fairB, regB, extraB, immB, halfI, stackB] at h
  have c1 : convInt .u32 (I6 d) = some (W32 d) := q_cv32 (by omega) (by omega)
  have c2 : convInt .u32 (I6 n) = some (W32 n) := q_cv32 (by omega) (by omega)
  have c3 : convInt .u32 (I6 m) = some (W32 m) := q_cv32 (by omega) (by omega)
  have s1 := shl_p Tryd.prog 71 true (v := n) (p := 32) (b := 5) 5 rfl (by decide) rfl (by omega) (by omega)
  have s2 := shl_p Tryd.prog 71 true (v := m) (p := 65536) (b := 16) 16 rfl (by decide) rfl (by omega) (by omega)
  have o1 := or_f0 Tryd.prog 71 false (x := 3506438144) (v := d) (q := 32) 5 rfl (by omega) (by omega) (by omega) (by omega) (by omega)
  have o2 := or_fd Tryd.prog 71 false (x := 3506438144 + d) (v := n) (p := 32) (q := 32) 5 5 rfl rfl (by omega) (by omega) (by omega) (by omega) (by omega)
  have o3 := or_fd Tryd.prog 71 false (x := 3506438144 + d + n * 32) (v := m) (p := 65536) (q := 1) 16 0 rfl rfl (by omega) (by omega) (by omega) (by omega) (by omega)
  have t1 := shl_p Tryd.prog 71 true (v := imm) (p := 1024) (b := 10) 10 rfl (by decide) rfl (by omega) (by omega)
  have t2 := or_fd Tryd.prog 71 false (x := 3506438144 + d + n * 32 + m * 65536) (v := imm) (p := 1024) (q := 4096) 10 12 rfl rfl (by omega) (by omega) (by omega) (by omega) (by omega)
  have ew : wordF ⟨11, d, n, m, a, imm⟩ = 3506438144 + d + n * 32 + m * 65536 + imm * 1024 := rfl
  rw [ew]
  simp only [partsV, formF, Int.reduceEq, if_true, if_false, ↓reduceIte] at r2 r3
  clear ew
  rw [alembicref17_Word.step]
  unfold alembicref17_Word.c
  refine e_in ?_
  have fx := And.intro r1 <| And.intro r2 <| And.intro r3 <| And.intro c1 <| And.intro c2 <| And.intro c3 <| And.intro s1 <| And.intro s2 <| And.intro o1 <| And.intro o2 <| And.intro o3 <| And.intro t1 <| t2
  refine wkA ?_
  all_goals first | exact w2b rfl rfl | (refine w2b ?_ rfl; omega)
theorem rword_12 (G : Globs) (k : Nat) (d n m a imm : Int) (h : rightB ⟨12, d, n, m, a, imm⟩ = true) : alembicref17_Word.f G (k + 6) [mV 12 d n m a imm] [] = some (.tup [W32 (wordF ⟨12, d, n, m, a, imm⟩), .bool true], []) := by
  have r1 : ∀ H, pureCall (alembicref17_right.f G (k + 5)) [mV 12 d n m a imm] H = _ := fun H => pureCall_of (H := H) (rright_spec G k 12 d n m a imm) rfl rfl
  have r2 : ∀ H, pureCall (alembicref17_partsOf.f G (k + 5)) [.int .i64 12] H = _ := fun H => pureCall_of (H := H) (parts_spec G (k + 1) 12) rfl rfl
  have r3 : ∀ H, pureCall (alembicref17_base.f G (k + 5)) [.int .i64 12] H = _ := fun H => pureCall_of (H := H) (rbase_spec G (k + 4) 12 (by decide)) rfl rfl
  rw [h] at r1
  unfold rightB at h
  rw [Bool.and_eq_true] at h
  obtain ⟨_, h⟩ := h
  simp [formF, fairB, regB, extraB, immB, halfI, stackB] at h
  have c1 : convInt .u32 (I6 d) = some (W32 d) := q_cv32 (by omega) (by omega)
  have c2 : convInt .u32 (I6 n) = some (W32 n) := q_cv32 (by omega) (by omega)
  have c3 : convInt .u32 (I6 m) = some (W32 m) := q_cv32 (by omega) (by omega)
  have s1 := shl_p Tryd.prog 71 true (v := n) (p := 32) (b := 5) 5 rfl (by decide) rfl (by omega) (by omega)
  have s2 := shl_p Tryd.prog 71 true (v := m) (p := 65536) (b := 16) 16 rfl (by decide) rfl (by omega) (by omega)
  have o1 := or_f0 Tryd.prog 71 false (x := 3544186880) (v := d) (q := 32) 5 rfl (by omega) (by omega) (by omega) (by omega) (by omega)
  have o2 := or_fd Tryd.prog 71 false (x := 3544186880 + d) (v := n) (p := 32) (q := 32) 5 5 rfl rfl (by omega) (by omega) (by omega) (by omega) (by omega)
  have o3 := or_fd Tryd.prog 71 false (x := 3544186880 + d + n * 32) (v := m) (p := 65536) (q := 1) 16 0 rfl rfl (by omega) (by omega) (by omega) (by omega) (by omega)
  have t0 := sub32 Tryd.prog 71 true (a := 64) (b := imm) (by omega) (by omega) (by omega)
  have t1 := rem64 Tryd.prog 71 true (a := 64 - imm) (by omega)
  have t2 := shl_p Tryd.prog 71 true (v := ((64 - imm) % 64)) (p := 65536) (b := 16) 16 rfl (by decide) rfl (by omega) (by omega)
  have t3 := or_fd Tryd.prog 71 false (x := 3544186880 + d + n * 32 + m * 65536) (v := ((64 - imm) % 64)) (p := 65536) (q := 64) 16 6 rfl rfl (by omega) (by omega) (by omega) (by omega) (by omega)
  have t4 := sub32 Tryd.prog 71 true (a := 63) (b := imm) (by omega) (by omega) (by omega)
  have t5 := shl_p Tryd.prog 71 true (v := (63 - imm)) (p := 1024) (b := 10) 10 rfl (by decide) rfl (by omega) (by omega)
  have t6 := or_fd Tryd.prog 71 false (x := 3544186880 + d + n * 32 + m * 65536 + (64 - imm) % 64 * 65536) (v := (63 - imm)) (p := 1024) (q := 64) 10 6 rfl rfl (by omega) (by omega) (by omega) (by omega) (by omega)
  have ew : wordF ⟨12, d, n, m, a, imm⟩ = 3544186880 + d + n * 32 + m * 65536 + ((64 - imm) % 64 * 65536 + (63 - imm) * 1024) := rfl
  rw [ew]
  simp only [partsV, formF, Int.reduceEq, if_true, if_false, ↓reduceIte] at r2 r3
  clear ew
  rw [alembicref17_Word.step]
  unfold alembicref17_Word.c
  refine e_in ?_
  have fx := And.intro r1 <| And.intro r2 <| And.intro r3 <| And.intro c1 <| And.intro c2 <| And.intro c3 <| And.intro s1 <| And.intro s2 <| And.intro o1 <| And.intro o2 <| And.intro o3 <| And.intro t0 <| And.intro t1 <| And.intro t2 <| And.intro t3 <| And.intro t4 <| And.intro t5 <| t6
  refine wkA ?_
  all_goals first | exact w2b rfl rfl | (refine w2b ?_ rfl; omega)
theorem rword_13 (G : Globs) (k : Nat) (d n m a imm : Int) (h : rightB ⟨13, d, n, m, a, imm⟩ = true) : alembicref17_Word.f G (k + 6) [mV 13 d n m a imm] [] = some (.tup [W32 (wordF ⟨13, d, n, m, a, imm⟩), .bool true], []) := by
  have r1 : ∀ H, pureCall (alembicref17_right.f G (k + 5)) [mV 13 d n m a imm] H = _ := fun H => pureCall_of (H := H) (rright_spec G k 13 d n m a imm) rfl rfl
  have r2 : ∀ H, pureCall (alembicref17_partsOf.f G (k + 5)) [.int .i64 13] H = _ := fun H => pureCall_of (H := H) (parts_spec G (k + 1) 13) rfl rfl
  have r3 : ∀ H, pureCall (alembicref17_base.f G (k + 5)) [.int .i64 13] H = _ := fun H => pureCall_of (H := H) (rbase_spec G (k + 4) 13 (by decide)) rfl rfl
  rw [h] at r1
  unfold rightB at h
  rw [Bool.and_eq_true] at h
  obtain ⟨_, h⟩ := h
  simp [formF, fairB, regB, extraB, immB, halfI, stackB] at h
  have c1 : convInt .u32 (I6 d) = some (W32 d) := q_cv32 (by omega) (by omega)
  have c2 : convInt .u32 (I6 n) = some (W32 n) := q_cv32 (by omega) (by omega)
  have c3 : convInt .u32 (I6 m) = some (W32 m) := q_cv32 (by omega) (by omega)
  have s1 := shl_p Tryd.prog 71 true (v := n) (p := 32) (b := 5) 5 rfl (by decide) rfl (by omega) (by omega)
  have s2 := shl_p Tryd.prog 71 true (v := m) (p := 65536) (b := 16) 16 rfl (by decide) rfl (by omega) (by omega)
  have o1 := or_f0 Tryd.prog 71 false (x := 3544186880) (v := d) (q := 32) 5 rfl (by omega) (by omega) (by omega) (by omega) (by omega)
  have o2 := or_fd Tryd.prog 71 false (x := 3544186880 + d) (v := n) (p := 32) (q := 32) 5 5 rfl rfl (by omega) (by omega) (by omega) (by omega) (by omega)
  have o3 := or_fd Tryd.prog 71 false (x := 3544186880 + d + n * 32) (v := m) (p := 65536) (q := 1) 16 0 rfl rfl (by omega) (by omega) (by omega) (by omega) (by omega)
  have t1 := shl_p Tryd.prog 71 true (v := imm) (p := 65536) (b := 16) 16 rfl (by decide) rfl (by omega) (by omega)
  have t2 := or_fd Tryd.prog 71 false (x := 3544186880 + d + n * 32 + m * 65536) (v := imm) (p := 65536) (q := 64) 16 6 rfl rfl (by omega) (by omega) (by omega) (by omega) (by omega)
  have t3 : bin Tryd.prog .or 71 true (W32 (3544186880 + d + n * 32 + m * 65536 + imm * 65536)) (.int .u32 64512) = some (W32 (3544186880 + d + n * 32 + m * 65536 + imm * 65536 + 64512)) := or_fd Tryd.prog 71 true (x := 3544186880 + d + n * 32 + m * 65536 + imm * 65536) (v := 63) (p := 1024) (q := 64) 10 6 rfl rfl (by omega) (by omega) (by omega) (by omega) (by omega)
  have ew : wordF ⟨13, d, n, m, a, imm⟩ = 3544186880 + d + n * 32 + m * 65536 + (imm * 65536 + 64512) := rfl
  rw [ew]
  simp only [partsV, formF, Int.reduceEq, if_true, if_false, ↓reduceIte] at r2 r3
  clear ew
  rw [alembicref17_Word.step]
  unfold alembicref17_Word.c
  refine e_in ?_
  have fx := And.intro r1 <| And.intro r2 <| And.intro r3 <| And.intro c1 <| And.intro c2 <| And.intro c3 <| And.intro s1 <| And.intro s2 <| And.intro o1 <| And.intro o2 <| And.intro o3 <| And.intro t1 <| And.intro t2 <| t3
  refine wkA ?_
  all_goals first | exact w2b rfl rfl | (refine w2b ?_ rfl; omega)
theorem rword_14 (G : Globs) (k : Nat) (d n m a imm : Int) (h : rightB ⟨14, d, n, m, a, imm⟩ = true) : alembicref17_Word.f G (k + 6) [mV 14 d n m a imm] [] = some (.tup [W32 (wordF ⟨14, d, n, m, a, imm⟩), .bool true], []) := by
  have r1 : ∀ H, pureCall (alembicref17_right.f G (k + 5)) [mV 14 d n m a imm] H = _ := fun H => pureCall_of (H := H) (rright_spec G k 14 d n m a imm) rfl rfl
  have r2 : ∀ H, pureCall (alembicref17_partsOf.f G (k + 5)) [.int .i64 14] H = _ := fun H => pureCall_of (H := H) (parts_spec G (k + 1) 14) rfl rfl
  have r3 : ∀ H, pureCall (alembicref17_base.f G (k + 5)) [.int .i64 14] H = _ := fun H => pureCall_of (H := H) (rbase_spec G (k + 4) 14 (by decide)) rfl rfl
  rw [h] at r1
  unfold rightB at h
  rw [Bool.and_eq_true] at h
  obtain ⟨_, h⟩ := h
  simp [formF, fairB, regB, extraB, immB, halfI, stackB] at h
  have c1 : convInt .u32 (I6 d) = some (W32 d) := q_cv32 (by omega) (by omega)
  have c2 : convInt .u32 (I6 n) = some (W32 n) := q_cv32 (by omega) (by omega)
  have c3 : convInt .u32 (I6 m) = some (W32 m) := q_cv32 (by omega) (by omega)
  have s1 := shl_p Tryd.prog 71 true (v := n) (p := 32) (b := 5) 5 rfl (by decide) rfl (by omega) (by omega)
  have s2 := shl_p Tryd.prog 71 true (v := m) (p := 65536) (b := 16) 16 rfl (by decide) rfl (by omega) (by omega)
  have o1 := or_f0 Tryd.prog 71 false (x := 2470509568) (v := d) (q := 32) 5 rfl (by omega) (by omega) (by omega) (by omega) (by omega)
  have o2 := or_fd Tryd.prog 71 false (x := 2470509568 + d) (v := n) (p := 32) (q := 32) 5 5 rfl rfl (by omega) (by omega) (by omega) (by omega) (by omega)
  have o3 := or_fd Tryd.prog 71 false (x := 2470509568 + d + n * 32) (v := m) (p := 65536) (q := 1) 16 0 rfl rfl (by omega) (by omega) (by omega) (by omega) (by omega)
  have t1 := shl_p Tryd.prog 71 true (v := imm) (p := 65536) (b := 16) 16 rfl (by decide) rfl (by omega) (by omega)
  have t2 := or_fd Tryd.prog 71 false (x := 2470509568 + d + n * 32 + m * 65536) (v := imm) (p := 65536) (q := 64) 16 6 rfl rfl (by omega) (by omega) (by omega) (by omega) (by omega)
  have ew : wordF ⟨14, d, n, m, a, imm⟩ = 2470509568 + d + n * 32 + m * 65536 + imm * 65536 := rfl
  rw [ew]
  simp only [partsV, formF, Int.reduceEq, if_true, if_false, ↓reduceIte] at r2 r3
  clear ew
  rw [alembicref17_Word.step]
  unfold alembicref17_Word.c
  refine e_in ?_
  have fx := And.intro r1 <| And.intro r2 <| And.intro r3 <| And.intro c1 <| And.intro c2 <| And.intro c3 <| And.intro s1 <| And.intro s2 <| And.intro o1 <| And.intro o2 <| And.intro o3 <| And.intro t1 <| t2
  refine wkA ?_
  all_goals first | exact w2b rfl rfl | (refine w2b ?_ rfl; omega)
theorem rword_15 (G : Globs) (k : Nat) (d n m a imm : Int) (h : rightB ⟨15, d, n, m, a, imm⟩ = true) : alembicref17_Word.f G (k + 6) [mV 15 d n m a imm] [] = some (.tup [W32 (wordF ⟨15, d, n, m, a, imm⟩), .bool true], []) := by
  have r1 : ∀ H, pureCall (alembicref17_right.f G (k + 5)) [mV 15 d n m a imm] H = _ := fun H => pureCall_of (H := H) (rright_spec G k 15 d n m a imm) rfl rfl
  have r2 : ∀ H, pureCall (alembicref17_partsOf.f G (k + 5)) [.int .i64 15] H = _ := fun H => pureCall_of (H := H) (parts_spec G (k + 1) 15) rfl rfl
  have r3 : ∀ H, pureCall (alembicref17_base.f G (k + 5)) [.int .i64 15] H = _ := fun H => pureCall_of (H := H) (rbase_spec G (k + 4) 15 (by decide)) rfl rfl
  rw [h] at r1
  unfold rightB at h
  rw [Bool.and_eq_true] at h
  obtain ⟨_, h⟩ := h
  simp [formF, fairB, regB, extraB, immB, halfI, stackB] at h
  have c1 : convInt .u32 (I6 d) = some (W32 d) := q_cv32 (by omega) (by omega)
  have c2 : convInt .u32 (I6 n) = some (W32 n) := q_cv32 (by omega) (by omega)
  have c3 : convInt .u32 (I6 m) = some (W32 m) := q_cv32 (by omega) (by omega)
  have s1 := shl_p Tryd.prog 71 true (v := n) (p := 32) (b := 5) 5 rfl (by decide) rfl (by omega) (by omega)
  have s2 := shl_p Tryd.prog 71 true (v := m) (p := 65536) (b := 16) 16 rfl (by decide) rfl (by omega) (by omega)
  have o1 := or_f0 Tryd.prog 71 false (x := 3942645791) (v := d) (q := 1) 0 rfl (by omega) (by omega) (by omega) (by omega) (by omega)
  have o2 := or_fd Tryd.prog 71 false (x := 3942645791 + d) (v := n) (p := 32) (q := 32) 5 5 rfl rfl (by omega) (by omega) (by omega) (by omega) (by omega)
  have o3 := or_fd Tryd.prog 71 false (x := 3942645791 + d + n * 32) (v := m) (p := 65536) (q := 32) 16 5 rfl rfl (by omega) (by omega) (by omega) (by omega) (by omega)
  have ew : wordF ⟨15, d, n, m, a, imm⟩ = 3942645791 + d + n * 32 + m * 65536 + 0 := rfl
  rw [ew]
  simp only [partsV, formF, Int.reduceEq, if_true, if_false, ↓reduceIte] at r2 r3
  clear ew
  rw [alembicref17_Word.step]
  unfold alembicref17_Word.c
  refine e_in ?_
  have fx := And.intro r1 <| And.intro r2 <| And.intro r3 <| And.intro c1 <| And.intro c2 <| And.intro c3 <| And.intro s1 <| And.intro s2 <| And.intro o1 <| And.intro o2 <| o3
  refine wkA ?_
  all_goals first | exact w2b rfl rfl | (refine w2b ?_ rfl; omega)
theorem rword_16 (G : Globs) (k : Nat) (d n m a imm : Int) (h : rightB ⟨16, d, n, m, a, imm⟩ = true) : alembicref17_Word.f G (k + 6) [mV 16 d n m a imm] [] = some (.tup [W32 (wordF ⟨16, d, n, m, a, imm⟩), .bool true], []) := by
  have r1 : ∀ H, pureCall (alembicref17_right.f G (k + 5)) [mV 16 d n m a imm] H = _ := fun H => pureCall_of (H := H) (rright_spec G k 16 d n m a imm) rfl rfl
  have r2 : ∀ H, pureCall (alembicref17_partsOf.f G (k + 5)) [.int .i64 16] H = _ := fun H => pureCall_of (H := H) (parts_spec G (k + 1) 16) rfl rfl
  have r3 : ∀ H, pureCall (alembicref17_base.f G (k + 5)) [.int .i64 16] H = _ := fun H => pureCall_of (H := H) (rbase_spec G (k + 4) 16 (by decide)) rfl rfl
  rw [h] at r1
  unfold rightB at h
  rw [Bool.and_eq_true] at h
  obtain ⟨_, h⟩ := h
  simp [formF, fairB, regB, extraB, immB, halfI, stackB] at h
  have c1 : convInt .u32 (I6 d) = some (W32 d) := q_cv32 (by omega) (by omega)
  have c2 : convInt .u32 (I6 n) = some (W32 n) := q_cv32 (by omega) (by omega)
  have c3 : convInt .u32 (I6 m) = some (W32 m) := q_cv32 (by omega) (by omega)
  have s1 := shl_p Tryd.prog 71 true (v := n) (p := 32) (b := 5) 5 rfl (by decide) rfl (by omega) (by omega)
  have s2 := shl_p Tryd.prog 71 true (v := m) (p := 65536) (b := 16) 16 rfl (by decide) rfl (by omega) (by omega)
  have o1 := or_f0 Tryd.prog 71 false (x := 2592079872) (v := d) (q := 32) 5 rfl (by omega) (by omega) (by omega) (by omega) (by omega)
  have o2 := or_fd Tryd.prog 71 false (x := 2592079872 + d) (v := n) (p := 32) (q := 32) 5 5 rfl rfl (by omega) (by omega) (by omega) (by omega) (by omega)
  have o3 := or_fd Tryd.prog 71 false (x := 2592079872 + d + n * 32) (v := m) (p := 65536) (q := 32) 16 5 rfl rfl (by omega) (by omega) (by omega) (by omega) (by omega)
  have t1 := shl_p Tryd.prog 71 true (v := a) (p := 4096) (b := 12) 12 rfl (by decide) rfl (by omega) (by omega)
  have t2 := or_fd Tryd.prog 71 false (x := 2592079872 + d + n * 32 + m * 65536) (v := a) (p := 4096) (q := 16) 12 4 rfl rfl (by omega) (by omega) (by omega) (by omega) (by omega)
  have ew : wordF ⟨16, d, n, m, a, imm⟩ = 2592079872 + d + n * 32 + m * 65536 + a * 4096 := rfl
  rw [ew]
  simp only [partsV, formF, Int.reduceEq, if_true, if_false, ↓reduceIte] at r2 r3
  clear ew
  rw [alembicref17_Word.step]
  unfold alembicref17_Word.c
  refine e_in ?_
  have fx := And.intro r1 <| And.intro r2 <| And.intro r3 <| And.intro c1 <| And.intro c2 <| And.intro c3 <| And.intro s1 <| And.intro s2 <| And.intro o1 <| And.intro o2 <| And.intro o3 <| And.intro t1 <| t2
  refine wkA ?_
  all_goals first | exact w2b rfl rfl | (refine w2b ?_ rfl; omega)
theorem rword_17 (G : Globs) (k : Nat) (d n m a imm : Int) (h : rightB ⟨17, d, n, m, a, imm⟩ = true) : alembicref17_Word.f G (k + 6) [mV 17 d n m a imm] [] = some (.tup [W32 (wordF ⟨17, d, n, m, a, imm⟩), .bool true], []) := by
  have r1 : ∀ H, pureCall (alembicref17_right.f G (k + 5)) [mV 17 d n m a imm] H = _ := fun H => pureCall_of (H := H) (rright_spec G k 17 d n m a imm) rfl rfl
  have r2 : ∀ H, pureCall (alembicref17_partsOf.f G (k + 5)) [.int .i64 17] H = _ := fun H => pureCall_of (H := H) (parts_spec G (k + 1) 17) rfl rfl
  have r3 : ∀ H, pureCall (alembicref17_base.f G (k + 5)) [.int .i64 17] H = _ := fun H => pureCall_of (H := H) (rbase_spec G (k + 4) 17 (by decide)) rfl rfl
  rw [h] at r1
  unfold rightB at h
  rw [Bool.and_eq_true] at h
  obtain ⟨_, h⟩ := h
  simp [formF, fairB, regB, extraB, immB, halfI, stackB] at h
  have c1 : convInt .u32 (I6 d) = some (W32 d) := q_cv32 (by omega) (by omega)
  have c2 : convInt .u32 (I6 n) = some (W32 n) := q_cv32 (by omega) (by omega)
  have c3 : convInt .u32 (I6 m) = some (W32 m) := q_cv32 (by omega) (by omega)
  have s1 := shl_p Tryd.prog 71 true (v := n) (p := 32) (b := 5) 5 rfl (by decide) rfl (by omega) (by omega)
  have s2 := shl_p Tryd.prog 71 true (v := m) (p := 65536) (b := 16) 16 rfl (by decide) rfl (by omega) (by omega)
  have o1 := or_f0 Tryd.prog 71 false (x := 2594113504) (v := d) (q := 32) 5 rfl (by omega) (by omega) (by omega) (by omega) (by omega)
  have o2 := or_fd Tryd.prog 71 false (x := 2594113504 + d) (v := n) (p := 32) (q := 1) 5 0 rfl rfl (by omega) (by omega) (by omega) (by omega) (by omega)
  have o3 := or_fd Tryd.prog 71 false (x := 2594113504 + d + n * 32) (v := m) (p := 65536) (q := 1) 16 0 rfl rfl (by omega) (by omega) (by omega) (by omega) (by omega)
  have t0 : bin Tryd.prog .xor 3 true (I6 a) (.int .i64 1) = some (I6 (if a % 2 = 0 then a + 1 else a - 1)) := xor1i _ _ _ (by omega) (by omega)
  have t3 : convInt .u32 (I6 (if a % 2 = 0 then a + 1 else a - 1)) = some (W32 (if a % 2 = 0 then a + 1 else a - 1)) := q_cv32 (by split <;> omega) (by split <;> omega)
  have t1 := shl_p Tryd.prog 71 true (v := (if a % 2 = 0 then a + 1 else a - 1)) (p := 4096) (b := 12) 12 rfl (by decide) rfl (by split <;> omega) (by split <;> omega)
  have t2 := or_fd Tryd.prog 71 false (x := 2594113504 + d + n * 32 + m * 65536) (v := (if a % 2 = 0 then a + 1 else a - 1)) (p := 4096) (q := 16) 12 4 rfl rfl (by omega) (by split <;> omega) (by split <;> omega) (by omega) (by split <;> omega)
  have ew : wordF ⟨17, d, n, m, a, imm⟩ = 2594113504 + d + n * 32 + m * 65536 + (if a % 2 = 0 then a + 1 else a - 1) * 4096 := rfl
  rw [ew]
  simp only [partsV, formF, Int.reduceEq, if_true, if_false, ↓reduceIte] at r2 r3
  clear ew
  rw [alembicref17_Word.step]
  unfold alembicref17_Word.c
  refine e_in ?_
  have fx := And.intro r1 <| And.intro r2 <| And.intro r3 <| And.intro c1 <| And.intro c2 <| And.intro c3 <| And.intro s1 <| And.intro s2 <| And.intro o1 <| And.intro o2 <| And.intro o3 <| And.intro t0 <| And.intro t3 <| And.intro t1 <| t2
  refine wkA ?_
  all_goals first | exact w2b rfl rfl | (refine w2b ?_ rfl; omega)
theorem rword_18 (G : Globs) (k : Nat) (d n m a imm : Int) (h : rightB ⟨18, d, n, m, a, imm⟩ = true) : alembicref17_Word.f G (k + 6) [mV 18 d n m a imm] [] = some (.tup [W32 (wordF ⟨18, d, n, m, a, imm⟩), .bool true], []) := by
  have r1 : ∀ H, pureCall (alembicref17_right.f G (k + 5)) [mV 18 d n m a imm] H = _ := fun H => pureCall_of (H := H) (rright_spec G k 18 d n m a imm) rfl rfl
  have r2 : ∀ H, pureCall (alembicref17_partsOf.f G (k + 5)) [.int .i64 18] H = _ := fun H => pureCall_of (H := H) (parts_spec G (k + 1) 18) rfl rfl
  have r3 : ∀ H, pureCall (alembicref17_base.f G (k + 5)) [.int .i64 18] H = _ := fun H => pureCall_of (H := H) (rbase_spec G (k + 4) 18 (by decide)) rfl rfl
  rw [h] at r1
  unfold rightB at h
  rw [Bool.and_eq_true] at h
  obtain ⟨_, h⟩ := h
  simp [formF, fairB, regB, extraB, immB, halfI, stackB] at h
  have c1 : convInt .u32 (I6 d) = some (W32 d) := q_cv32 (by omega) (by omega)
  have c2 : convInt .u32 (I6 n) = some (W32 n) := q_cv32 (by omega) (by omega)
  have c3 : convInt .u32 (I6 m) = some (W32 m) := q_cv32 (by omega) (by omega)
  have s1 := shl_p Tryd.prog 71 true (v := n) (p := 32) (b := 5) 5 rfl (by decide) rfl (by omega) (by omega)
  have s2 := shl_p Tryd.prog 71 true (v := m) (p := 65536) (b := 16) 16 rfl (by decide) rfl (by omega) (by omega)
  have o1 := or_f0 Tryd.prog 71 false (x := 4181721088) (v := d) (q := 32) 5 rfl (by omega) (by omega) (by omega) (by omega) (by omega)
  have o2 := or_fd Tryd.prog 71 false (x := 4181721088 + d) (v := n) (p := 32) (q := 32) 5 5 rfl rfl (by omega) (by omega) (by omega) (by omega) (by omega)
  have o3 := or_fd Tryd.prog 71 false (x := 4181721088 + d + n * 32) (v := m) (p := 65536) (q := 1) 16 0 rfl rfl (by omega) (by omega) (by omega) (by omega) (by omega)
  have t1 := shl_p Tryd.prog 71 true (v := imm) (p := 1024) (b := 10) 10 rfl (by decide) rfl (by omega) (by omega)
  have t2 := or_fd Tryd.prog 71 false (x := 4181721088 + d + n * 32 + m * 65536) (v := imm) (p := 1024) (q := 4096) 10 12 rfl rfl (by omega) (by omega) (by omega) (by omega) (by omega)
  have ew : wordF ⟨18, d, n, m, a, imm⟩ = 4181721088 + d + n * 32 + m * 65536 + imm * 1024 := rfl
  rw [ew]
  simp only [partsV, formF, Int.reduceEq, if_true, if_false, ↓reduceIte] at r2 r3
  clear ew
  rw [alembicref17_Word.step]
  unfold alembicref17_Word.c
  refine e_in ?_
  have fx := And.intro r1 <| And.intro r2 <| And.intro r3 <| And.intro c1 <| And.intro c2 <| And.intro c3 <| And.intro s1 <| And.intro s2 <| And.intro o1 <| And.intro o2 <| And.intro o3 <| And.intro t1 <| t2
  refine wkA ?_
  all_goals first | exact w2b rfl rfl | (refine w2b ?_ rfl; omega)
theorem rword_19 (G : Globs) (k : Nat) (d n m a imm : Int) (h : rightB ⟨19, d, n, m, a, imm⟩ = true) : alembicref17_Word.f G (k + 6) [mV 19 d n m a imm] [] = some (.tup [W32 (wordF ⟨19, d, n, m, a, imm⟩), .bool true], []) := by
  have r1 : ∀ H, pureCall (alembicref17_right.f G (k + 5)) [mV 19 d n m a imm] H = _ := fun H => pureCall_of (H := H) (rright_spec G k 19 d n m a imm) rfl rfl
  have r2 : ∀ H, pureCall (alembicref17_partsOf.f G (k + 5)) [.int .i64 19] H = _ := fun H => pureCall_of (H := H) (parts_spec G (k + 1) 19) rfl rfl
  have r3 : ∀ H, pureCall (alembicref17_base.f G (k + 5)) [.int .i64 19] H = _ := fun H => pureCall_of (H := H) (rbase_spec G (k + 4) 19 (by decide)) rfl rfl
  rw [h] at r1
  unfold rightB at h
  rw [Bool.and_eq_true] at h
  obtain ⟨_, h⟩ := h
  simp [formF, fairB, regB, extraB, immB, halfI, stackB] at h
  have c1 : convInt .u32 (I6 d) = some (W32 d) := q_cv32 (by omega) (by omega)
  have c2 : convInt .u32 (I6 n) = some (W32 n) := q_cv32 (by omega) (by omega)
  have c3 : convInt .u32 (I6 m) = some (W32 m) := q_cv32 (by omega) (by omega)
  have s1 := shl_p Tryd.prog 71 true (v := n) (p := 32) (b := 5) 5 rfl (by decide) rfl (by omega) (by omega)
  have s2 := shl_p Tryd.prog 71 true (v := m) (p := 65536) (b := 16) 16 rfl (by decide) rfl (by omega) (by omega)
  have o1 := or_f0 Tryd.prog 71 false (x := 4177526784) (v := d) (q := 32) 5 rfl (by omega) (by omega) (by omega) (by omega) (by omega)
  have o2 := or_fd Tryd.prog 71 false (x := 4177526784 + d) (v := n) (p := 32) (q := 32) 5 5 rfl rfl (by omega) (by omega) (by omega) (by omega) (by omega)
  have o3 := or_fd Tryd.prog 71 false (x := 4177526784 + d + n * 32) (v := m) (p := 65536) (q := 1) 16 0 rfl rfl (by omega) (by omega) (by omega) (by omega) (by omega)
  have t1 := shl_p Tryd.prog 71 true (v := imm) (p := 1024) (b := 10) 10 rfl (by decide) rfl (by omega) (by omega)
  have t2 := or_fd Tryd.prog 71 false (x := 4177526784 + d + n * 32 + m * 65536) (v := imm) (p := 1024) (q := 4096) 10 12 rfl rfl (by omega) (by omega) (by omega) (by omega) (by omega)
  have ew : wordF ⟨19, d, n, m, a, imm⟩ = 4177526784 + d + n * 32 + m * 65536 + imm * 1024 := rfl
  rw [ew]
  simp only [partsV, formF, Int.reduceEq, if_true, if_false, ↓reduceIte] at r2 r3
  clear ew
  rw [alembicref17_Word.step]
  unfold alembicref17_Word.c
  refine e_in ?_
  have fx := And.intro r1 <| And.intro r2 <| And.intro r3 <| And.intro c1 <| And.intro c2 <| And.intro c3 <| And.intro s1 <| And.intro s2 <| And.intro o1 <| And.intro o2 <| And.intro o3 <| And.intro t1 <| t2
  refine wkA ?_
  all_goals first | exact w2b rfl rfl | (refine w2b ?_ rfl; omega)
theorem rword_20 (G : Globs) (k : Nat) (d n m a imm : Int) (h : rightB ⟨20, d, n, m, a, imm⟩ = true) : alembicref17_Word.f G (k + 6) [mV 20 d n m a imm] [] = some (.tup [W32 (wordF ⟨20, d, n, m, a, imm⟩), .bool true], []) := by
  have r1 : ∀ H, pureCall (alembicref17_right.f G (k + 5)) [mV 20 d n m a imm] H = _ := fun H => pureCall_of (H := H) (rright_spec G k 20 d n m a imm) rfl rfl
  have r2 : ∀ H, pureCall (alembicref17_partsOf.f G (k + 5)) [.int .i64 20] H = _ := fun H => pureCall_of (H := H) (parts_spec G (k + 1) 20) rfl rfl
  have r3 : ∀ H, pureCall (alembicref17_base.f G (k + 5)) [.int .i64 20] H = _ := fun H => pureCall_of (H := H) (rbase_spec G (k + 4) 20 (by decide)) rfl rfl
  rw [h] at r1
  unfold rightB at h
  rw [Bool.and_eq_true] at h
  obtain ⟨_, h⟩ := h
  simp [formF, fairB, regB, extraB, immB, halfI, stackB] at h
  have c1 : convInt .u32 (I6 d) = some (W32 d) := q_cv32 (by omega) (by omega)
  have c2 : convInt .u32 (I6 n) = some (W32 n) := q_cv32 (by omega) (by omega)
  have c3 : convInt .u32 (I6 m) = some (W32 m) := q_cv32 (by omega) (by omega)
  have s1 := shl_p Tryd.prog 71 true (v := n) (p := 32) (b := 5) 5 rfl (by decide) rfl (by omega) (by omega)
  have s2 := shl_p Tryd.prog 71 true (v := m) (p := 65536) (b := 16) 16 rfl (by decide) rfl (by omega) (by omega)
  have o1 := or_f0 Tryd.prog 71 false (x := 335544320) (v := d) (q := 1) 0 rfl (by omega) (by omega) (by omega) (by omega) (by omega)
  have o2 := or_fd Tryd.prog 71 false (x := 335544320 + d) (v := n) (p := 32) (q := 1) 5 0 rfl rfl (by omega) (by omega) (by omega) (by omega) (by omega)
  have o3 := or_fd Tryd.prog 71 false (x := 335544320 + d + n * 32) (v := m) (p := 65536) (q := 1) 16 0 rfl rfl (by omega) (by omega) (by omega) (by omega) (by omega)
  have t1 : bin Tryd.prog .and 71 true (W32 (imm % 4294967296)) (.int .u32 67108863) = some (W32 (imm % 67108864)) := by
    have := and_low Tryd.prog 71 true (x := imm % 4294967296) (q := 67108863) 26 (by decide) rfl (by omega) (by omega)
    rw [this]; congr 2; omega
  have t2 := or_f0 Tryd.prog 71 false (x := 335544320 + d + n * 32 + m * 65536) (v := (imm % 67108864)) (q := 67108864) 26 rfl (by omega) (by omega) (by omega) (by omega) (by omega)
  have ew : wordF ⟨20, d, n, m, a, imm⟩ = 335544320 + d + n * 32 + m * 65536 + imm % 67108864 := rfl
  rw [ew]
  simp only [partsV, formF, Int.reduceEq, if_true, if_false, ↓reduceIte] at r2 r3
  clear ew
  rw [alembicref17_Word.step]
  unfold alembicref17_Word.c
  refine e_in ?_
  have fx := And.intro r1 <| And.intro r2 <| And.intro r3 <| And.intro c1 <| And.intro c2 <| And.intro c3 <| And.intro s1 <| And.intro s2 <| And.intro o1 <| And.intro o2 <| And.intro o3 <| And.intro cvM <| And.intro t1 <| t2
  refine wkA ?_
  all_goals first | exact w2b rfl rfl | (refine w2b ?_ rfl; omega)
theorem rword_21 (G : Globs) (k : Nat) (d n m a imm : Int) (h : rightB ⟨21, d, n, m, a, imm⟩ = true) : alembicref17_Word.f G (k + 6) [mV 21 d n m a imm] [] = some (.tup [W32 (wordF ⟨21, d, n, m, a, imm⟩), .bool true], []) := by
  have r1 : ∀ H, pureCall (alembicref17_right.f G (k + 5)) [mV 21 d n m a imm] H = _ := fun H => pureCall_of (H := H) (rright_spec G k 21 d n m a imm) rfl rfl
  have r2 : ∀ H, pureCall (alembicref17_partsOf.f G (k + 5)) [.int .i64 21] H = _ := fun H => pureCall_of (H := H) (parts_spec G (k + 1) 21) rfl rfl
  have r3 : ∀ H, pureCall (alembicref17_base.f G (k + 5)) [.int .i64 21] H = _ := fun H => pureCall_of (H := H) (rbase_spec G (k + 4) 21 (by decide)) rfl rfl
  rw [h] at r1
  unfold rightB at h
  rw [Bool.and_eq_true] at h
  obtain ⟨_, h⟩ := h
  simp [formF, fairB, regB, extraB, immB, halfI, stackB] at h
  have c1 : convInt .u32 (I6 d) = some (W32 d) := q_cv32 (by omega) (by omega)
  have c2 : convInt .u32 (I6 n) = some (W32 n) := q_cv32 (by omega) (by omega)
  have c3 : convInt .u32 (I6 m) = some (W32 m) := q_cv32 (by omega) (by omega)
  have s1 := shl_p Tryd.prog 71 true (v := n) (p := 32) (b := 5) 5 rfl (by decide) rfl (by omega) (by omega)
  have s2 := shl_p Tryd.prog 71 true (v := m) (p := 65536) (b := 16) 16 rfl (by decide) rfl (by omega) (by omega)
  have o1 := or_f0 Tryd.prog 71 false (x := 1409286144) (v := d) (q := 1) 0 rfl (by omega) (by omega) (by omega) (by omega) (by omega)
  have o2 := or_fd Tryd.prog 71 false (x := 1409286144 + d) (v := n) (p := 32) (q := 1) 5 0 rfl rfl (by omega) (by omega) (by omega) (by omega) (by omega)
  have o3 := or_fd Tryd.prog 71 false (x := 1409286144 + d + n * 32) (v := m) (p := 65536) (q := 1) 16 0 rfl rfl (by omega) (by omega) (by omega) (by omega) (by omega)
  have t0 : convInt .u32 (I6 a) = some (W32 a) := q_cv32 (by omega) (by omega)
  have t1 := or_f0 Tryd.prog 71 false (x := 1409286144 + d + n * 32 + m * 65536) (v := a) (q := 16) 4 rfl (by omega) (by omega) (by omega) (by omega) (by omega)
  have t2 : bin Tryd.prog .and 71 true (W32 (imm % 4294967296)) (.int .u32 524287) = some (W32 (imm % 524288)) := by
    have := and_low Tryd.prog 71 true (x := imm % 4294967296) (q := 524287) 19 (by decide) rfl (by omega) (by omega)
    rw [this]; congr 2; omega
  have t3 := shl_p Tryd.prog 71 true (v := (imm % 524288)) (p := 32) (b := 5) 5 rfl (by decide) rfl (by omega) (by omega)
  have t4 := or_fd Tryd.prog 71 false (x := 1409286144 + d + n * 32 + m * 65536 + a) (v := (imm % 524288)) (p := 32) (q := 524288) 5 19 rfl rfl (by omega) (by omega) (by omega) (by omega) (by omega)
  have ew : wordF ⟨21, d, n, m, a, imm⟩ = 1409286144 + d + n * 32 + m * 65536 + (a + imm % 524288 * 32) := rfl
  rw [ew]
  simp only [partsV, formF, Int.reduceEq, if_true, if_false, ↓reduceIte] at r2 r3
  clear ew
  rw [alembicref17_Word.step]
  unfold alembicref17_Word.c
  refine e_in ?_
  have fx := And.intro r1 <| And.intro r2 <| And.intro r3 <| And.intro c1 <| And.intro c2 <| And.intro c3 <| And.intro s1 <| And.intro s2 <| And.intro o1 <| And.intro o2 <| And.intro o3 <| And.intro t0 <| And.intro cvM <| And.intro t1 <| And.intro t2 <| And.intro t3 <| t4
  refine wkA ?_
  all_goals first | exact w2b rfl rfl | (refine w2b ?_ rfl; omega)
theorem rword_22 (G : Globs) (k : Nat) (d n m a imm : Int) (h : rightB ⟨22, d, n, m, a, imm⟩ = true) : alembicref17_Word.f G (k + 6) [mV 22 d n m a imm] [] = some (.tup [W32 (wordF ⟨22, d, n, m, a, imm⟩), .bool true], []) := by
  have r1 : ∀ H, pureCall (alembicref17_right.f G (k + 5)) [mV 22 d n m a imm] H = _ := fun H => pureCall_of (H := H) (rright_spec G k 22 d n m a imm) rfl rfl
  have r2 : ∀ H, pureCall (alembicref17_partsOf.f G (k + 5)) [.int .i64 22] H = _ := fun H => pureCall_of (H := H) (parts_spec G (k + 1) 22) rfl rfl
  have r3 : ∀ H, pureCall (alembicref17_base.f G (k + 5)) [.int .i64 22] H = _ := fun H => pureCall_of (H := H) (rbase_spec G (k + 4) 22 (by decide)) rfl rfl
  rw [h] at r1
  unfold rightB at h
  rw [Bool.and_eq_true] at h
  obtain ⟨_, h⟩ := h
  simp [formF, fairB, regB, extraB, immB, halfI, stackB] at h
  have c1 : convInt .u32 (I6 d) = some (W32 d) := q_cv32 (by omega) (by omega)
  have c2 : convInt .u32 (I6 n) = some (W32 n) := q_cv32 (by omega) (by omega)
  have c3 : convInt .u32 (I6 m) = some (W32 m) := q_cv32 (by omega) (by omega)
  have s1 := shl_p Tryd.prog 71 true (v := n) (p := 32) (b := 5) 5 rfl (by decide) rfl (by omega) (by omega)
  have s2 := shl_p Tryd.prog 71 true (v := m) (p := 65536) (b := 16) 16 rfl (by decide) rfl (by omega) (by omega)
  have o1 := or_f0 Tryd.prog 71 false (x := 3019898880) (v := d) (q := 32) 5 rfl (by omega) (by omega) (by omega) (by omega) (by omega)
  have o2 := or_fd Tryd.prog 71 false (x := 3019898880 + d) (v := n) (p := 32) (q := 1) 5 0 rfl rfl (by omega) (by omega) (by omega) (by omega) (by omega)
  have o3 := or_fd Tryd.prog 71 false (x := 3019898880 + d + n * 32) (v := m) (p := 65536) (q := 1) 16 0 rfl rfl (by omega) (by omega) (by omega) (by omega) (by omega)
  have t2 : bin Tryd.prog .and 71 true (W32 (imm % 4294967296)) (.int .u32 524287) = some (W32 (imm % 524288)) := by
    have := and_low Tryd.prog 71 true (x := imm % 4294967296) (q := 524287) 19 (by decide) rfl (by omega) (by omega)
    rw [this]; congr 2; omega
  have t3 := shl_p Tryd.prog 71 true (v := (imm % 524288)) (p := 32) (b := 5) 5 rfl (by decide) rfl (by omega) (by omega)
  have t4 := or_fd Tryd.prog 71 false (x := 3019898880 + d + n * 32 + m * 65536) (v := (imm % 524288)) (p := 32) (q := 524288) 5 19 rfl rfl (by omega) (by omega) (by omega) (by omega) (by omega)
  have ew : wordF ⟨22, d, n, m, a, imm⟩ = 3019898880 + d + n * 32 + m * 65536 + imm % 524288 * 32 := rfl
  rw [ew]
  simp only [partsV, formF, Int.reduceEq, if_true, if_false, ↓reduceIte] at r2 r3
  clear ew
  rw [alembicref17_Word.step]
  unfold alembicref17_Word.c
  refine e_in ?_
  have fx := And.intro r1 <| And.intro r2 <| And.intro r3 <| And.intro c1 <| And.intro c2 <| And.intro c3 <| And.intro s1 <| And.intro s2 <| And.intro o1 <| And.intro o2 <| And.intro o3 <| And.intro cvM <| And.intro t2 <| And.intro t3 <| t4
  refine wkA ?_
  all_goals first | exact w2b rfl rfl | (refine w2b ?_ rfl; omega)
theorem rword_23 (G : Globs) (k : Nat) (d n m a imm : Int) (h : rightB ⟨23, d, n, m, a, imm⟩ = true) : alembicref17_Word.f G (k + 6) [mV 23 d n m a imm] [] = some (.tup [W32 (wordF ⟨23, d, n, m, a, imm⟩), .bool true], []) := by
  have r1 : ∀ H, pureCall (alembicref17_right.f G (k + 5)) [mV 23 d n m a imm] H = _ := fun H => pureCall_of (H := H) (rright_spec G k 23 d n m a imm) rfl rfl
  have r2 : ∀ H, pureCall (alembicref17_partsOf.f G (k + 5)) [.int .i64 23] H = _ := fun H => pureCall_of (H := H) (parts_spec G (k + 1) 23) rfl rfl
  have r3 : ∀ H, pureCall (alembicref17_base.f G (k + 5)) [.int .i64 23] H = _ := fun H => pureCall_of (H := H) (rbase_spec G (k + 4) 23 (by decide)) rfl rfl
  rw [h] at r1
  unfold rightB at h
  rw [Bool.and_eq_true] at h
  obtain ⟨_, h⟩ := h
  simp [formF, fairB, regB, extraB, immB, halfI, stackB] at h
  have c1 : convInt .u32 (I6 d) = some (W32 d) := q_cv32 (by omega) (by omega)
  have c2 : convInt .u32 (I6 n) = some (W32 n) := q_cv32 (by omega) (by omega)
  have c3 : convInt .u32 (I6 m) = some (W32 m) := q_cv32 (by omega) (by omega)
  have s1 := shl_p Tryd.prog 71 true (v := n) (p := 32) (b := 5) 5 rfl (by decide) rfl (by omega) (by omega)
  have s2 := shl_p Tryd.prog 71 true (v := m) (p := 65536) (b := 16) 16 rfl (by decide) rfl (by omega) (by omega)
  have o1 := or_f0 Tryd.prog 71 false (x := 3036676096) (v := d) (q := 32) 5 rfl (by omega) (by omega) (by omega) (by omega) (by omega)
  have o2 := or_fd Tryd.prog 71 false (x := 3036676096 + d) (v := n) (p := 32) (q := 1) 5 0 rfl rfl (by omega) (by omega) (by omega) (by omega) (by omega)
  have o3 := or_fd Tryd.prog 71 false (x := 3036676096 + d + n * 32) (v := m) (p := 65536) (q := 1) 16 0 rfl rfl (by omega) (by omega) (by omega) (by omega) (by omega)
  have t2 : bin Tryd.prog .and 71 true (W32 (imm % 4294967296)) (.int .u32 524287) = some (W32 (imm % 524288)) := by
    have := and_low Tryd.prog 71 true (x := imm % 4294967296) (q := 524287) 19 (by decide) rfl (by omega) (by omega)
    rw [this]; congr 2; omega
  have t3 := shl_p Tryd.prog 71 true (v := (imm % 524288)) (p := 32) (b := 5) 5 rfl (by decide) rfl (by omega) (by omega)
  have t4 := or_fd Tryd.prog 71 false (x := 3036676096 + d + n * 32 + m * 65536) (v := (imm % 524288)) (p := 32) (q := 524288) 5 19 rfl rfl (by omega) (by omega) (by omega) (by omega) (by omega)
  have ew : wordF ⟨23, d, n, m, a, imm⟩ = 3036676096 + d + n * 32 + m * 65536 + imm % 524288 * 32 := rfl
  rw [ew]
  simp only [partsV, formF, Int.reduceEq, if_true, if_false, ↓reduceIte] at r2 r3
  clear ew
  rw [alembicref17_Word.step]
  unfold alembicref17_Word.c
  refine e_in ?_
  have fx := And.intro r1 <| And.intro r2 <| And.intro r3 <| And.intro c1 <| And.intro c2 <| And.intro c3 <| And.intro s1 <| And.intro s2 <| And.intro o1 <| And.intro o2 <| And.intro o3 <| And.intro cvM <| And.intro t2 <| And.intro t3 <| t4
  refine wkA ?_
  all_goals first | exact w2b rfl rfl | (refine w2b ?_ rfl; omega)
theorem rword_24 (G : Globs) (k : Nat) (d n m a imm : Int) (h : rightB ⟨24, d, n, m, a, imm⟩ = true) : alembicref17_Word.f G (k + 6) [mV 24 d n m a imm] [] = some (.tup [W32 (wordF ⟨24, d, n, m, a, imm⟩), .bool true], []) := by
  have r1 : ∀ H, pureCall (alembicref17_right.f G (k + 5)) [mV 24 d n m a imm] H = _ := fun H => pureCall_of (H := H) (rright_spec G k 24 d n m a imm) rfl rfl
  have r2 : ∀ H, pureCall (alembicref17_partsOf.f G (k + 5)) [.int .i64 24] H = _ := fun H => pureCall_of (H := H) (parts_spec G (k + 1) 24) rfl rfl
  have r3 : ∀ H, pureCall (alembicref17_base.f G (k + 5)) [.int .i64 24] H = _ := fun H => pureCall_of (H := H) (rbase_spec G (k + 4) 24 (by decide)) rfl rfl
  rw [h] at r1
  unfold rightB at h
  rw [Bool.and_eq_true] at h
  obtain ⟨_, h⟩ := h
  simp [formF, fairB, regB, extraB, immB, halfI, stackB] at h
  have c1 : convInt .u32 (I6 d) = some (W32 d) := q_cv32 (by omega) (by omega)
  have c2 : convInt .u32 (I6 n) = some (W32 n) := q_cv32 (by omega) (by omega)
  have c3 : convInt .u32 (I6 m) = some (W32 m) := q_cv32 (by omega) (by omega)
  have s1 := shl_p Tryd.prog 71 true (v := n) (p := 32) (b := 5) 5 rfl (by decide) rfl (by omega) (by omega)
  have s2 := shl_p Tryd.prog 71 true (v := m) (p := 65536) (b := 16) 16 rfl (by decide) rfl (by omega) (by omega)
  have o1 := or_f0 Tryd.prog 71 false (x := 3560964096) (v := d) (q := 1) 0 rfl (by omega) (by omega) (by omega) (by omega) (by omega)
  have o2 := or_fd Tryd.prog 71 false (x := 3560964096 + d) (v := n) (p := 32) (q := 1) 5 0 rfl rfl (by omega) (by omega) (by omega) (by omega) (by omega)
  have o3 := or_fd Tryd.prog 71 false (x := 3560964096 + d + n * 32) (v := m) (p := 65536) (q := 1) 16 0 rfl rfl (by omega) (by omega) (by omega) (by omega) (by omega)
  have t1 := shl_p Tryd.prog 71 true (v := imm) (p := 32) (b := 5) 5 rfl (by decide) rfl (by omega) (by omega)
  have t2 := or_fd Tryd.prog 71 false (x := 3560964096 + d + n * 32 + m * 65536) (v := imm) (p := 32) (q := 65536) 5 16 rfl rfl (by omega) (by omega) (by omega) (by omega) (by omega)
  have ew : wordF ⟨24, d, n, m, a, imm⟩ = 3560964096 + d + n * 32 + m * 65536 + imm * 32 := rfl
  rw [ew]
  simp only [partsV, formF, Int.reduceEq, if_true, if_false, ↓reduceIte] at r2 r3
  clear ew
  rw [alembicref17_Word.step]
  unfold alembicref17_Word.c
  refine e_in ?_
  have fx := And.intro r1 <| And.intro r2 <| And.intro r3 <| And.intro c1 <| And.intro c2 <| And.intro c3 <| And.intro s1 <| And.intro s2 <| And.intro o1 <| And.intro o2 <| And.intro o3 <| And.intro t1 <| t2
  refine wkA ?_
  all_goals first | exact w2b rfl rfl | (refine w2b ?_ rfl; omega)
theorem rword_spec (G : Globs) (k : Nat) (i : MI) : alembicref17_Word.f G (k + 6) [i.v] [] = some (.tup [W32 (wordR i), .bool (rightB i)], []) := by
  cases hr : rightB i
  · have e : wordR i = 0 := by unfold wordR; rw [hr]; rfl
    rw [e]
    obtain ⟨op, d, n, m, a, imm⟩ := i
    show alembicref17_Word.f G (k + 6) [mV op d n m a imm] [] = _
    have r1 : ∀ H, pureCall (alembicref17_right.f G (k + 5)) [mV op d n m a imm] H = _ := fun H => pureCall_of (H := H) (rright_spec G k op d n m a imm) rfl rfl
    rw [hr] at r1
    rw [alembicref17_Word.step]
    unfold alembicref17_Word.c
    refine e_in ?_
    have fx := r1
    refine wkA ?_
    exact w2 rfl rfl rfl
  · have e : wordR i = wordF i := by unfold wordR; rw [hr]; rfl
    rw [e]
    obtain ⟨op, d, n, m, a, imm⟩ := i
    show alembicref17_Word.f G (k + 6) [mV op d n m a imm] [] = _
    have h24 : 1 ≤ op ∧ op ≤ 24 := right24 hr
    rcases op24 h24 with rfl | rfl | rfl | rfl | rfl | rfl | rfl | rfl | rfl | rfl | rfl | rfl | rfl | rfl | rfl | rfl | rfl | rfl | rfl | rfl | rfl | rfl | rfl | rfl
    · exact rword_1 G k d n m a imm hr
    · exact rword_2 G k d n m a imm hr
    · exact rword_3 G k d n m a imm hr
    · exact rword_4 G k d n m a imm hr
    · exact rword_5 G k d n m a imm hr
    · exact rword_6 G k d n m a imm hr
    · exact rword_7 G k d n m a imm hr
    · exact rword_8 G k d n m a imm hr
    · exact rword_9 G k d n m a imm hr
    · exact rword_10 G k d n m a imm hr
    · exact rword_11 G k d n m a imm hr
    · exact rword_12 G k d n m a imm hr
    · exact rword_13 G k d n m a imm hr
    · exact rword_14 G k d n m a imm hr
    · exact rword_15 G k d n m a imm hr
    · exact rword_16 G k d n m a imm hr
    · exact rword_17 G k d n m a imm hr
    · exact rword_18 G k d n m a imm hr
    · exact rword_19 G k d n m a imm hr
    · exact rword_20 G k d n m a imm hr
    · exact rword_21 G k d n m a imm hr
    · exact rword_22 G k d n m a imm hr
    · exact rword_23 G k d n m a imm hr
    · exact rword_24 G k d n m a imm hr
end Go.Proofs.YtdfglgnflldkpaaDoor.Mir
namespace Go.Proofs.YtdfglgnflldkpaaDoor.Mir
open Go
set_option linter.unusedVariables false
set_option linter.unusedSimpArgs false
set_option maxHeartbeats 8000000
set_option maxRecDepth 20000
theorem rsigned_spec (G : Globs) (k : Nat) (w b h : Int) (hb : (b = 19 ∧ h = 262144) ∨ (b = 26 ∧ h = 33554432)) (h0 : 0 ≤ w) (h1 : w < 4294967296) : alembicref17_signed.f G (k + 1) [W32 w, I6 b] [] = some (I6 (sgnF (w % (2 * h)) h), []) := by
  rw [alembicref17_signed.step]
  unfold alembicref17_signed.c sgnF
  obtain ⟨s1, s2, s3, s4, s5, s6, s7⟩ : convInt .u64 (I6 b) = some (.int .u64 b) ∧ bin Tryd.prog .shl 71 true (.int .u32 1) (.int .u64 b) = some (W32 (2 * h)) ∧ bin Tryd.prog .sub 71 true (W32 (2 * h)) (.int .u32 1) = some (W32 (2 * h - 1)) ∧ bin Tryd.prog .sub 3 true (I6 b) (.int .i64 1) = some (I6 (b - 1)) ∧
      convInt .u64 (I6 (b - 1)) = some (.int .u64 (b - 1)) ∧ bin Tryd.prog .shl 3 true (.int .i64 1) (.int .u64 (b - 1)) = some (I6 h) ∧ bin Tryd.prog .shl 3 true (.int .i64 1) (.int .u64 b) = some (I6 (2 * h)) := by
    clear h0 h1
    rcases hb with ⟨rfl, rfl⟩ | ⟨rfl, rfl⟩
    · exact ⟨by kernel_rfl, by kernel_rfl, by kernel_rfl, by kernel_rfl, by kernel_rfl, by kernel_rfl, by kernel_rfl⟩
    · exact ⟨by kernel_rfl, by kernel_rfl, by kernel_rfl, by kernel_rfl, by kernel_rfl, by kernel_rfl, by kernel_rfl⟩
  have s8 : bin Tryd.prog .and 71 false (W32 w) (W32 (2 * h - 1)) = some (W32 (w % (2 * h))) := by
    rcases hb with ⟨rfl, rfl⟩ | ⟨rfl, rfl⟩
    · exact and_low Tryd.prog 71 false (x := w) (q := 524287) 19 (by decide) rfl h0 h1
    · exact and_low Tryd.prog 71 false (x := w) (q := 67108863) 26 (by decide) rfl h0 h1
  have m0 : 0 ≤ w % (2 * h) := Int.emod_nonneg _ (by omega)
  have m1 : w % (2 * h) < 2 * h := Int.emod_lt_of_pos _ (by omega)
  have hh : 0 ≤ h ∧ h ≤ 33554432 := by omega
  clear hb
  generalize w % (2 * h) = z at *
  refine e_in ?_
  by_cases hc : h ≤ z
  · rw [if_pos hc]
    have fx := And.intro s1 <| And.intro s2 <| And.intro s3 <| And.intro s4 <| And.intro s5 <| And.intro s6 <| And.intro s7 <| s8
    refine wkA ?_
    exact w1i rfl
  · rw [if_neg hc]
    have fx := And.intro s1 <| And.intro s2 <| And.intro s3 <| And.intro s4 <| And.intro s5 <| And.intro s6 <| And.intro s7 <| s8
    refine wkA ?_
    exact w1i rfl
/-- The document's: a word as an instruction of a kind. -/
def rasF (op w : Int) : MI := if op = 12 then ⟨12, w % 32, w / 32 % 32, 0, 0, (64 - w / 65536 % 64) % 64⟩ else asF op w
def rasB (op w : Int) : Bool := rightB (rasF op w) && decide (wordF (rasF op w) = w)
def rasV (op w : Int) : AV := if rasB op w = true then .tup [(rasF op w).v, .bool true] else .tup [mV 0 0 0 0 0 0, .bool false]
theorem ras_spec (G : Globs) (k : Nat) (op w : Int) (hop : 1 ≤ op ∧ op ≤ 24) (h0 : 0 ≤ w) (h1 : w < 4294967296) : alembicref17_as.f G (k + 7) [I6 op, W32 w] [] = some (rasV op w, []) := by
  rw [alembicref17_as.step]
  unfold alembicref17_as.c
  have r1 : ∀ H, pureCall (alembicref17_partsOf.f G (k + 6)) [I6 op] H = _ := fun H => pureCall_of (H := H) (parts_spec G (k + 2) op) rfl rfl
  have r3 : ∀ H, pureCall (alembicref17_Word.f G (k + 6)) [(rasF op w).v] H = _ := fun H => pureCall_of (H := H) (rword_spec G k (rasF op w)) rfl rfl
  have r4 : rightB (rasF op w) = true → wordR (rasF op w) = wordF (rasF op w) := fun h => by unfold wordR; rw [if_pos h]
  have d1 : 0 ≤ w / 32 ∧ w / 32 < 4294967296 := by omega
  have g19 : ∀ H, pureCall (alembicref17_signed.f G (k + 6)) [W32 (w / 32), .int .i64 19] H = some (I6 (sgnF (w / 32 % 524288) 262144), H) := fun H => pureCall_of (H := H) (rsigned_spec G (k + 5) (w / 32) 19 262144 (.inl ⟨rfl, rfl⟩) d1.1 d1.2) rfl rfl
  have g26 : ∀ H, pureCall (alembicref17_signed.f G (k + 6)) [W32 w, .int .i64 26] H = some (I6 (sgnF (w % 67108864) 33554432), H) := fun H => pureCall_of (H := H) (rsigned_spec G (k + 5) w 26 33554432 (.inr ⟨rfl, rfl⟩) h0 h1) rfl rfl
  have s5 := shr_p Tryd.prog 71 true .u64 (v := w) (p := 32) (b := 5) 5 rfl (by decide) rfl h0
  have s10 := shr_p Tryd.prog 71 true .u64 (v := w) (p := 1024) (b := 10) 10 rfl (by decide) rfl h0
  have s12 := shr_p Tryd.prog 71 true .u64 (v := w) (p := 4096) (b := 12) 12 rfl (by decide) rfl h0
  have s16 := shr_p Tryd.prog 71 true .u64 (v := w) (p := 65536) (b := 16) 16 rfl (by decide) rfl h0
  have s21 := shr_p Tryd.prog 71 true .u64 (v := w) (p := 2097152) (b := 21) 21 rfl (by decide) rfl h0
  have a0 : bin Tryd.prog .and 71 true (W32 w) (.int .u32 31) = some (W32 (w % 32)) := and_low _ _ _ (x := w) (q := 31) 5 (by decide) rfl (by omega) (by omega)
  have a5 : bin Tryd.prog .and 71 true (W32 (w / 32)) (.int .u32 31) = some (W32 (w / 32 % 32)) := and_low _ _ _ (x := w / 32) (q := 31) 5 (by decide) rfl (by omega) (by omega)
  have a16 : bin Tryd.prog .and 71 true (W32 (w / 65536)) (.int .u32 31) = some (W32 (w / 65536 % 32)) := and_low _ _ _ (x := w / 65536) (q := 31) 5 (by decide) rfl (by omega) (by omega)
  have a21 : bin Tryd.prog .and 71 true (W32 (w / 2097152)) (.int .u32 3) = some (W32 (w / 2097152 % 4)) := and_low _ _ _ (x := w / 2097152) (q := 3) 2 (by decide) rfl (by omega) (by omega)
  have a10 : bin Tryd.prog .and 71 true (W32 (w / 1024)) (.int .u32 31) = some (W32 (w / 1024 % 32)) := and_low _ _ _ (x := w / 1024) (q := 31) 5 (by decide) rfl (by omega) (by omega)
  have a12 : bin Tryd.prog .and 71 true (W32 (w / 4096)) (.int .u32 15) = some (W32 (w / 4096 % 16)) := and_low _ _ _ (x := w / 4096) (q := 15) 4 (by decide) rfl (by omega) (by omega)
  have a4 : bin Tryd.prog .and 71 true (W32 w) (.int .u32 15) = some (W32 (w % 16)) := and_low _ _ _ (x := w) (q := 15) 4 (by decide) rfl (by omega) (by omega)
  have b16 : bin Tryd.prog .and 71 true (W32 (w / 65536)) (.int .u32 63) = some (W32 (w / 65536 % 64)) := and_low _ _ _ (x := w / 65536) (q := 63) 6 (by decide) rfl (by omega) (by omega)
  have b10 : bin Tryd.prog .and 71 true (W32 (w / 1024)) (.int .u32 4095) = some (W32 (w / 1024 % 4096)) := and_low _ _ _ (x := w / 1024) (q := 4095) 12 (by decide) rfl (by omega) (by omega)
  have b5 : bin Tryd.prog .and 71 true (W32 (w / 32)) (.int .u32 65535) = some (W32 (w / 32 % 65536)) := and_low _ _ _ (x := w / 32) (q := 65535) 16 (by decide) rfl (by omega) (by omega)
  have x1 := xor1i Tryd.prog 3 true (a := w / 4096 % 16) (by omega) (by omega)
  have l1 : bin Tryd.prog .sub 3 true (.int .i64 64) (I6 (w / 65536 % 64)) = some (I6 (64 - w / 65536 % 64)) := q_sub (by omega) (by omega)
  have l2 : bin Tryd.prog .rem 3 true (I6 (64 - w / 65536 % 64)) (.int .i64 64) = some (I6 ((64 - w / 65536 % 64) % 64)) := by
    rw [bin_rem _ _ _ _ _ _ (by decide), Int.tmod_eq_emod_of_nonneg (by omega)]
  unfold rasV rasB
  generalize wordR (rasF op w) = zr at *
  generalize wordF (rasF op w) = zf at *
  generalize rightB (rasF op w) = b at *
  clear d1
  refine e_in ?_
  rcases op24 hop with rfl | rfl | rfl | rfl | rfl | rfl | rfl | rfl | rfl | rfl | rfl | rfl | rfl | rfl | rfl | rfl | rfl | rfl | rfl | rfl | rfl | rfl | rfl | rfl
  all_goals (
    clear hop
    simp only [partsV, formF, Int.reduceEq, if_true, if_false, ↓reduceIte] at r1
    simp only [rasF, asF, formF, exA, exI, MI.v, Int.reduceEq, or_false, false_or, or_self, true_or, or_true, if_true, if_false, ↓reduceIte, Bool.false_eq_true] at r3 ⊢
    cases b
    · simp only [Bool.false_and, Bool.false_eq_true, if_false, ↓reduceIte]
      have fx := And.intro r1 <| And.intro r3 <| And.intro g19 <| And.intro g26 <| And.intro s5 <| And.intro s10 <| And.intro s12 <| And.intro s16 <| And.intro s21 <| And.intro a0 <| And.intro a5 <| And.intro a16 <| And.intro a21 <| And.intro a10 <| And.intro a12 <| And.intro a4 <| And.intro b16 <| And.intro b10 <| And.intro b5 <| And.intro x1 <| And.intro l1 <| l2
      refine wkB ?_
      exact oF (finL_two rfl rfl rfl)
    · have r4 := r4 rfl
      subst r4
      by_cases hz : zr = w
      · rw [decide_eq_true hz]
        simp only [Bool.and_self, ↓reduceIte]
        have fx := And.intro r1 <| And.intro r3 <| And.intro g19 <| And.intro g26 <| And.intro s5 <| And.intro s10 <| And.intro s12 <| And.intro s16 <| And.intro s21 <| And.intro a0 <| And.intro a5 <| And.intro a16 <| And.intro a21 <| And.intro a10 <| And.intro a12 <| And.intro a4 <| And.intro b16 <| And.intro b10 <| And.intro b5 <| And.intro x1 <| And.intro l1 <| l2
        refine wkB ?_
        exact oF (finL_two rfl rfl rfl)
      · rw [decide_eq_false hz]
        simp only [Bool.and_false, Bool.false_eq_true, ↓reduceIte]
        have fx := And.intro r1 <| And.intro r3 <| And.intro g19 <| And.intro g26 <| And.intro s5 <| And.intro s10 <| And.intro s12 <| And.intro s16 <| And.intro s21 <| And.intro a0 <| And.intro a5 <| And.intro a16 <| And.intro a21 <| And.intro a10 <| And.intro a12 <| And.intro a4 <| And.intro b16 <| And.intro b10 <| And.intro b5 <| And.intro x1 <| And.intro l1 <| l2
        refine wkB ?_
        exact oF (finL_two rfl rfl rfl))
end Go.Proofs.YtdfglgnflldkpaaDoor.Mir
namespace Go.Proofs.YtdfglgnflldkpaaDoor.Mir
open Go
set_option linter.unusedVariables false
set_option linter.unusedSimpArgs false
set_option maxHeartbeats 8000000
set_option maxRecDepth 20000
def rfindF : Nat → Int → Int → Option MI
  | 0, _, _ => none
  | d + 1, op, w => if op ≠ 12 ∧ rasB op w = true then some (rasF op w) else rfindF d (op + 1) w
def rofF (w : Int) : Option MI := match rfindF 24 1 w with
  | some i => some i
  | none => if rasB 12 w = true then some (rasF 12 w) else none
theorem ras_ne {op w : Int} (h : op ≠ 12) : rasF op w = asF op w := by unfold rasF; rw [if_neg h]
theorem rasB_ok {op w : Int} (h : op ≠ 12) : rasB op w = okB op w := by
  unfold rasB okB asB
  rw [ras_ne h, decide_eq_true h]
  simp
theorem rfind_some : ∀ {d : Nat} {op w : Int} {i : MI}, rfindF d op w = some i → ∃ o, o ≠ 12 ∧ okB o w = true ∧ i = asF o w ∧ op ≤ o ∧ o < op + d
  | 0, op, w, i, h => by cases h
  | d + 1, op, w, i, h => by
    unfold rfindF at h
    by_cases hk : op ≠ 12 ∧ rasB op w = true
    · rw [if_pos hk] at h
      simp at h
      exact ⟨op, hk.1, by rw [← rasB_ok hk.1]; exact hk.2, by rw [← ras_ne hk.1]; exact h.symm, by omega, by omega⟩
    · rw [if_neg hk] at h
      obtain ⟨o, h0, h1, h2, h3, h4⟩ := rfind_some h
      exact ⟨o, h0, h1, h2, by omega, by omega⟩
theorem rfind_none : ∀ {d : Nat} {op w : Int}, rfindF d op w = none → ∀ o : Int, o ≠ 12 → op ≤ o → o < op + d → okB o w = false
  | 0, op, w, _, o, _, h1, h2 => by omega
  | d + 1, op, w, h, o, h0, h1, h2 => by
    unfold rfindF at h
    by_cases hk : op ≠ 12 ∧ rasB op w = true
    · rw [if_pos hk] at h; cases h
    · rw [if_neg hk] at h
      by_cases ho : o = op
      · subst ho
        rw [rasB_ok h0] at hk
        simpa [h0] using hk
      · exact rfind_none h o h0 (by omega) (by omega)
theorem find_of {d : Nat} {w : Int} {i : MI} (h : rfindF d 1 w = some i) : ofF w = some i := by
  obtain ⟨o, h0, h1, rfl, _, _⟩ := rfind_some h
  obtain ⟨⟨h2, h3⟩, h4⟩ := okB_iff.1 h1
  exact of_iff.2 ⟨h2, h3, h4⟩
theorem rofF_eq (w : Int) : rofF w = ofF w := by
  unfold rofF
  cases hr : rfindF 24 1 w with
  | some i => exact (find_of hr).symm
  | none =>
    simp only
    have hn := rfind_none hr
    cases hq : ofF w with
    | some i =>
      obtain ⟨h1, h2, h3⟩ := of_some hq
      have h24 := right24 h1
      have hop : i.op = 12 := by
        apply Classical.byContradiction
        intro hne
        have h4 := hn i.op hne h24.1 (by omega)
        have hk : okB i.op w = true := by
          subst h2
          rw [okB_iff, (word_all h1).2.2.1]
          exact ⟨⟨h1, rfl⟩, h3⟩
        rw [hk] at h4; cases h4
      have e : rasF 12 w = i := by
        obtain ⟨op, d, n, m, a, imm⟩ := i
        simp only at hop; subst hop
        unfold rightB at h1
        rw [Bool.and_eq_true] at h1
        obtain ⟨_, h1⟩ := h1
        simp [formF, fairB, regB, extraB, immB, halfI, stackB] at h1
        have h2' : w = 3544186880 + d + n * 32 + m * 65536 + ((64 - imm) % 64 * 65536 + (63 - imm) * 1024) := h2.symm
        have hi : imm ≠ 0 := fun h => h3 ⟨rfl, h⟩
        have e64 : (64 - imm) % 64 = 64 - imm := by omega
        rw [e64] at h2'
        clear h2
        have e65 : w / 65536 = 54144 - imm := by omega
        simp [rasF]
        refine ⟨?_, ?_, ?_, ?_, ?_⟩ <;> omega
      have hb : rasB 12 w = true := by
        unfold rasB
        rw [e, h1, h2]; simp
      rw [if_pos hb, e]
    | none =>
      by_cases hb : rasB 12 w = true
      · exfalso
        have hb' := hb
        unfold rasB at hb'
        rw [Bool.and_eq_true] at hb'
        obtain ⟨h1, h2⟩ := hb'
        have h2 := of_decide_eq_true h2
        by_cases hs : (rasF 12 w).imm = 0
        · obtain ⟨i, hi⟩ : ∃ i, i = rasF 12 w := ⟨_, rfl⟩
          rw [← hi] at h1 h2 hs
          have ho : i.op = 12 := by rw [hi]; rfl
          obtain ⟨op, d, n, m, a, imm⟩ := i
          simp only at ho hs; subst ho; subst hs
          have e1 : rightB ⟨13, d, n, m, a, 0⟩ = true := by
            have : rightB ⟨13, d, n, m, a, 0⟩ = rightB ⟨12, d, n, m, a, 0⟩ := rfl
            rw [this]; exact h1
          have e2 : wordF ⟨13, d, n, m, a, 0⟩ = w := by
            rw [← h2]; rfl
          have := of_iff.2 ⟨e1, e2, by simp⟩
          rw [hq] at this; cases this
        · have := of_iff.2 ⟨h1, h2, fun h => hs h.2⟩
          rw [hq] at this; cases this
      · rw [if_neg hb]
theorem rof_loop (G : Globs) (k : Nat) (self : Den) (w : Int) (h0 : 0 ≤ w) (h1 : w < 4294967296) : ∀ (d f : Nat) (op : Int) (T : AHeap), op + (d : Int) = 25 → 1 ≤ op → d < f →
    ∃ T', loopN (alembicref17_Of.l2 G (k + 7) 1 self) f [W32 w, .ptr 0 1 0 0, .bool false, I6 op] (⟨57, 6, [mV 0 0 0 0 0 0]⟩ :: T) = some (ofStep (rfindF d op w) w T')
  | d, 0, op, T, h, _, hf => by omega
  | 0, f + 1, op, T, h, _, hf => by
    rw [loopN_succ, alembicref17_Of.l2]
    have hc : cutH 1 [W32 w, .ptr 0 1 0 0, .bool false, I6 op] (⟨57, 6, [mV 0 0 0 0 0 0]⟩ :: T) = some [⟨57, 6, [mV 0 0 0 0 0 0]⟩] := rfl
    have e : op = 25 := by omega
    subst e
    refine ⟨[], ?_⟩
    refine e_id ?_
    refine eC hc ?_
    have fx := True.intro
    refine wkA ?_
    refine e_out ?_; rfl
  | d + 1, f + 1, op, T, h, hop, hf => by
    rw [loopN_succ, alembicref17_Of.l2]
    have hc : cutH 1 [W32 w, .ptr 0 1 0 0, .bool false, I6 op] (⟨57, 6, [mV 0 0 0 0 0 0]⟩ :: T) = some [⟨57, 6, [mV 0 0 0 0 0 0]⟩] := rfl
    have ih := fun T => rof_loop G k self w h0 h1 d f (op + 1) T (by omega) (by omega) (by omega)
    have q1 : bin Tryd.prog .leq 3 true (I6 op) (.int .i64 24) = some (.bool true) := q_leq_t (by omega)
    have q2 : bin Tryd.prog .add 3 true (I6 op) (.int .i64 1) = some (I6 (op + 1)) := q_add (by omega) (by omega)
    unfold rfindF
    by_cases h12 : op = 12
    · rw [if_neg (by simp [h12])]
      subst h12
      obtain ⟨T', ih⟩ := ih []
      refine ⟨T', ?_⟩
      refine e_id ?_
      refine eC hc ?_
      have fx := And.intro q1 <| q2
      refine wkA ?_
      exact ih
    · have r1 : ∀ H, pureCall (alembicref17_as.f G (k + 7)) [I6 op, W32 w] H = some (rasV op w, H) := fun H => pureCall_of (H := H) (ras_spec G k op w (by omega) h0 h1) rfl (by unfold rasV; split <;> rfl)
      have q3 : bin Tryd.prog .eql 3 true (I6 op) (.int .i64 12) = some (.bool false) := q_eql_f h12
      have e0 : (rasF op w).op = op := by rw [ras_ne h12]; rfl
      unfold rasV at r1
      generalize rasB op w = b at *
      generalize rasF op w = i at *
      obtain ⟨op', xd, xn, xm, xa, xi⟩ := i
      simp only at e0
      subst e0
      unfold MI.v at *
      simp only at *
      clear h1 h hf hop h0
      cases b
      · rw [if_neg (by simp)]
        simp only [Bool.false_eq_true, if_false] at r1
        obtain ⟨T', ih⟩ := ih [⟨57, 6, [mV 0 0 0 0 0 0]⟩]
        refine ⟨T', ?_⟩
        refine e_id ?_
        refine eC hc ?_
        have fx := And.intro r1 <| And.intro q1 <| And.intro q2 <| q3
        refine wkA ?_
        exact ih
      · rw [if_pos (by simp [h12])]
        simp only [if_true] at r1
        refine ⟨[⟨57, 6, [.agg [I6 op', I6 xd, I6 xn, I6 xm, I6 xa, I6 xi]]⟩], ?_⟩
        refine e_id ?_
        refine eC hc ?_
        have fx := And.intro r1 <| And.intro q1 <| And.intro q2 <| q3
        refine wkA ?_
        refine e_out ?_; rfl
theorem rOf_spec (G : Globs) (k : Nat) (w : Int) (h0 : 0 ≤ w) (h1 : w < 4294967296) : alembicref17_Of.f G (k + 40) [W32 w] [] = some (ofV (ofF w), []) := by
  rw [← rofF_eq]
  rw [alembicref17_Of.step]
  unfold alembicref17_Of.c
  obtain ⟨T', lp⟩ : ∃ T', loopN (alembicref17_Of.l2 G (k + 39) 1 (alembicref17_Of.f G (k + 39))) (k + 39) [W32 w, .ptr 0 1 0 0, .bool false, .int .i64 1] [⟨57, 6, [mV 0 0 0 0 0 0]⟩] = some (ofStep (rfindF 24 1 w) w T') := rof_loop G (k + 32) (alembicref17_Of.f G (k + 39)) w h0 h1 24 (k + 39) 1 [] (by decide) (by decide) (by omega)
  have r1 : ∀ H, pureCall (alembicref17_as.f G (k + 39)) [.int .i64 12, W32 w] H = some (rasV 12 w, H) := fun H => pureCall_of (H := H) (ras_spec G (k + 32) 12 w (by decide) h0 h1) rfl (by unfold rasV; split <;> rfl)
  unfold rofF
  unfold rasV at r1
  have e0 : (rasF 12 w).op = 12 := rfl
  generalize rfindF 24 1 w = q at *
  generalize rasB 12 w = b at *
  generalize rasF 12 w = i at *
  obtain ⟨op', xd, xn, xm, xa, xi⟩ := i
  refine e_in ?_
  cases q with
  | none =>
    unfold ofStep at lp
    simp only at lp
    cases b
    · simp only [Bool.false_eq_true, if_false] at r1 ⊢
      have fx := r1
      have lx1 := lp
      refine wkA ?_
      exact oF (finL_two rfl rfl rfl)
    · simp only [if_true] at r1 ⊢
      unfold MI.v at *
      have fx := r1
      have lx1 := lp
      refine wkA ?_
      exact oF (finL_two rfl rfl rfl)
  | some i =>
    unfold ofStep at lp
    simp only at lp
    have fx := True.intro
    have lx1 := lp
    refine wkA ?_
    exact oF (finL_two rfl rfl rfl)
end Go.Proofs.YtdfglgnflldkpaaDoor.Mir
