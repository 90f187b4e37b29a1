/- Printed by rowgen.py: the row of IsaBack, out of its law in plain Lean. -/
import Derived.Test.YtbamoecablpfjaaV3
import Derived.Test.YtbamoecablpfjaaRows
import Derived.KernelRfl
import Derived.SizedLaws
namespace Go.Proofs.Ytbamoecablpfjaa
open Go Go.ChangeShapes Go.WideShapes Go.RowKit Mir
set_option linter.unusedVariables false
set_option linter.unusedSimpArgs false
namespace Rk
theorem own : ownKnob Try.prog.godebug = none := by kernel_rfl
theorem laidOut : laidOutB Try.prog = true := by kernel_rfl
end Rk
end Go.Proofs.Ytbamoecablpfjaa
namespace Go.Proofs.Ytbamoecablpfjaa.Mir
open Go
set_option linter.unusedVariables false
set_option linter.unusedSimpArgs false
set_option maxHeartbeats 8000000
set_option maxRecDepth 20000
abbrev I6 (n : Int) : AV := .int .i64 n
abbrev Nn (n : Nat) : AV := .int .i64 (n : Int)
abbrev Un (n : Nat) : AV := .int .u64 (n : Int)
abbrev W32 (n : Int) : AV := .int .u32 n
/-- An instruction. -/
structure MI where
  op : Int
  d : Int
  n : Int
  m : Int
  a : Int
  imm : Int
abbrev mV (op d n m a imm : Int) : AV := .agg [I6 op, I6 d, I6 n, I6 m, I6 a, I6 imm]
def MI.v (i : MI) : AV := mV i.op i.d i.n i.m i.a i.imm
structure Form where
  nm : ByteArray
  w : Int
  d : Bool
  n : Bool
  m : Bool
  a : Bool
  b : Int
def Form.v (f : Form) : AV := .agg [.str f.nm, W32 f.w, .bool f.d, .bool f.n, .bool f.m, .bool f.a, I6 f.b]
def formF (op : Int) : Form :=
  if op = 1 then ⟨⟨#[109, 111, 118, 122]⟩, 3531603968, true, false, false, true, 16⟩ else
  if op = 2 then ⟨⟨#[109, 111, 118, 107]⟩, 4068474880, true, false, false, true, 16⟩ else
  if op = 3 then ⟨⟨#[97, 100, 100]⟩, 2332033024, true, true, true, false, 0⟩ else
  if op = 4 then ⟨⟨#[115, 117, 98]⟩, 3405774848, true, true, true, false, 0⟩ else
  if op = 5 then ⟨⟨#[97, 110, 100]⟩, 2315255808, true, true, true, false, 0⟩ else
  if op = 6 then ⟨⟨#[111, 114, 114]⟩, 2852126720, true, true, true, false, 0⟩ else
  if op = 7 then ⟨⟨#[101, 111, 114]⟩, 3388997632, true, true, true, false, 0⟩ else
  if op = 8 then ⟨⟨#[109, 97, 100, 100]⟩, 2600468480, true, true, true, true, 0⟩ else
  if op = 9 then ⟨⟨#[117, 109, 117, 108, 104]⟩, 2613083136, true, true, true, false, 0⟩ else
  if op = 10 then ⟨⟨#[97, 100, 100, 105]⟩, 2432696320, true, true, false, false, 12⟩ else
  if op = 11 then ⟨⟨#[115, 117, 98, 105]⟩, 3506438144, true, true, false, false, 12⟩ else
  if op = 12 then ⟨⟨#[108, 115, 108]⟩, 3544186880, true, true, false, false, 6⟩ else
  if op = 13 then ⟨⟨#[108, 115, 114]⟩, 3544186880, true, true, false, false, 6⟩ else
  if op = 14 then ⟨⟨#[97, 115, 114]⟩, 2470509568, true, true, false, false, 6⟩ else
  if op = 15 then ⟨⟨#[99, 109, 112]⟩, 3942645791, false, true, true, false, 0⟩ else
  if op = 16 then ⟨⟨#[99, 115, 101, 108]⟩, 2592079872, true, true, true, true, 0⟩ else
  if op = 17 then ⟨⟨#[99, 115, 101, 116]⟩, 2594113504, true, false, false, true, 0⟩ else
  if op = 18 then ⟨⟨#[108, 100, 114]⟩, 4181721088, true, true, false, false, 12⟩ else
  if op = 19 then ⟨⟨#[115, 116, 114]⟩, 4177526784, true, true, false, false, 12⟩ else
  if op = 20 then ⟨⟨#[98]⟩, 335544320, false, false, false, false, 26⟩ else
  if op = 21 then ⟨⟨#[98, 99, 99]⟩, 1409286144, false, false, false, true, 19⟩ else
  if op = 22 then ⟨⟨#[99, 98, 122]⟩, 3019898880, true, false, false, false, 19⟩ else
  if op = 23 then ⟨⟨#[99, 98, 110, 122]⟩, 3036676096, true, false, false, false, 19⟩ else
  if op = 24 then ⟨⟨#[104, 108, 116]⟩, 3560964096, false, false, false, false, 16⟩ else
  ⟨⟨#[]⟩, 0, false, false, false, false, 0⟩
def isOp (op : Int) : Bool := decide (1 ≤ op ∧ op ≤ 24)
theorem op24 {op : Int} (h : 1 ≤ op ∧ op ≤ 24) : op = 1 ∨ op = 2 ∨ op = 3 ∨ op = 4 ∨ op = 5 ∨ op = 6 ∨ op = 7 ∨ op = 8 ∨ op = 9 ∨ op = 10 ∨ op = 11 ∨ op = 12 ∨ op = 13 ∨ op = 14 ∨ op = 15 ∨ op = 16 ∨ op = 17 ∨ op = 18 ∨ op = 19 ∨ op = 20 ∨ op = 21 ∨ op = 22 ∨ op = 23 ∨ op = 24 := by omega
theorem formF_none {op : Int} (h : ¬ (1 ≤ op ∧ op ≤ 24)) : formF op = ⟨⟨#[]⟩, 0, false, false, false, false, 0⟩ := by
  unfold formF
  simp (disch := omega) only [if_neg]
theorem form_bits (op : Int) : (formF op).b = 0 ∨ (formF op).b = 6 ∨ (formF op).b = 12 ∨ (formF op).b = 16 ∨ (formF op).b = 19 ∨ (formF op).b = 26 := by
  by_cases h : 1 ≤ op ∧ op ≤ 24
  · rcases op24 h with rfl | rfl | rfl | rfl | rfl | rfl | rfl | rfl | rfl | rfl | rfl | rfl | rfl | rfl | rfl | rfl | rfl | rfl | rfl | rfl | rfl | rfl | rfl | rfl <;> simp [formF]
  · rw [formF_none h]; simp
theorem of_none (G : Globs) (k : Nat) (op : Int) (h : ¬ (1 ≤ op ∧ op ≤ 24)) : isa_of.f G (k + 4) [I6 op] [] = some (.tup [.agg [.str ⟨#[]⟩, W32 0, .bool false, .bool false, .bool false, .bool false, I6 0], .bool false], []) := by
  have pl : isa_plain.f G (k + 3) [I6 op] [] = some (.tup [.agg [.str ⟨#[]⟩, W32 0, .bool false, .bool false, .bool false, .bool false, I6 0], .bool false], []) := by
    rw [isa_plain.step]
    unfold isa_plain.c
    refine e_in ?_
    have fx := True.intro
    refine wkA ?_
    all_goals first | omega | (refine oF ?_; rfl)
  rw [isa_of.step]
  unfold isa_of.c
  have r : ∀ H, pureCall (isa_plain.f G (k + 3)) [I6 op] H = _ := fun H => pureCall_of (H := H) pl rfl rfl
  refine e_in ?_
  have fx := r
  refine wkA ?_
  all_goals first | omega | (refine oF ?_; rfl)
theorem of_spec (G : Globs) (k : Nat) (op : Int) : isa_of.f G (k + 4) [I6 op] [] = some (.tup [(formF op).v, .bool (isOp op)], []) := by
  by_cases h : 1 ≤ op ∧ op ≤ 24
  · rcases op24 h with rfl | rfl | rfl | rfl | rfl | rfl | rfl | rfl | rfl | rfl | rfl | rfl | rfl | rfl | rfl | rfl | rfl | rfl | rfl | rfl | rfl | rfl | rfl | rfl <;> (clear h; show _ = _; kernel_rfl)
  · have e : isOp op = false := decide_eq_false h
    rw [formF_none h, e]
    exact of_none G k op h
def regB (r : Int) (is : Bool) : Bool := decide (r = 0 ∨ (is = true ∧ 0 < r ∧ r ≤ 31))
theorem register_spec (G : Globs) (k : Nat) (r : Int) (is : Bool) : isa_register.f G (k + 1) [I6 r, .bool is] [] = some (.bool (regB r is), []) := by
  rw [isa_register.step]
  unfold isa_register.c regB
  refine e_in ?_
  cases is
  all_goals (
    repeat' first
      | (with_reducible first | refine eT ?_ | refine eN ?_ | refine eS ?_ | refine eXn ?_ | refine eXr ?_ | refine eX ?_ | refine eI ?_ | refine eK ?_ | refine eV0 ?_ | refine eGr0 ?_ | refine eGtt ?_ | refine eGff ?_ | refine eGtf ?_ | refine eGft ?_ | refine eGno ?_)
      | ((with_reducible apply eCn); (simp only [nth_zero, nth_succ]; first | done | (with_reducible exact rfl)))
      | ((with_reducible apply eJ); (rfl))
      | ((with_reducible apply eGr1); (first | rfl | (simp only [nth_zero, nth_succ]; rfl)))
      | ((with_reducible apply eB); (first | (with_reducible exact rfl) | (simp (disch := omega) only [qa, putC, AV.cells, storable, buildSt, fillA, buildRo, buildOwn, fillE, Nat.reduceLeDiff, Nat.reduceLT, Nat.reduceAdd, ↓reduceIte]; first | done | (with_reducible exact rfl) | (with_reducible exact ⟨rfl, rfl⟩))))
      | ((with_reducible apply eR); (simp only [nth_zero, nth_succ]; (with_reducible exact rfl)))
      | ((with_reducible first | refine sEql ?_ ?_ | refine sNeq ?_ ?_ | refine sLss ?_ ?_ | refine sLeq ?_ ?_ | refine sGtr ?_ ?_ | refine sGeq ?_ ?_ | refine sNot ?_ ?_ | refine sPick ?_ ?_ | refine sGd ?_ ?_ | refine eBool ?_ ?_) <;> intro hq <;> try subst hq)
    all_goals (refine w1b ?_; simp; try omega))
def extraB (op a : Int) : Bool :=
  if op = 1 ∨ op = 2 then decide (0 ≤ a ∧ a ≤ 3)
  else if op = 16 ∨ op = 17 ∨ op = 21 then decide ((0 ≤ a ∧ a ≤ 3) ∨ a = 8 ∨ a = 9)
  else decide (0 ≤ a ∧ a ≤ 31)
theorem extra_spec (G : Globs) (k : Nat) (op d n m a imm : Int) : isa_extra.f G (k + 1) [mV op d n m a imm] [] = some (.bool (extraB op a), []) := by
  rw [isa_extra.step]
  unfold isa_extra.c extraB
  refine e_in ?_
  by_cases h1 : op = 1 ∨ op = 2
  · rw [if_pos h1]
    have fx := True.intro
    exact wkC
  rw [if_neg h1]
  by_cases h2 : op = 16 ∨ op = 17 ∨ op = 21
  · rw [if_pos h2]
    have fx := True.intro
    exact wkC
  rw [if_neg h2]
  have fx := True.intro
  exact wkC
def stackB (op d n : Int) : Bool := decide (((op = 10 ∨ op = 11) ∧ (d = 31 ∨ n = 31)) ∨ ((op = 18 ∨ op = 19) ∧ n = 31))
theorem stack_spec (G : Globs) (k : Nat) (op d n m a imm : Int) : isa_stack.f G (k + 1) [mV op d n m a imm] [] = some (.bool (stackB op d n), []) := by
  rw [isa_stack.step]
  unfold isa_stack.c stackB
  refine e_in ?_
  have fx := True.intro
  exact wkC
theorem signed_spec (G : Globs) (k : Nat) (op : Int) : isa_signed.f G (k + 1) [I6 op] [] = some (.bool (decide (20 ≤ op ∧ op ≤ 23)), []) := by
  rw [isa_signed.step]
  unfold isa_signed.c
  refine e_in ?_
  have fx := True.intro
  exact wkC
def halfI (b : Int) : Int := if b = 6 then 32 else if b = 12 then 2048 else if b = 16 then 32768 else if b = 19 then 262144 else 33554432
def immB (op imm b : Int) : Bool :=
  if b = 0 then decide (imm = 0)
  else if 20 ≤ op ∧ op ≤ 23 then decide (-(halfI b) ≤ imm ∧ imm < halfI b)
  else decide (0 ≤ imm ∧ imm < 2 * halfI b)
theorem imm_spec (G : Globs) (k : Nat) (op d n m a imm b : Int) (hb : b = 0 ∨ b = 6 ∨ b = 12 ∨ b = 16 ∨ b = 19 ∨ b = 26) : isa_imm.f G (k + 2) [mV op d n m a imm, I6 b] [] = some (.bool (immB op imm b), []) := by
  rw [isa_imm.step]
  unfold isa_imm.c immB
  have r : ∀ H, pureCall (isa_signed.f G (k + 1)) [I6 op] H = _ := fun H => pureCall_of (H := H) (signed_spec G k op) rfl rfl
  refine e_in ?_
  by_cases h0 : b = 0
  · rw [if_pos h0]
    have fx := True.intro
    exact wkC
  rw [if_neg h0]
  have hb' : b = 6 ∨ b = 12 ∨ b = 16 ∨ b = 19 ∨ b = 26 := by omega
  obtain ⟨z, hz, s1, s2, s3, s4⟩ : ∃ z : Int, halfI b = z ∧ bin Try.prog .sub 3 true (I6 b) (.int .i64 1) = some (I6 (b - 1)) ∧ bin Try.prog .shl 3 true (.int .i64 1) (I6 (b - 1)) = some (I6 z) ∧ un .neg (I6 z) = some (I6 (-z)) ∧ bin Try.prog .shl 3 true (.int .i64 1) (I6 b) = some (I6 (2 * z)) := by
    clear hb h0 r
    rcases hb' with rfl | rfl | rfl | rfl | rfl
    · exact ⟨32, rfl, by kernel_rfl, by kernel_rfl, by kernel_rfl, by kernel_rfl⟩
    · exact ⟨2048, rfl, by kernel_rfl, by kernel_rfl, by kernel_rfl, by kernel_rfl⟩
    · exact ⟨32768, rfl, by kernel_rfl, by kernel_rfl, by kernel_rfl, by kernel_rfl⟩
    · exact ⟨262144, rfl, by kernel_rfl, by kernel_rfl, by kernel_rfl, by kernel_rfl⟩
    · exact ⟨33554432, rfl, by kernel_rfl, by kernel_rfl, by kernel_rfl, by kernel_rfl⟩
  rw [hz]
  clear hz hb hb'
  by_cases hs : 20 ≤ op ∧ op ≤ 23
  · rw [if_pos hs]
    rw [decide_eq_true hs] at r
    have fx := And.intro r <| And.intro s1 <| And.intro s2 <| And.intro s3 <| s4
    exact wkC
  · rw [if_neg hs]
    rw [decide_eq_false hs] at r
    have fx := And.intro r <| And.intro s1 <| And.intro s2 <| And.intro s3 <| s4
    exact wkC
/-- May an instruction be, in its form? -/
def fairB (i : MI) (f : Form) : Bool :=
  regB i.d f.d && regB i.n f.n && regB i.m f.m && (if f.a = true then extraB i.op i.a else decide (i.a = 0)) && immB i.op i.imm f.b && !stackB i.op i.d i.n
theorem fair_spec (G : Globs) (k : Nat) (op d n m a imm : Int) (f : Form) (hb : f.b = 0 ∨ f.b = 6 ∨ f.b = 12 ∨ f.b = 16 ∨ f.b = 19 ∨ f.b = 26) : isa_fair.f G (k + 3) [mV op d n m a imm, f.v] [] = some (.bool (fairB ⟨op, d, n, m, a, imm⟩ f), []) := by
  obtain ⟨nm, w, fd, fn, fm, fa, fb⟩ := f
  rw [isa_fair.step]
  unfold isa_fair.c fairB Form.v
  have r1 : ∀ r is H, pureCall (isa_register.f G (k + 2)) [I6 r, .bool is] H = _ := fun r is H => pureCall_of (H := H) (register_spec G (k + 1) r is) rfl rfl
  have r2 : ∀ H, pureCall (isa_extra.f G (k + 2)) [mV op d n m a imm] H = _ := fun H => pureCall_of (H := H) (extra_spec G (k + 1) op d n m a imm) rfl rfl
  have r3 : ∀ H, pureCall (isa_imm.f G (k + 2)) [mV op d n m a imm, I6 fb] H = _ := fun H => pureCall_of (H := H) (imm_spec G k op d n m a imm fb hb) rfl rfl
  have r4 : ∀ H, pureCall (isa_stack.f G (k + 2)) [mV op d n m a imm] H = _ := fun H => pureCall_of (H := H) (stack_spec G (k + 1) op d n m a imm) rfl rfl
  simp only
  generalize immB op imm fb = g3 at *
  generalize extraB op a = g2 at *
  generalize stackB op d n = g4 at *
  have c1 := r1 d fd
  have c2 := r1 n fn
  have c3 := r1 m fm
  generalize regB d fd = t1 at *
  generalize regB n fn = t2 at *
  generalize regB m fm = t3 at *
  clear r1
  refine e_in ?_
  cases t1
  · have fx := And.intro c1 <| And.intro c2 <| And.intro c3 <| And.intro r2 <| And.intro r3 <| r4
    refine wkA ?_
    exact w1b (by simp)
  cases t2
  · have fx := And.intro c1 <| And.intro c2 <| And.intro c3 <| And.intro r2 <| And.intro r3 <| r4
    refine wkA ?_
    exact w1b (by simp)
  cases t3
  · have fx := And.intro c1 <| And.intro c2 <| And.intro c3 <| And.intro r2 <| And.intro r3 <| r4
    refine wkA ?_
    exact w1b (by simp)
  cases fa
  · by_cases ha : a = 0
    · subst ha
      cases g3
      · have fx := And.intro c1 <| And.intro c2 <| And.intro c3 <| And.intro r2 <| And.intro r3 <| r4
        refine wkA ?_
        exact w1b (by simp)
      · cases g4
        · have fx := And.intro c1 <| And.intro c2 <| And.intro c3 <| And.intro r2 <| And.intro r3 <| r4
          refine wkA ?_
          exact w1b (by simp)
        · have fx := And.intro c1 <| And.intro c2 <| And.intro c3 <| And.intro r2 <| And.intro r3 <| r4
          refine wkA ?_
          exact w1b (by simp)
    · have fx := And.intro c1 <| And.intro c2 <| And.intro c3 <| And.intro r2 <| And.intro r3 <| r4
      refine wkA ?_
      exact w1b (by simp [ha])
  · cases g2
    · have fx := And.intro c1 <| And.intro c2 <| And.intro c3 <| And.intro r2 <| And.intro r3 <| r4
      refine wkA ?_
      exact w1b (by simp)
    · cases g3
      · have fx := And.intro c1 <| And.intro c2 <| And.intro c3 <| And.intro r2 <| And.intro r3 <| r4
        refine wkA ?_
        exact w1b (by simp)
      · cases g4
        · have fx := And.intro c1 <| And.intro c2 <| And.intro c3 <| And.intro r2 <| And.intro r3 <| r4
          refine wkA ?_
          exact w1b (by simp)
        · have fx := And.intro c1 <| And.intro c2 <| And.intro c3 <| And.intro r2 <| And.intro r3 <| r4
          refine wkA ?_
          exact w1b (by simp)
def rightB (i : MI) : Bool := isOp i.op && fairB i (formF i.op)
theorem cv32 (x : Int) : convInt .u32 (I6 x) = some (W32 (IntKind.u32.wrap x)) := convInt_int ..
theorem number_some (G : Globs) (k : Nat) (op d n m a imm : Int) : ∃ x, isa_number.f G (k + 1) [mV op d n m a imm] [] = some (W32 x, []) := by
  have s5 := fun a : Int => bin_shl Try.prog 24 true .u32 .u64 a 5 (by decide)
  have s10 := fun a : Int => bin_shl Try.prog 24 true .u32 .u64 a 10 (by decide)
  have s12 := fun a : Int => bin_shl Try.prog 24 true .u32 .u64 a 12 (by decide)
  have s16 := fun a : Int => bin_shl Try.prog 24 true .u32 .u64 a 16 (by decide)
  have s21 := fun a : Int => bin_shl Try.prog 24 true .u32 .u64 a 21 (by decide)
  have o1 := fun a b : Int => bin_or Try.prog 24 false .u32 a b
  have o2 := fun a b : Int => bin_or Try.prog 24 true .u32 a b
  have x1 := fun a b : Int => bin_xor Try.prog 24 true .u32 a b
  have x2 := fun a b : Int => bin_and Try.prog 24 true .u32 a b
  have x3 := fun a b : Int => bin_sub Try.prog 24 true .u32 a b
  have x4 := fun a : Int => bin_rem Try.prog 24 true .u32 a 64 (by decide)
  have go : ∀ P : Prop, P → P := fun _ h => h
  by_cases h : 1 ≤ op ∧ op ≤ 24
  · rcases op24 h with rfl | rfl | rfl | rfl | rfl | rfl | rfl | rfl | rfl | rfl | rfl | rfl | rfl | rfl | rfl | rfl | rfl | rfl | rfl | rfl | rfl | rfl | rfl | rfl
    all_goals (
      apply Exists.intro
      rw [isa_number.step]
      unfold isa_number.c
      refine e_in ?_
      have fx := And.intro cv32 <| And.intro s5 <| And.intro s10 <| And.intro s12 <| And.intro s16 <| And.intro s21 <| And.intro o1 <| And.intro o2 <| And.intro x1 <| And.intro x2 <| And.intro x3 <| x4
      refine wkB ?_
      exact w1 rfl rfl)
  · refine ⟨0, ?_⟩
    rw [isa_number.step]
    unfold isa_number.c
    refine e_in ?_
    have fx := cv32
    refine wkA ?_
    all_goals first | omega | exact w1 rfl rfl
/-- A word, and whether it may be. -/
theorem word_some (G : Globs) (k : Nat) (i : MI) : ∃ w, isa_Word.f G (k + 5) [i.v] [] = some (.tup [W32 w, .bool (rightB i)], []) := by
  obtain ⟨op, d, n, m, a, imm⟩ := i
  show ∃ w, isa_Word.f G (k + 5) [mV op d n m a imm] [] = _
  rw [isa_Word.step]
  unfold isa_Word.c rightB
  have r1 : ∀ H, pureCall (isa_of.f G (k + 4)) [I6 op] H = _ := fun H => pureCall_of (H := H) (of_spec G k op) rfl rfl
  have r2 : ∀ H, pureCall (isa_fair.f G (k + 4)) [mV op d n m a imm, (formF op).v] H = _ := fun H => pureCall_of (H := H) (fair_spec G (k + 1) op d n m a imm (formF op) (form_bits op)) rfl rfl
  obtain ⟨x, hx⟩ := number_some G (k + 3) op d n m a imm
  have r3 : ∀ H, pureCall (isa_number.f G (k + 4)) [mV op d n m a imm] H = _ := fun H => pureCall_of (H := H) hx rfl rfl
  have s5 := fun a : Int => bin_shl Try.prog 24 true .u32 .u64 a 5 (by decide)
  have s16 := fun a : Int => bin_shl Try.prog 24 true .u32 .u64 a 16 (by decide)
  have o := fun a b : Int => bin_or Try.prog 24 false .u32 a b
  simp only
  generalize fairB ⟨op, d, n, m, a, imm⟩ (formF op) = g2 at *
  generalize isOp op = g1 at *
  obtain ⟨nm, w, fd, fn, fm, fa, fb⟩ := formF op
  unfold Form.v at *
  cases g1
  · refine ⟨0, ?_⟩
    refine e_in ?_
    have fx := And.intro r1 <| And.intro r2 <| r3
    refine wkA ?_
    exact w2 rfl rfl rfl
  · cases g2
    · refine ⟨0, ?_⟩
      refine e_in ?_
      have fx := And.intro r1 <| And.intro r2 <| r3
      refine wkA ?_
      exact w2 rfl rfl rfl
    · apply Exists.intro
      refine e_in ?_
      have fx := And.intro r1 <| And.intro r2 <| And.intro r3 <| And.intro cv32 <| And.intro s5 <| And.intro s16 <| o
      refine wkB ?_
      exact w2 rfl rfl rfl
end Go.Proofs.Ytbamoecablpfjaa.Mir
namespace Go.Proofs.Ytbamoecablpfjaa.Mir
open Go
set_option linter.unusedVariables false
set_option linter.unusedSimpArgs false
set_option maxHeartbeats 8000000
set_option maxRecDepth 20000
/-! ### Words of 32 bits -/
theorem ofInt_u32 (a : Nat) (h : a < 4294967296) : (BitVec.ofInt 32 (a : Int)).toNat = a := by
  rw [BitVec.toNat_ofInt]
  omega
theorem u32_or (a b : Nat) (ha : a < 4294967296) (hb : b < 4294967296) : IntKind.u32.wrap ((BitVec.ofInt 32 (a : Int) ||| BitVec.ofInt 32 (b : Int)).toNat : Int) = ((a ||| b : Nat) : Int) := by
  have hx : a ||| b < 2 ^ 32 := Nat.or_lt_two_pow (by omega) (by omega)
  rw [BitVec.toNat_or, ofInt_u32 a ha, ofInt_u32 b hb, wrap_of_u32 (by omega) (by omega)]
theorem u32_and (a b : Nat) (ha : a < 4294967296) (hb : b < 4294967296) : bits .and .u32 (a : Int) (b : Int) = ((a &&& b : Nat) : Int) := by
  have hx : a &&& b ≤ a := Nat.and_le_left
  show IntKind.u32.wrap ((BitVec.ofInt 32 (a : Int) &&& BitVec.ofInt 32 (b : Int)).toNat : Int) = _
  rw [BitVec.toNat_and, ofInt_u32 a ha, ofInt_u32 b hb, wrap_of_u32 (by omega) (by omega)]
theorem or_add {x y : Nat} (h : x &&& y = 0) (hb : x + y < 2 ^ 64) : x ||| y = x + y := by
  have e : (BitVec.ofNat 64 x &&& BitVec.ofNat 64 y) = 0#64 := by
    apply BitVec.eq_of_toNat_eq
    rw [BitVec.toNat_and, BitVec.toNat_ofNat, BitVec.toNat_ofNat, Nat.mod_eq_of_lt (by omega), Nat.mod_eq_of_lt (by omega), h]
    rfl
  have h2 := BitVec.add_eq_or_of_and_eq_zero _ _ e
  have h3 := congrArg BitVec.toNat h2
  rw [BitVec.toNat_add, BitVec.toNat_or, BitVec.toNat_ofNat, BitVec.toNat_ofNat, Nat.mod_eq_of_lt (show x < 2 ^ 64 by omega), Nat.mod_eq_of_lt (show y < 2 ^ 64 by omega), Nat.mod_eq_of_lt hb] at h3
  exact h3.symm
/-- No bit of both. -/
def dj (x y : Int) : Prop := 0 ≤ x ∧ 0 ≤ y ∧ x.toNat &&& y.toNat = 0
theorem dj_field {x v p q : Int} (s w : Nat) (hp : p = ((2 ^ s : Nat) : Int)) (hq : q = ((2 ^ w : Nat) : Int)) (x0 : 0 ≤ x) (v0 : 0 ≤ v) (v1 : v < q) (hz : x / p % q = 0) : dj x (v * p) := by
  obtain ⟨X, rfl⟩ : ∃ X : Nat, x = X := ⟨x.toNat, by omega⟩
  obtain ⟨V, rfl⟩ : ∃ V : Nat, v = V := ⟨v.toNat, by omega⟩
  subst hp; subst hq
  have hV : V < 2 ^ w := by exact_mod_cast v1
  have hZ : X / 2 ^ s % 2 ^ w = 0 := by exact_mod_cast hz
  refine ⟨x0, by exact_mod_cast Nat.zero_le (V * 2 ^ s), ?_⟩
  have e : ((V : Int) * ((2 ^ s : Nat) : Int)).toNat = V * 2 ^ s := by rw [← Int.natCast_mul]; rfl
  rw [e, Int.toNat_natCast]
  apply Nat.eq_of_testBit_eq
  intro j
  rw [Nat.testBit_and, Nat.testBit_mul_two_pow, Nat.zero_testBit]
  by_cases hs : s ≤ j
  · by_cases hw : j - s < w
    · have h1 : (X / 2 ^ s % 2 ^ w).testBit (j - s) = X.testBit j := by
        rw [Nat.testBit_mod_two_pow, Nat.testBit_div_two_pow, Nat.sub_add_cancel hs]; simp [hw]
      rw [hZ, Nat.zero_testBit] at h1
      rw [← h1]; rfl
    · have h1 : V.testBit (j - s) = false := Nat.testBit_lt_two_pow (Nat.lt_of_lt_of_le hV (Nat.pow_le_pow_right (by decide) (by omega)))
      rw [h1]; simp
  · simp [hs]
theorem dj_add {x y z : Int} (h1 : dj x y) (h2 : dj x z) (h3 : dj y z) (hb : y + z < 18446744073709551616) : dj x (y + z) := by
  obtain ⟨x0, y0, h1⟩ := h1
  obtain ⟨_, z0, h2⟩ := h2
  obtain ⟨_, _, h3⟩ := h3
  refine ⟨x0, by omega, ?_⟩
  have e : (y + z).toNat = y.toNat + z.toNat := by omega
  rw [e, ← or_add h3 (by omega), Nat.and_or_distrib_left, h1, h2]
  rfl
theorem or_dj (P : Program) (t : Nat) (c : Bool) {x y : Int} (h : dj x y) (hb : x + y < 4294967296) : bin P .or t c (W32 x) (W32 y) = some (W32 (x + y)) := by
  obtain ⟨x0, y0, h⟩ := h
  obtain ⟨X, rfl⟩ : ∃ X : Nat, x = X := ⟨x.toNat, by omega⟩
  obtain ⟨Y, rfl⟩ : ∃ Y : Nat, y = Y := ⟨y.toNat, by omega⟩
  rw [Int.toNat_natCast, Int.toNat_natCast] at h
  rw [bin_or]
  show some (AV.int .u32 (IntKind.u32.wrap ((BitVec.ofInt 32 (X : Int) ||| BitVec.ofInt 32 (Y : Int)).toNat : Int))) = _
  rw [u32_or X Y (by omega) (by omega), or_add h (by omega)]
  rfl
theorem or_fd (P : Program) (t : Nat) (c : Bool) {x v p q : Int} (s w : Nat) (hp : p = ((2 ^ s : Nat) : Int)) (hq : q = ((2 ^ w : Nat) : Int)) (x0 : 0 ≤ x) (v0 : 0 ≤ v) (v1 : v < q) (hz : x / p % q = 0) (hb : x + v * p < 4294967296) :
    bin P .or t c (W32 x) (W32 (v * p)) = some (W32 (x + v * p)) := or_dj P t c (dj_field s w hp hq x0 v0 v1 hz) hb
theorem or_f0 (P : Program) (t : Nat) (c : Bool) {x v q : Int} (w : Nat) (hq : q = ((2 ^ w : Nat) : Int)) (x0 : 0 ≤ x) (v0 : 0 ≤ v) (v1 : v < q) (hz : x % q = 0) (hb : x + v < 4294967296) :
    bin P .or t c (W32 x) (W32 v) = some (W32 (x + v)) := by
  have h := dj_field (x := x) (v := v) (p := 1) 0 w rfl hq x0 v0 v1 (by rw [Int.ediv_one]; exact hz)
  rw [Int.mul_one] at h
  exact or_dj P t c h hb
theorem and_low (P : Program) (t : Nat) (c : Bool) {x q : Int} (w : Nat) (hw : w ≤ 31) (hq : q = ((2 ^ w - 1 : Nat) : Int)) (x0 : 0 ≤ x) (x1 : x < 4294967296) : bin P .and t c (W32 x) (W32 q) = some (W32 (x % (q + 1))) := by
  obtain ⟨X, rfl⟩ : ∃ X : Nat, x = X := ⟨x.toNat, by omega⟩
  have hl : 2 ^ w ≤ 2 ^ 31 := Nat.pow_le_pow_right (by decide) hw
  have hl' : 0 < 2 ^ w := Nat.two_pow_pos w
  rw [bin_and, hq, u32_and X _ (by omega) (by omega), Nat.and_two_pow_sub_one_eq_mod]
  congr 2
  have e : ((2 ^ w - 1 : Nat) : Int) + 1 = ((2 ^ w : Nat) : Int) := by omega
  rw [e]; rfl
theorem shl_p (P : Program) (t : Nat) (c : Bool) {v p b : Int} (s : Nat) (hb : b = (s : Int)) (hs : s ≤ 32) (hp : p = ((2 ^ s : Nat) : Int)) (h0 : 0 ≤ v * p) (h1 : v * p < 4294967296) : bin P .shl t c (W32 v) (.int .u64 b) = some (W32 (v * p)) := by
  subst hb
  rw [bin_shl _ _ _ _ _ _ _ (Int.natCast_nonneg s), Int.toNat_natCast]
  have e : min s IntKind.u32.bits = s := Nat.min_eq_left hs
  have e2 : ((2 : Int) ^ s) = p := by rw [hp]; exact_mod_cast rfl
  rw [e, e2, wrap_of_u32 h0 h1]
/-- The number, and what stands at A, as bits. -/
def wNum (op a imm : Int) : Int :=
  if op = 1 ∨ op = 2 then a * 2097152 + imm * 32
  else if op = 8 then a * 1024
  else if op = 16 then a * 4096
  else if op = 17 then (if a % 2 = 0 then a + 1 else a - 1) * 4096
  else if op = 10 ∨ op = 11 ∨ op = 18 ∨ op = 19 then imm * 1024
  else if op = 12 then (64 - imm) % 64 * 65536 + (63 - imm) * 1024
  else if op = 13 then imm * 65536 + 64512
  else if op = 14 then imm * 65536
  else if op = 20 then imm % 67108864
  else if op = 21 then a + imm % 524288 * 32
  else if op = 22 ∨ op = 23 then imm % 524288 * 32
  else if op = 24 then imm * 32
  else 0
/-- An instruction's word. -/
def wordF (i : MI) : Int := (formF i.op).w + i.d + i.n * 32 + i.m * 65536 + wNum i.op i.a i.imm
theorem xor1 (P : Program) (t : Nat) (c : Bool) {a : Int} (h0 : 0 ≤ a) (h1 : a ≤ 9) : bin P .xor t c (W32 a) (.int .u32 1) = some (W32 (if a % 2 = 0 then a + 1 else a - 1)) := by
  have h : a = 0 ∨ a = 1 ∨ a = 2 ∨ a = 3 ∨ a = 4 ∨ a = 5 ∨ a = 6 ∨ a = 7 ∨ a = 8 ∨ a = 9 := by omega
  rcases h with rfl | rfl | rfl | rfl | rfl | rfl | rfl | rfl | rfl | rfl <;> (clear h0 h1; show _ = _; kernel_rfl)
theorem rem64 (P : Program) (t : Nat) (c : Bool) {a : Int} (h0 : 0 ≤ a) : bin P .rem t c (W32 a) (.int .u32 64) = some (W32 (a % 64)) := by
  rw [bin_rem _ _ _ _ _ _ (by decide), Int.tmod_eq_emod_of_nonneg h0]
theorem sub32 (P : Program) (t : Nat) (c : Bool) {a b : Int} (h0 : b ≤ a) (h1 : 0 ≤ b) (h2 : a < 4294967296) : bin P .sub t c (W32 a) (W32 b) = some (W32 (a - b)) := by
  rw [bin_sub, wrap_of_u32 (by omega) (by omega)]
theorem cvM (x : Int) : convInt .u32 (I6 x) = some (W32 (x % 4294967296)) := by rw [cv32, wrap_u32_eq]
theorem number_spec (G : Globs) (k : Nat) (i : MI) (h : rightB i = true) : isa_number.f G (k + 1) [i.v] [] = some (W32 (wNum i.op i.a i.imm), []) := by
  obtain ⟨op, d, n, m, a, imm⟩ := i
  show isa_number.f G (k + 1) [mV op d n m a imm] [] = _
  unfold rightB at h
  rw [Bool.and_eq_true] at h
  have h24 : 1 ≤ op ∧ op ≤ 24 := of_decide_eq_true h.1
  obtain ⟨_, h⟩ := h
  rw [isa_number.step]
  unfold isa_number.c
  simp only
  refine e_in ?_
  rcases op24 h24 with rfl | rfl | rfl | rfl | rfl | rfl | rfl | rfl | rfl | rfl | rfl | rfl | rfl | rfl | rfl | rfl | rfl | rfl | rfl | rfl | rfl | rfl | rfl | rfl
  all_goals (simp [formF, fairB, regB, extraB, immB, halfI, stackB] at h)
  · -- 1
    have s1 := shl_p Try.prog 24 true (v := a) (p := 2097152) (b := 21) 21 rfl (by decide) rfl (by omega) (by omega)
    have s2 := shl_p Try.prog 24 true (v := imm) (p := 32) (b := 5) 5 rfl (by decide) rfl (by omega) (by omega)
    have s3 := or_fd Try.prog 24 false (x := a * 2097152) (v := imm) (p := 32) (q := 65536) 5 16 rfl rfl (by omega) (by omega) (by omega) (by omega) (by omega)
    have fx := And.intro s1 <| And.intro s2 <| s3
    refine wkA ?_
    exact w1i rfl
  · -- 2
    have s1 := shl_p Try.prog 24 true (v := a) (p := 2097152) (b := 21) 21 rfl (by decide) rfl (by omega) (by omega)
    have s2 := shl_p Try.prog 24 true (v := imm) (p := 32) (b := 5) 5 rfl (by decide) rfl (by omega) (by omega)
    have s3 := or_fd Try.prog 24 false (x := a * 2097152) (v := imm) (p := 32) (q := 65536) 5 16 rfl rfl (by omega) (by omega) (by omega) (by omega) (by omega)
    have fx := And.intro s1 <| And.intro s2 <| s3
    refine wkA ?_
    exact w1i rfl
  · -- 3
    have fx := True.intro
    refine wkA ?_
    exact w1i rfl
  · -- 4
    have fx := True.intro
    refine wkA ?_
    exact w1i rfl
  · -- 5
    have fx := True.intro
    refine wkA ?_
    exact w1i rfl
  · -- 6
    have fx := True.intro
    refine wkA ?_
    exact w1i rfl
  · -- 7
    have fx := True.intro
    refine wkA ?_
    exact w1i rfl
  · -- 8
    have s1 := shl_p Try.prog 24 true (v := a) (p := 1024) (b := 10) 10 rfl (by decide) rfl (by omega) (by omega)
    have fx := s1
    refine wkA ?_
    exact w1i rfl
  · -- 9
    have fx := True.intro
    refine wkA ?_
    exact w1i rfl
  · -- 10
    have s1 := shl_p Try.prog 24 true (v := imm) (p := 1024) (b := 10) 10 rfl (by decide) rfl (by omega) (by omega)
    have fx := s1
    refine wkA ?_
    exact w1i rfl
  · -- 11
    have s1 := shl_p Try.prog 24 true (v := imm) (p := 1024) (b := 10) 10 rfl (by decide) rfl (by omega) (by omega)
    have fx := s1
    refine wkA ?_
    exact w1i rfl
  · -- 12
    have s0 := sub32 Try.prog 24 true (a := 64) (b := imm) (by omega) (by omega) (by omega)
    have s1 := rem64 Try.prog 24 true (a := 64 - imm) (by omega)
    have s2 := shl_p Try.prog 24 true (v := (64 - imm) % 64) (p := 65536) (b := 16) 16 rfl (by decide) rfl (by omega) (by omega)
    have s3 := sub32 Try.prog 24 true (a := 63) (b := imm) (by omega) (by omega) (by omega)
    have s4 := shl_p Try.prog 24 true (v := 63 - imm) (p := 1024) (b := 10) 10 rfl (by decide) rfl (by omega) (by omega)
    have s5 := or_fd Try.prog 24 false (x := (64 - imm) % 64 * 65536) (v := 63 - imm) (p := 1024) (q := 64) 10 6 rfl rfl (by omega) (by omega) (by omega) (by omega) (by omega)
    have fx := And.intro s0 <| And.intro s1 <| And.intro s2 <| And.intro s3 <| And.intro s4 <| s5
    refine wkA ?_
    exact w1i rfl
  · -- 13
    have s1 := shl_p Try.prog 24 true (v := imm) (p := 65536) (b := 16) 16 rfl (by decide) rfl (by omega) (by omega)
    have s2 : bin Try.prog .or 24 true (W32 (imm * 65536)) (.int .u32 64512) = some (W32 (imm * 65536 + 64512)) := or_fd Try.prog 24 true (x := imm * 65536) (v := 63) (p := 1024) (q := 64) 10 6 rfl rfl (by omega) (by omega) (by omega) (by omega) (by omega)
    have fx := And.intro s1 <| s2
    refine wkA ?_
    exact w1i rfl
  · -- 14
    have s1 := shl_p Try.prog 24 true (v := imm) (p := 65536) (b := 16) 16 rfl (by decide) rfl (by omega) (by omega)
    have fx := s1
    refine wkA ?_
    exact w1i rfl
  · -- 15
    have fx := True.intro
    refine wkA ?_
    exact w1i rfl
  · -- 16
    have s1 := shl_p Try.prog 24 true (v := a) (p := 4096) (b := 12) 12 rfl (by decide) rfl (by omega) (by omega)
    have fx := s1
    refine wkA ?_
    exact w1i rfl
  · -- 17
    have s0 := xor1 Try.prog 24 true (a := a) (by omega) (by omega)
    have s1 := shl_p Try.prog 24 true (v := (if a % 2 = 0 then a + 1 else a - 1)) (p := 4096) (b := 12) 12 rfl (by decide) rfl (by split <;> omega) (by split <;> omega)
    have fx := And.intro s0 <| s1
    refine wkA ?_
    exact w1i rfl
  · -- 18
    have s1 := shl_p Try.prog 24 true (v := imm) (p := 1024) (b := 10) 10 rfl (by decide) rfl (by omega) (by omega)
    have fx := s1
    refine wkA ?_
    exact w1i rfl
  · -- 19
    have s1 := shl_p Try.prog 24 true (v := imm) (p := 1024) (b := 10) 10 rfl (by decide) rfl (by omega) (by omega)
    have fx := s1
    refine wkA ?_
    exact w1i rfl
  · -- 20
    have s1 : bin Try.prog .and 24 true (W32 (imm % 4294967296)) (.int .u32 67108863) = some (W32 (imm % 67108864)) := by
      have := and_low Try.prog 24 true (x := imm % 4294967296) (q := 67108863) 26 (by decide) rfl (by omega) (by omega)
      rw [this]; congr 2; omega
    have fx := And.intro cvM <| s1
    refine wkA ?_
    exact w1i rfl
  · -- 21
    have s1 : bin Try.prog .and 24 true (W32 (imm % 4294967296)) (.int .u32 524287) = some (W32 (imm % 524288)) := by
      have := and_low Try.prog 24 true (x := imm % 4294967296) (q := 524287) 19 (by decide) rfl (by omega) (by omega)
      rw [this]; congr 2; omega
    have s2 := shl_p Try.prog 24 true (v := imm % 524288) (p := 32) (b := 5) 5 rfl (by decide) rfl (by omega) (by omega)
    have s3 := or_fd Try.prog 24 false (x := a) (v := imm % 524288) (p := 32) (q := 524288) 5 19 rfl rfl (by omega) (by omega) (by omega) (by omega) (by omega)
    have s4 : convInt .u32 (I6 a) = some (W32 a) := q_cv32 (by omega) (by omega)
    have fx := And.intro s4 <| And.intro cvM <| And.intro s1 <| And.intro s2 <| s3
    refine wkA ?_
    exact w1i rfl
  · -- 22
    have s1 : bin Try.prog .and 24 true (W32 (imm % 4294967296)) (.int .u32 524287) = some (W32 (imm % 524288)) := by
      have := and_low Try.prog 24 true (x := imm % 4294967296) (q := 524287) 19 (by decide) rfl (by omega) (by omega)
      rw [this]; congr 2; omega
    have s2 := shl_p Try.prog 24 true (v := imm % 524288) (p := 32) (b := 5) 5 rfl (by decide) rfl (by omega) (by omega)
    have s3 : bin Try.prog .or 24 false (.int .u32 0) (W32 (imm % 524288 * 32)) = some (W32 (0 + imm % 524288 * 32)) := or_fd Try.prog 24 false (x := 0) (v := imm % 524288) (p := 32) (q := 524288) 5 19 rfl rfl (by omega) (by omega) (by omega) (by omega) (by omega)
    have s4 : convInt .u32 (I6 a) = some (.int .u32 0) := by rw [show a = 0 by omega]; rfl
    have fx := And.intro s4 <| And.intro cvM <| And.intro s1 <| And.intro s2 <| s3
    refine wkA ?_
    exact w1i (Int.zero_add _)
  · -- 23
    have s1 : bin Try.prog .and 24 true (W32 (imm % 4294967296)) (.int .u32 524287) = some (W32 (imm % 524288)) := by
      have := and_low Try.prog 24 true (x := imm % 4294967296) (q := 524287) 19 (by decide) rfl (by omega) (by omega)
      rw [this]; congr 2; omega
    have s2 := shl_p Try.prog 24 true (v := imm % 524288) (p := 32) (b := 5) 5 rfl (by decide) rfl (by omega) (by omega)
    have s3 : bin Try.prog .or 24 false (.int .u32 0) (W32 (imm % 524288 * 32)) = some (W32 (0 + imm % 524288 * 32)) := or_fd Try.prog 24 false (x := 0) (v := imm % 524288) (p := 32) (q := 524288) 5 19 rfl rfl (by omega) (by omega) (by omega) (by omega) (by omega)
    have s4 : convInt .u32 (I6 a) = some (.int .u32 0) := by rw [show a = 0 by omega]; rfl
    have fx := And.intro s4 <| And.intro cvM <| And.intro s1 <| And.intro s2 <| s3
    refine wkA ?_
    exact w1i (Int.zero_add _)
  · -- 24
    have s1 := shl_p Try.prog 24 true (v := imm) (p := 32) (b := 5) 5 rfl (by decide) rfl (by omega) (by omega)
    have fx := s1
    refine wkA ?_
    exact w1i rfl
end Go.Proofs.Ytbamoecablpfjaa.Mir
namespace Go.Proofs.Ytbamoecablpfjaa.Mir
open Go
set_option linter.unusedVariables false
set_option linter.unusedSimpArgs false
set_option maxHeartbeats 8000000
set_option maxRecDepth 20000
theorem dj_zero {x : Int} (h : 0 ≤ x) : dj x 0 := ⟨h, by decide, by simp⟩
/-- The word of one that may be, or 0. -/
def wordR (i : MI) : Int := if rightB i = true then wordF i else 0
theorem word_1 (G : Globs) (k : Nat) (d n m a imm : Int) (h : rightB ⟨1, d, n, m, a, imm⟩ = true) : isa_Word.f G (k + 5) [mV 1 d n m a imm] [] = some (.tup [W32 (wordF ⟨1, d, n, m, a, imm⟩), .bool true], []) := by
  have r1 : ∀ H, pureCall (isa_of.f G (k + 4)) [.int .i64 1] H = _ := fun H => pureCall_of (H := H) (of_spec G k 1) rfl rfl
  have r2 : ∀ H, pureCall (isa_fair.f G (k + 4)) [mV 1 d n m a imm, (formF 1).v] H = _ := fun H => pureCall_of (H := H) (fair_spec G (k + 1) 1 d n m a imm (formF 1) (form_bits 1)) rfl rfl
  have r3 : ∀ H, pureCall (isa_number.f G (k + 4)) [mV 1 d n m a imm] H = _ := fun H => pureCall_of (H := H) (number_spec G (k + 3) ⟨1, d, n, m, a, imm⟩ h) rfl rfl
  unfold rightB at h
  rw [Bool.and_eq_true] at h
  obtain ⟨_, h⟩ := h
  simp only at h
  rw [h] at r2
  simp [formF, fairB, regB, extraB, immB, halfI, stackB] at h
  have c1 : convInt .u32 (I6 d) = some (W32 d) := q_cv32 (by omega) (by omega)
  have c2 : convInt .u32 (I6 n) = some (W32 n) := q_cv32 (by omega) (by omega)
  have c3 : convInt .u32 (I6 m) = some (W32 m) := q_cv32 (by omega) (by omega)
  have s1 := shl_p Try.prog 24 true (v := n) (p := 32) (b := 5) 5 rfl (by decide) rfl (by omega) (by omega)
  have s2 := shl_p Try.prog 24 true (v := m) (p := 65536) (b := 16) 16 rfl (by decide) rfl (by omega) (by omega)
  have o1 := or_f0 Try.prog 24 false (x := 3531603968) (v := d) (q := 32) 5 rfl (by omega) (by omega) (by omega) (by omega) (by omega)
  have o2 := or_fd Try.prog 24 false (x := 3531603968 + d) (v := n) (p := 32) (q := 1) 5 0 rfl rfl (by omega) (by omega) (by omega) (by omega) (by omega)
  have o3 := or_fd Try.prog 24 false (x := 3531603968 + d + n * 32) (v := m) (p := 65536) (q := 1) 16 0 rfl rfl (by omega) (by omega) (by omega) (by omega) (by omega)
  have e4 : wNum 1 a imm = a * 2097152 + imm * 32 := rfl
  have o4 : bin Try.prog .or 24 false (W32 (3531603968 + d + n * 32 + m * 65536)) (W32 (wNum 1 a imm)) = some (W32 (3531603968 + d + n * 32 + m * 65536 + wNum 1 a imm)) := by
    rw [e4]
    exact or_dj Try.prog 24 false (dj_add (dj_field (x := 3531603968 + d + n * 32 + m * 65536) (v := a) (p := 2097152) (q := 4) 21 2 rfl rfl (by omega) (by omega) (by omega) (by omega)) (dj_field (x := 3531603968 + d + n * 32 + m * 65536) (v := imm) (p := 32) (q := 65536) 5 16 rfl rfl (by omega) (by omega) (by omega) (by omega)) (dj_field (x := a * 2097152) (v := imm) (p := 32) (q := 65536) 5 16 rfl rfl (by omega) (by omega) (by omega) (by omega)) (by omega)) (by omega)
  have ef : formF 1 = ⟨(formF 1).nm, 3531603968, true, false, false, (formF 1).a, (formF 1).b⟩ := rfl
  have eo : isOp 1 = true := rfl
  have ew : wordF ⟨1, d, n, m, a, imm⟩ = 3531603968 + d + n * 32 + m * 65536 + wNum 1 a imm := rfl
  rw [ew]
  rw [eo, ef] at r1
  rw [ef] at r2
  rw [isa_Word.step]
  unfold isa_Word.c
  unfold Form.v at r1 r2
  clear e4 ef eo h ew
  generalize (formF 1).nm = nm at *
  generalize (formF 1).a = fa at *
  generalize (formF 1).b = fb at *
  generalize wNum 1 a imm = z at *
  refine e_in ?_
  have fx := And.intro r1 <| And.intro r2 <| And.intro r3 <| And.intro c1 <| And.intro c2 <| And.intro c3 <| And.intro s1 <| And.intro s2 <| And.intro o1 <| And.intro o2 <| And.intro o3 <| o4
  refine wkA ?_
  exact w2 rfl rfl rfl
theorem word_2 (G : Globs) (k : Nat) (d n m a imm : Int) (h : rightB ⟨2, d, n, m, a, imm⟩ = true) : isa_Word.f G (k + 5) [mV 2 d n m a imm] [] = some (.tup [W32 (wordF ⟨2, d, n, m, a, imm⟩), .bool true], []) := by
  have r1 : ∀ H, pureCall (isa_of.f G (k + 4)) [.int .i64 2] H = _ := fun H => pureCall_of (H := H) (of_spec G k 2) rfl rfl
  have r2 : ∀ H, pureCall (isa_fair.f G (k + 4)) [mV 2 d n m a imm, (formF 2).v] H = _ := fun H => pureCall_of (H := H) (fair_spec G (k + 1) 2 d n m a imm (formF 2) (form_bits 2)) rfl rfl
  have r3 : ∀ H, pureCall (isa_number.f G (k + 4)) [mV 2 d n m a imm] H = _ := fun H => pureCall_of (H := H) (number_spec G (k + 3) ⟨2, d, n, m, a, imm⟩ h) rfl rfl
  unfold rightB at h
  rw [Bool.and_eq_true] at h
  obtain ⟨_, h⟩ := h
  simp only at h
  rw [h] at r2
  simp [formF, fairB, regB, extraB, immB, halfI, stackB] at h
  have c1 : convInt .u32 (I6 d) = some (W32 d) := q_cv32 (by omega) (by omega)
  have c2 : convInt .u32 (I6 n) = some (W32 n) := q_cv32 (by omega) (by omega)
  have c3 : convInt .u32 (I6 m) = some (W32 m) := q_cv32 (by omega) (by omega)
  have s1 := shl_p Try.prog 24 true (v := n) (p := 32) (b := 5) 5 rfl (by decide) rfl (by omega) (by omega)
  have s2 := shl_p Try.prog 24 true (v := m) (p := 65536) (b := 16) 16 rfl (by decide) rfl (by omega) (by omega)
  have o1 := or_f0 Try.prog 24 false (x := 4068474880) (v := d) (q := 32) 5 rfl (by omega) (by omega) (by omega) (by omega) (by omega)
  have o2 := or_fd Try.prog 24 false (x := 4068474880 + d) (v := n) (p := 32) (q := 1) 5 0 rfl rfl (by omega) (by omega) (by omega) (by omega) (by omega)
  have o3 := or_fd Try.prog 24 false (x := 4068474880 + d + n * 32) (v := m) (p := 65536) (q := 1) 16 0 rfl rfl (by omega) (by omega) (by omega) (by omega) (by omega)
  have e4 : wNum 2 a imm = a * 2097152 + imm * 32 := rfl
  have o4 : bin Try.prog .or 24 false (W32 (4068474880 + d + n * 32 + m * 65536)) (W32 (wNum 2 a imm)) = some (W32 (4068474880 + d + n * 32 + m * 65536 + wNum 2 a imm)) := by
    rw [e4]
    exact or_dj Try.prog 24 false (dj_add (dj_field (x := 4068474880 + d + n * 32 + m * 65536) (v := a) (p := 2097152) (q := 4) 21 2 rfl rfl (by omega) (by omega) (by omega) (by omega)) (dj_field (x := 4068474880 + d + n * 32 + m * 65536) (v := imm) (p := 32) (q := 65536) 5 16 rfl rfl (by omega) (by omega) (by omega) (by omega)) (dj_field (x := a * 2097152) (v := imm) (p := 32) (q := 65536) 5 16 rfl rfl (by omega) (by omega) (by omega) (by omega)) (by omega)) (by omega)
  have ef : formF 2 = ⟨(formF 2).nm, 4068474880, true, false, false, (formF 2).a, (formF 2).b⟩ := rfl
  have eo : isOp 2 = true := rfl
  have ew : wordF ⟨2, d, n, m, a, imm⟩ = 4068474880 + d + n * 32 + m * 65536 + wNum 2 a imm := rfl
  rw [ew]
  rw [eo, ef] at r1
  rw [ef] at r2
  rw [isa_Word.step]
  unfold isa_Word.c
  unfold Form.v at r1 r2
  clear e4 ef eo h ew
  generalize (formF 2).nm = nm at *
  generalize (formF 2).a = fa at *
  generalize (formF 2).b = fb at *
  generalize wNum 2 a imm = z at *
  refine e_in ?_
  have fx := And.intro r1 <| And.intro r2 <| And.intro r3 <| And.intro c1 <| And.intro c2 <| And.intro c3 <| And.intro s1 <| And.intro s2 <| And.intro o1 <| And.intro o2 <| And.intro o3 <| o4
  refine wkA ?_
  exact w2 rfl rfl rfl
theorem word_3 (G : Globs) (k : Nat) (d n m a imm : Int) (h : rightB ⟨3, d, n, m, a, imm⟩ = true) : isa_Word.f G (k + 5) [mV 3 d n m a imm] [] = some (.tup [W32 (wordF ⟨3, d, n, m, a, imm⟩), .bool true], []) := by
  have r1 : ∀ H, pureCall (isa_of.f G (k + 4)) [.int .i64 3] H = _ := fun H => pureCall_of (H := H) (of_spec G k 3) rfl rfl
  have r2 : ∀ H, pureCall (isa_fair.f G (k + 4)) [mV 3 d n m a imm, (formF 3).v] H = _ := fun H => pureCall_of (H := H) (fair_spec G (k + 1) 3 d n m a imm (formF 3) (form_bits 3)) rfl rfl
  have r3 : ∀ H, pureCall (isa_number.f G (k + 4)) [mV 3 d n m a imm] H = _ := fun H => pureCall_of (H := H) (number_spec G (k + 3) ⟨3, d, n, m, a, imm⟩ h) rfl rfl
  unfold rightB at h
  rw [Bool.and_eq_true] at h
  obtain ⟨_, h⟩ := h
  simp only at h
  rw [h] at r2
  simp [formF, fairB, regB, extraB, immB, halfI, stackB] at h
  have c1 : convInt .u32 (I6 d) = some (W32 d) := q_cv32 (by omega) (by omega)
  have c2 : convInt .u32 (I6 n) = some (W32 n) := q_cv32 (by omega) (by omega)
  have c3 : convInt .u32 (I6 m) = some (W32 m) := q_cv32 (by omega) (by omega)
  have s1 := shl_p Try.prog 24 true (v := n) (p := 32) (b := 5) 5 rfl (by decide) rfl (by omega) (by omega)
  have s2 := shl_p Try.prog 24 true (v := m) (p := 65536) (b := 16) 16 rfl (by decide) rfl (by omega) (by omega)
  have o1 := or_f0 Try.prog 24 false (x := 2332033024) (v := d) (q := 32) 5 rfl (by omega) (by omega) (by omega) (by omega) (by omega)
  have o2 := or_fd Try.prog 24 false (x := 2332033024 + d) (v := n) (p := 32) (q := 32) 5 5 rfl rfl (by omega) (by omega) (by omega) (by omega) (by omega)
  have o3 := or_fd Try.prog 24 false (x := 2332033024 + d + n * 32) (v := m) (p := 65536) (q := 32) 16 5 rfl rfl (by omega) (by omega) (by omega) (by omega) (by omega)
  have e4 : wNum 3 a imm = 0 := rfl
  have o4 : bin Try.prog .or 24 false (W32 (2332033024 + d + n * 32 + m * 65536)) (W32 (wNum 3 a imm)) = some (W32 (2332033024 + d + n * 32 + m * 65536 + wNum 3 a imm)) := by
    rw [e4]
    exact or_dj Try.prog 24 false (dj_zero (x := 2332033024 + d + n * 32 + m * 65536) (by omega)) (by omega)
  have ef : formF 3 = ⟨(formF 3).nm, 2332033024, true, true, true, (formF 3).a, (formF 3).b⟩ := rfl
  have eo : isOp 3 = true := rfl
  have ew : wordF ⟨3, d, n, m, a, imm⟩ = 2332033024 + d + n * 32 + m * 65536 + wNum 3 a imm := rfl
  rw [ew]
  rw [eo, ef] at r1
  rw [ef] at r2
  rw [isa_Word.step]
  unfold isa_Word.c
  unfold Form.v at r1 r2
  clear e4 ef eo h ew
  generalize (formF 3).nm = nm at *
  generalize (formF 3).a = fa at *
  generalize (formF 3).b = fb at *
  generalize wNum 3 a imm = z at *
  refine e_in ?_
  have fx := And.intro r1 <| And.intro r2 <| And.intro r3 <| And.intro c1 <| And.intro c2 <| And.intro c3 <| And.intro s1 <| And.intro s2 <| And.intro o1 <| And.intro o2 <| And.intro o3 <| o4
  refine wkA ?_
  exact w2 rfl rfl rfl
theorem word_4 (G : Globs) (k : Nat) (d n m a imm : Int) (h : rightB ⟨4, d, n, m, a, imm⟩ = true) : isa_Word.f G (k + 5) [mV 4 d n m a imm] [] = some (.tup [W32 (wordF ⟨4, d, n, m, a, imm⟩), .bool true], []) := by
  have r1 : ∀ H, pureCall (isa_of.f G (k + 4)) [.int .i64 4] H = _ := fun H => pureCall_of (H := H) (of_spec G k 4) rfl rfl
  have r2 : ∀ H, pureCall (isa_fair.f G (k + 4)) [mV 4 d n m a imm, (formF 4).v] H = _ := fun H => pureCall_of (H := H) (fair_spec G (k + 1) 4 d n m a imm (formF 4) (form_bits 4)) rfl rfl
  have r3 : ∀ H, pureCall (isa_number.f G (k + 4)) [mV 4 d n m a imm] H = _ := fun H => pureCall_of (H := H) (number_spec G (k + 3) ⟨4, d, n, m, a, imm⟩ h) rfl rfl
  unfold rightB at h
  rw [Bool.and_eq_true] at h
  obtain ⟨_, h⟩ := h
  simp only at h
  rw [h] at r2
  simp [formF, fairB, regB, extraB, immB, halfI, stackB] at h
  have c1 : convInt .u32 (I6 d) = some (W32 d) := q_cv32 (by omega) (by omega)
  have c2 : convInt .u32 (I6 n) = some (W32 n) := q_cv32 (by omega) (by omega)
  have c3 : convInt .u32 (I6 m) = some (W32 m) := q_cv32 (by omega) (by omega)
  have s1 := shl_p Try.prog 24 true (v := n) (p := 32) (b := 5) 5 rfl (by decide) rfl (by omega) (by omega)
  have s2 := shl_p Try.prog 24 true (v := m) (p := 65536) (b := 16) 16 rfl (by decide) rfl (by omega) (by omega)
  have o1 := or_f0 Try.prog 24 false (x := 3405774848) (v := d) (q := 32) 5 rfl (by omega) (by omega) (by omega) (by omega) (by omega)
  have o2 := or_fd Try.prog 24 false (x := 3405774848 + d) (v := n) (p := 32) (q := 32) 5 5 rfl rfl (by omega) (by omega) (by omega) (by omega) (by omega)
  have o3 := or_fd Try.prog 24 false (x := 3405774848 + d + n * 32) (v := m) (p := 65536) (q := 32) 16 5 rfl rfl (by omega) (by omega) (by omega) (by omega) (by omega)
  have e4 : wNum 4 a imm = 0 := rfl
  have o4 : bin Try.prog .or 24 false (W32 (3405774848 + d + n * 32 + m * 65536)) (W32 (wNum 4 a imm)) = some (W32 (3405774848 + d + n * 32 + m * 65536 + wNum 4 a imm)) := by
    rw [e4]
    exact or_dj Try.prog 24 false (dj_zero (x := 3405774848 + d + n * 32 + m * 65536) (by omega)) (by omega)
  have ef : formF 4 = ⟨(formF 4).nm, 3405774848, true, true, true, (formF 4).a, (formF 4).b⟩ := rfl
  have eo : isOp 4 = true := rfl
  have ew : wordF ⟨4, d, n, m, a, imm⟩ = 3405774848 + d + n * 32 + m * 65536 + wNum 4 a imm := rfl
  rw [ew]
  rw [eo, ef] at r1
  rw [ef] at r2
  rw [isa_Word.step]
  unfold isa_Word.c
  unfold Form.v at r1 r2
  clear e4 ef eo h ew
  generalize (formF 4).nm = nm at *
  generalize (formF 4).a = fa at *
  generalize (formF 4).b = fb at *
  generalize wNum 4 a imm = z at *
  refine e_in ?_
  have fx := And.intro r1 <| And.intro r2 <| And.intro r3 <| And.intro c1 <| And.intro c2 <| And.intro c3 <| And.intro s1 <| And.intro s2 <| And.intro o1 <| And.intro o2 <| And.intro o3 <| o4
  refine wkA ?_
  exact w2 rfl rfl rfl
theorem word_5 (G : Globs) (k : Nat) (d n m a imm : Int) (h : rightB ⟨5, d, n, m, a, imm⟩ = true) : isa_Word.f G (k + 5) [mV 5 d n m a imm] [] = some (.tup [W32 (wordF ⟨5, d, n, m, a, imm⟩), .bool true], []) := by
  have r1 : ∀ H, pureCall (isa_of.f G (k + 4)) [.int .i64 5] H = _ := fun H => pureCall_of (H := H) (of_spec G k 5) rfl rfl
  have r2 : ∀ H, pureCall (isa_fair.f G (k + 4)) [mV 5 d n m a imm, (formF 5).v] H = _ := fun H => pureCall_of (H := H) (fair_spec G (k + 1) 5 d n m a imm (formF 5) (form_bits 5)) rfl rfl
  have r3 : ∀ H, pureCall (isa_number.f G (k + 4)) [mV 5 d n m a imm] H = _ := fun H => pureCall_of (H := H) (number_spec G (k + 3) ⟨5, d, n, m, a, imm⟩ h) rfl rfl
  unfold rightB at h
  rw [Bool.and_eq_true] at h
  obtain ⟨_, h⟩ := h
  simp only at h
  rw [h] at r2
  simp [formF, fairB, regB, extraB, immB, halfI, stackB] at h
  have c1 : convInt .u32 (I6 d) = some (W32 d) := q_cv32 (by omega) (by omega)
  have c2 : convInt .u32 (I6 n) = some (W32 n) := q_cv32 (by omega) (by omega)
  have c3 : convInt .u32 (I6 m) = some (W32 m) := q_cv32 (by omega) (by omega)
  have s1 := shl_p Try.prog 24 true (v := n) (p := 32) (b := 5) 5 rfl (by decide) rfl (by omega) (by omega)
  have s2 := shl_p Try.prog 24 true (v := m) (p := 65536) (b := 16) 16 rfl (by decide) rfl (by omega) (by omega)
  have o1 := or_f0 Try.prog 24 false (x := 2315255808) (v := d) (q := 32) 5 rfl (by omega) (by omega) (by omega) (by omega) (by omega)
  have o2 := or_fd Try.prog 24 false (x := 2315255808 + d) (v := n) (p := 32) (q := 32) 5 5 rfl rfl (by omega) (by omega) (by omega) (by omega) (by omega)
  have o3 := or_fd Try.prog 24 false (x := 2315255808 + d + n * 32) (v := m) (p := 65536) (q := 32) 16 5 rfl rfl (by omega) (by omega) (by omega) (by omega) (by omega)
  have e4 : wNum 5 a imm = 0 := rfl
  have o4 : bin Try.prog .or 24 false (W32 (2315255808 + d + n * 32 + m * 65536)) (W32 (wNum 5 a imm)) = some (W32 (2315255808 + d + n * 32 + m * 65536 + wNum 5 a imm)) := by
    rw [e4]
    exact or_dj Try.prog 24 false (dj_zero (x := 2315255808 + d + n * 32 + m * 65536) (by omega)) (by omega)
  have ef : formF 5 = ⟨(formF 5).nm, 2315255808, true, true, true, (formF 5).a, (formF 5).b⟩ := rfl
  have eo : isOp 5 = true := rfl
  have ew : wordF ⟨5, d, n, m, a, imm⟩ = 2315255808 + d + n * 32 + m * 65536 + wNum 5 a imm := rfl
  rw [ew]
  rw [eo, ef] at r1
  rw [ef] at r2
  rw [isa_Word.step]
  unfold isa_Word.c
  unfold Form.v at r1 r2
  clear e4 ef eo h ew
  generalize (formF 5).nm = nm at *
  generalize (formF 5).a = fa at *
  generalize (formF 5).b = fb at *
  generalize wNum 5 a imm = z at *
  refine e_in ?_
  have fx := And.intro r1 <| And.intro r2 <| And.intro r3 <| And.intro c1 <| And.intro c2 <| And.intro c3 <| And.intro s1 <| And.intro s2 <| And.intro o1 <| And.intro o2 <| And.intro o3 <| o4
  refine wkA ?_
  exact w2 rfl rfl rfl
theorem word_6 (G : Globs) (k : Nat) (d n m a imm : Int) (h : rightB ⟨6, d, n, m, a, imm⟩ = true) : isa_Word.f G (k + 5) [mV 6 d n m a imm] [] = some (.tup [W32 (wordF ⟨6, d, n, m, a, imm⟩), .bool true], []) := by
  have r1 : ∀ H, pureCall (isa_of.f G (k + 4)) [.int .i64 6] H = _ := fun H => pureCall_of (H := H) (of_spec G k 6) rfl rfl
  have r2 : ∀ H, pureCall (isa_fair.f G (k + 4)) [mV 6 d n m a imm, (formF 6).v] H = _ := fun H => pureCall_of (H := H) (fair_spec G (k + 1) 6 d n m a imm (formF 6) (form_bits 6)) rfl rfl
  have r3 : ∀ H, pureCall (isa_number.f G (k + 4)) [mV 6 d n m a imm] H = _ := fun H => pureCall_of (H := H) (number_spec G (k + 3) ⟨6, d, n, m, a, imm⟩ h) rfl rfl
  unfold rightB at h
  rw [Bool.and_eq_true] at h
  obtain ⟨_, h⟩ := h
  simp only at h
  rw [h] at r2
  simp [formF, fairB, regB, extraB, immB, halfI, stackB] at h
  have c1 : convInt .u32 (I6 d) = some (W32 d) := q_cv32 (by omega) (by omega)
  have c2 : convInt .u32 (I6 n) = some (W32 n) := q_cv32 (by omega) (by omega)
  have c3 : convInt .u32 (I6 m) = some (W32 m) := q_cv32 (by omega) (by omega)
  have s1 := shl_p Try.prog 24 true (v := n) (p := 32) (b := 5) 5 rfl (by decide) rfl (by omega) (by omega)
  have s2 := shl_p Try.prog 24 true (v := m) (p := 65536) (b := 16) 16 rfl (by decide) rfl (by omega) (by omega)
  have o1 := or_f0 Try.prog 24 false (x := 2852126720) (v := d) (q := 32) 5 rfl (by omega) (by omega) (by omega) (by omega) (by omega)
  have o2 := or_fd Try.prog 24 false (x := 2852126720 + d) (v := n) (p := 32) (q := 32) 5 5 rfl rfl (by omega) (by omega) (by omega) (by omega) (by omega)
  have o3 := or_fd Try.prog 24 false (x := 2852126720 + d + n * 32) (v := m) (p := 65536) (q := 32) 16 5 rfl rfl (by omega) (by omega) (by omega) (by omega) (by omega)
  have e4 : wNum 6 a imm = 0 := rfl
  have o4 : bin Try.prog .or 24 false (W32 (2852126720 + d + n * 32 + m * 65536)) (W32 (wNum 6 a imm)) = some (W32 (2852126720 + d + n * 32 + m * 65536 + wNum 6 a imm)) := by
    rw [e4]
    exact or_dj Try.prog 24 false (dj_zero (x := 2852126720 + d + n * 32 + m * 65536) (by omega)) (by omega)
  have ef : formF 6 = ⟨(formF 6).nm, 2852126720, true, true, true, (formF 6).a, (formF 6).b⟩ := rfl
  have eo : isOp 6 = true := rfl
  have ew : wordF ⟨6, d, n, m, a, imm⟩ = 2852126720 + d + n * 32 + m * 65536 + wNum 6 a imm := rfl
  rw [ew]
  rw [eo, ef] at r1
  rw [ef] at r2
  rw [isa_Word.step]
  unfold isa_Word.c
  unfold Form.v at r1 r2
  clear e4 ef eo h ew
  generalize (formF 6).nm = nm at *
  generalize (formF 6).a = fa at *
  generalize (formF 6).b = fb at *
  generalize wNum 6 a imm = z at *
  refine e_in ?_
  have fx := And.intro r1 <| And.intro r2 <| And.intro r3 <| And.intro c1 <| And.intro c2 <| And.intro c3 <| And.intro s1 <| And.intro s2 <| And.intro o1 <| And.intro o2 <| And.intro o3 <| o4
  refine wkA ?_
  exact w2 rfl rfl rfl
theorem word_7 (G : Globs) (k : Nat) (d n m a imm : Int) (h : rightB ⟨7, d, n, m, a, imm⟩ = true) : isa_Word.f G (k + 5) [mV 7 d n m a imm] [] = some (.tup [W32 (wordF ⟨7, d, n, m, a, imm⟩), .bool true], []) := by
  have r1 : ∀ H, pureCall (isa_of.f G (k + 4)) [.int .i64 7] H = _ := fun H => pureCall_of (H := H) (of_spec G k 7) rfl rfl
  have r2 : ∀ H, pureCall (isa_fair.f G (k + 4)) [mV 7 d n m a imm, (formF 7).v] H = _ := fun H => pureCall_of (H := H) (fair_spec G (k + 1) 7 d n m a imm (formF 7) (form_bits 7)) rfl rfl
  have r3 : ∀ H, pureCall (isa_number.f G (k + 4)) [mV 7 d n m a imm] H = _ := fun H => pureCall_of (H := H) (number_spec G (k + 3) ⟨7, d, n, m, a, imm⟩ h) rfl rfl
  unfold rightB at h
  rw [Bool.and_eq_true] at h
  obtain ⟨_, h⟩ := h
  simp only at h
  rw [h] at r2
  simp [formF, fairB, regB, extraB, immB, halfI, stackB] at h
  have c1 : convInt .u32 (I6 d) = some (W32 d) := q_cv32 (by omega) (by omega)
  have c2 : convInt .u32 (I6 n) = some (W32 n) := q_cv32 (by omega) (by omega)
  have c3 : convInt .u32 (I6 m) = some (W32 m) := q_cv32 (by omega) (by omega)
  have s1 := shl_p Try.prog 24 true (v := n) (p := 32) (b := 5) 5 rfl (by decide) rfl (by omega) (by omega)
  have s2 := shl_p Try.prog 24 true (v := m) (p := 65536) (b := 16) 16 rfl (by decide) rfl (by omega) (by omega)
  have o1 := or_f0 Try.prog 24 false (x := 3388997632) (v := d) (q := 32) 5 rfl (by omega) (by omega) (by omega) (by omega) (by omega)
  have o2 := or_fd Try.prog 24 false (x := 3388997632 + d) (v := n) (p := 32) (q := 32) 5 5 rfl rfl (by omega) (by omega) (by omega) (by omega) (by omega)
  have o3 := or_fd Try.prog 24 false (x := 3388997632 + d + n * 32) (v := m) (p := 65536) (q := 32) 16 5 rfl rfl (by omega) (by omega) (by omega) (by omega) (by omega)
  have e4 : wNum 7 a imm = 0 := rfl
  have o4 : bin Try.prog .or 24 false (W32 (3388997632 + d + n * 32 + m * 65536)) (W32 (wNum 7 a imm)) = some (W32 (3388997632 + d + n * 32 + m * 65536 + wNum 7 a imm)) := by
    rw [e4]
    exact or_dj Try.prog 24 false (dj_zero (x := 3388997632 + d + n * 32 + m * 65536) (by omega)) (by omega)
  have ef : formF 7 = ⟨(formF 7).nm, 3388997632, true, true, true, (formF 7).a, (formF 7).b⟩ := rfl
  have eo : isOp 7 = true := rfl
  have ew : wordF ⟨7, d, n, m, a, imm⟩ = 3388997632 + d + n * 32 + m * 65536 + wNum 7 a imm := rfl
  rw [ew]
  rw [eo, ef] at r1
  rw [ef] at r2
  rw [isa_Word.step]
  unfold isa_Word.c
  unfold Form.v at r1 r2
  clear e4 ef eo h ew
  generalize (formF 7).nm = nm at *
  generalize (formF 7).a = fa at *
  generalize (formF 7).b = fb at *
  generalize wNum 7 a imm = z at *
  refine e_in ?_
  have fx := And.intro r1 <| And.intro r2 <| And.intro r3 <| And.intro c1 <| And.intro c2 <| And.intro c3 <| And.intro s1 <| And.intro s2 <| And.intro o1 <| And.intro o2 <| And.intro o3 <| o4
  refine wkA ?_
  exact w2 rfl rfl rfl
theorem word_8 (G : Globs) (k : Nat) (d n m a imm : Int) (h : rightB ⟨8, d, n, m, a, imm⟩ = true) : isa_Word.f G (k + 5) [mV 8 d n m a imm] [] = some (.tup [W32 (wordF ⟨8, d, n, m, a, imm⟩), .bool true], []) := by
  have r1 : ∀ H, pureCall (isa_of.f G (k + 4)) [.int .i64 8] H = _ := fun H => pureCall_of (H := H) (of_spec G k 8) rfl rfl
  have r2 : ∀ H, pureCall (isa_fair.f G (k + 4)) [mV 8 d n m a imm, (formF 8).v] H = _ := fun H => pureCall_of (H := H) (fair_spec G (k + 1) 8 d n m a imm (formF 8) (form_bits 8)) rfl rfl
  have r3 : ∀ H, pureCall (isa_number.f G (k + 4)) [mV 8 d n m a imm] H = _ := fun H => pureCall_of (H := H) (number_spec G (k + 3) ⟨8, d, n, m, a, imm⟩ h) rfl rfl
  unfold rightB at h
  rw [Bool.and_eq_true] at h
  obtain ⟨_, h⟩ := h
  simp only at h
  rw [h] at r2
  simp [formF, fairB, regB, extraB, immB, halfI, stackB] at h
  have c1 : convInt .u32 (I6 d) = some (W32 d) := q_cv32 (by omega) (by omega)
  have c2 : convInt .u32 (I6 n) = some (W32 n) := q_cv32 (by omega) (by omega)
  have c3 : convInt .u32 (I6 m) = some (W32 m) := q_cv32 (by omega) (by omega)
  have s1 := shl_p Try.prog 24 true (v := n) (p := 32) (b := 5) 5 rfl (by decide) rfl (by omega) (by omega)
  have s2 := shl_p Try.prog 24 true (v := m) (p := 65536) (b := 16) 16 rfl (by decide) rfl (by omega) (by omega)
  have o1 := or_f0 Try.prog 24 false (x := 2600468480) (v := d) (q := 32) 5 rfl (by omega) (by omega) (by omega) (by omega) (by omega)
  have o2 := or_fd Try.prog 24 false (x := 2600468480 + d) (v := n) (p := 32) (q := 32) 5 5 rfl rfl (by omega) (by omega) (by omega) (by omega) (by omega)
  have o3 := or_fd Try.prog 24 false (x := 2600468480 + d + n * 32) (v := m) (p := 65536) (q := 32) 16 5 rfl rfl (by omega) (by omega) (by omega) (by omega) (by omega)
  have e4 : wNum 8 a imm = a * 1024 := rfl
  have o4 : bin Try.prog .or 24 false (W32 (2600468480 + d + n * 32 + m * 65536)) (W32 (wNum 8 a imm)) = some (W32 (2600468480 + d + n * 32 + m * 65536 + wNum 8 a imm)) := by
    rw [e4]
    exact or_dj Try.prog 24 false ((dj_field (x := 2600468480 + d + n * 32 + m * 65536) (v := a) (p := 1024) (q := 32) 10 5 rfl rfl (by omega) (by omega) (by omega) (by omega))) (by omega)
  have ef : formF 8 = ⟨(formF 8).nm, 2600468480, true, true, true, (formF 8).a, (formF 8).b⟩ := rfl
  have eo : isOp 8 = true := rfl
  have ew : wordF ⟨8, d, n, m, a, imm⟩ = 2600468480 + d + n * 32 + m * 65536 + wNum 8 a imm := rfl
  rw [ew]
  rw [eo, ef] at r1
  rw [ef] at r2
  rw [isa_Word.step]
  unfold isa_Word.c
  unfold Form.v at r1 r2
  clear e4 ef eo h ew
  generalize (formF 8).nm = nm at *
  generalize (formF 8).a = fa at *
  generalize (formF 8).b = fb at *
  generalize wNum 8 a imm = z at *
  refine e_in ?_
  have fx := And.intro r1 <| And.intro r2 <| And.intro r3 <| And.intro c1 <| And.intro c2 <| And.intro c3 <| And.intro s1 <| And.intro s2 <| And.intro o1 <| And.intro o2 <| And.intro o3 <| o4
  refine wkA ?_
  exact w2 rfl rfl rfl
theorem word_9 (G : Globs) (k : Nat) (d n m a imm : Int) (h : rightB ⟨9, d, n, m, a, imm⟩ = true) : isa_Word.f G (k + 5) [mV 9 d n m a imm] [] = some (.tup [W32 (wordF ⟨9, d, n, m, a, imm⟩), .bool true], []) := by
  have r1 : ∀ H, pureCall (isa_of.f G (k + 4)) [.int .i64 9] H = _ := fun H => pureCall_of (H := H) (of_spec G k 9) rfl rfl
  have r2 : ∀ H, pureCall (isa_fair.f G (k + 4)) [mV 9 d n m a imm, (formF 9).v] H = _ := fun H => pureCall_of (H := H) (fair_spec G (k + 1) 9 d n m a imm (formF 9) (form_bits 9)) rfl rfl
  have r3 : ∀ H, pureCall (isa_number.f G (k + 4)) [mV 9 d n m a imm] H = _ := fun H => pureCall_of (H := H) (number_spec G (k + 3) ⟨9, d, n, m, a, imm⟩ h) rfl rfl
  unfold rightB at h
  rw [Bool.and_eq_true] at h
  obtain ⟨_, h⟩ := h
  simp only at h
  rw [h] at r2
  simp [formF, fairB, regB, extraB, immB, halfI, stackB] at h
  have c1 : convInt .u32 (I6 d) = some (W32 d) := q_cv32 (by omega) (by omega)
  have c2 : convInt .u32 (I6 n) = some (W32 n) := q_cv32 (by omega) (by omega)
  have c3 : convInt .u32 (I6 m) = some (W32 m) := q_cv32 (by omega) (by omega)
  have s1 := shl_p Try.prog 24 true (v := n) (p := 32) (b := 5) 5 rfl (by decide) rfl (by omega) (by omega)
  have s2 := shl_p Try.prog 24 true (v := m) (p := 65536) (b := 16) 16 rfl (by decide) rfl (by omega) (by omega)
  have o1 := or_f0 Try.prog 24 false (x := 2613083136) (v := d) (q := 32) 5 rfl (by omega) (by omega) (by omega) (by omega) (by omega)
  have o2 := or_fd Try.prog 24 false (x := 2613083136 + d) (v := n) (p := 32) (q := 32) 5 5 rfl rfl (by omega) (by omega) (by omega) (by omega) (by omega)
  have o3 := or_fd Try.prog 24 false (x := 2613083136 + d + n * 32) (v := m) (p := 65536) (q := 32) 16 5 rfl rfl (by omega) (by omega) (by omega) (by omega) (by omega)
  have e4 : wNum 9 a imm = 0 := rfl
  have o4 : bin Try.prog .or 24 false (W32 (2613083136 + d + n * 32 + m * 65536)) (W32 (wNum 9 a imm)) = some (W32 (2613083136 + d + n * 32 + m * 65536 + wNum 9 a imm)) := by
    rw [e4]
    exact or_dj Try.prog 24 false (dj_zero (x := 2613083136 + d + n * 32 + m * 65536) (by omega)) (by omega)
  have ef : formF 9 = ⟨(formF 9).nm, 2613083136, true, true, true, (formF 9).a, (formF 9).b⟩ := rfl
  have eo : isOp 9 = true := rfl
  have ew : wordF ⟨9, d, n, m, a, imm⟩ = 2613083136 + d + n * 32 + m * 65536 + wNum 9 a imm := rfl
  rw [ew]
  rw [eo, ef] at r1
  rw [ef] at r2
  rw [isa_Word.step]
  unfold isa_Word.c
  unfold Form.v at r1 r2
  clear e4 ef eo h ew
  generalize (formF 9).nm = nm at *
  generalize (formF 9).a = fa at *
  generalize (formF 9).b = fb at *
  generalize wNum 9 a imm = z at *
  refine e_in ?_
  have fx := And.intro r1 <| And.intro r2 <| And.intro r3 <| And.intro c1 <| And.intro c2 <| And.intro c3 <| And.intro s1 <| And.intro s2 <| And.intro o1 <| And.intro o2 <| And.intro o3 <| o4
  refine wkA ?_
  exact w2 rfl rfl rfl
theorem word_10 (G : Globs) (k : Nat) (d n m a imm : Int) (h : rightB ⟨10, d, n, m, a, imm⟩ = true) : isa_Word.f G (k + 5) [mV 10 d n m a imm] [] = some (.tup [W32 (wordF ⟨10, d, n, m, a, imm⟩), .bool true], []) := by
  have r1 : ∀ H, pureCall (isa_of.f G (k + 4)) [.int .i64 10] H = _ := fun H => pureCall_of (H := H) (of_spec G k 10) rfl rfl
  have r2 : ∀ H, pureCall (isa_fair.f G (k + 4)) [mV 10 d n m a imm, (formF 10).v] H = _ := fun H => pureCall_of (H := H) (fair_spec G (k + 1) 10 d n m a imm (formF 10) (form_bits 10)) rfl rfl
  have r3 : ∀ H, pureCall (isa_number.f G (k + 4)) [mV 10 d n m a imm] H = _ := fun H => pureCall_of (H := H) (number_spec G (k + 3) ⟨10, d, n, m, a, imm⟩ h) rfl rfl
  unfold rightB at h
  rw [Bool.and_eq_true] at h
  obtain ⟨_, h⟩ := h
  simp only at h
  rw [h] at r2
  simp [formF, fairB, regB, extraB, immB, halfI, stackB] at h
  have c1 : convInt .u32 (I6 d) = some (W32 d) := q_cv32 (by omega) (by omega)
  have c2 : convInt .u32 (I6 n) = some (W32 n) := q_cv32 (by omega) (by omega)
  have c3 : convInt .u32 (I6 m) = some (W32 m) := q_cv32 (by omega) (by omega)
  have s1 := shl_p Try.prog 24 true (v := n) (p := 32) (b := 5) 5 rfl (by decide) rfl (by omega) (by omega)
  have s2 := shl_p Try.prog 24 true (v := m) (p := 65536) (b := 16) 16 rfl (by decide) rfl (by omega) (by omega)
  have o1 := or_f0 Try.prog 24 false (x := 2432696320) (v := d) (q := 32) 5 rfl (by omega) (by omega) (by omega) (by omega) (by omega)
  have o2 := or_fd Try.prog 24 false (x := 2432696320 + d) (v := n) (p := 32) (q := 32) 5 5 rfl rfl (by omega) (by omega) (by omega) (by omega) (by omega)
  have o3 := or_fd Try.prog 24 false (x := 2432696320 + d + n * 32) (v := m) (p := 65536) (q := 1) 16 0 rfl rfl (by omega) (by omega) (by omega) (by omega) (by omega)
  have e4 : wNum 10 a imm = imm * 1024 := rfl
  have o4 : bin Try.prog .or 24 false (W32 (2432696320 + d + n * 32 + m * 65536)) (W32 (wNum 10 a imm)) = some (W32 (2432696320 + d + n * 32 + m * 65536 + wNum 10 a imm)) := by
    rw [e4]
    exact or_dj Try.prog 24 false ((dj_field (x := 2432696320 + d + n * 32 + m * 65536) (v := imm) (p := 1024) (q := 4096) 10 12 rfl rfl (by omega) (by omega) (by omega) (by omega))) (by omega)
  have ef : formF 10 = ⟨(formF 10).nm, 2432696320, true, true, false, (formF 10).a, (formF 10).b⟩ := rfl
  have eo : isOp 10 = true := rfl
  have ew : wordF ⟨10, d, n, m, a, imm⟩ = 2432696320 + d + n * 32 + m * 65536 + wNum 10 a imm := rfl
  rw [ew]
  rw [eo, ef] at r1
  rw [ef] at r2
  rw [isa_Word.step]
  unfold isa_Word.c
  unfold Form.v at r1 r2
  clear e4 ef eo h ew
  generalize (formF 10).nm = nm at *
  generalize (formF 10).a = fa at *
  generalize (formF 10).b = fb at *
  generalize wNum 10 a imm = z at *
  refine e_in ?_
  have fx := And.intro r1 <| And.intro r2 <| And.intro r3 <| And.intro c1 <| And.intro c2 <| And.intro c3 <| And.intro s1 <| And.intro s2 <| And.intro o1 <| And.intro o2 <| And.intro o3 <| o4
  refine wkA ?_
  exact w2 rfl rfl rfl
theorem word_11 (G : Globs) (k : Nat) (d n m a imm : Int) (h : rightB ⟨11, d, n, m, a, imm⟩ = true) : isa_Word.f G (k + 5) [mV 11 d n m a imm] [] = some (.tup [W32 (wordF ⟨11, d, n, m, a, imm⟩), .bool true], []) := by
  have r1 : ∀ H, pureCall (isa_of.f G (k + 4)) [.int .i64 11] H = _ := fun H => pureCall_of (H := H) (of_spec G k 11) rfl rfl
  have r2 : ∀ H, pureCall (isa_fair.f G (k + 4)) [mV 11 d n m a imm, (formF 11).v] H = _ := fun H => pureCall_of (H := H) (fair_spec G (k + 1) 11 d n m a imm (formF 11) (form_bits 11)) rfl rfl
  have r3 : ∀ H, pureCall (isa_number.f G (k + 4)) [mV 11 d n m a imm] H = _ := fun H => pureCall_of (H := H) (number_spec G (k + 3) ⟨11, d, n, m, a, imm⟩ h) rfl rfl
  unfold rightB at h
  rw [Bool.and_eq_true] at h
  obtain ⟨_, h⟩ := h
  simp only at h
  rw [h] at r2
  simp [formF, fairB, regB, extraB, immB, halfI, stackB] at h
  have c1 : convInt .u32 (I6 d) = some (W32 d) := q_cv32 (by omega) (by omega)
  have c2 : convInt .u32 (I6 n) = some (W32 n) := q_cv32 (by omega) (by omega)
  have c3 : convInt .u32 (I6 m) = some (W32 m) := q_cv32 (by omega) (by omega)
  have s1 := shl_p Try.prog 24 true (v := n) (p := 32) (b := 5) 5 rfl (by decide) rfl (by omega) (by omega)
  have s2 := shl_p Try.prog 24 true (v := m) (p := 65536) (b := 16) 16 rfl (by decide) rfl (by omega) (by omega)
  have o1 := or_f0 Try.prog 24 false (x := 3506438144) (v := d) (q := 32) 5 rfl (by omega) (by omega) (by omega) (by omega) (by omega)
  have o2 := or_fd Try.prog 24 false (x := 3506438144 + d) (v := n) (p := 32) (q := 32) 5 5 rfl rfl (by omega) (by omega) (by omega) (by omega) (by omega)
  have o3 := or_fd Try.prog 24 false (x := 3506438144 + d + n * 32) (v := m) (p := 65536) (q := 1) 16 0 rfl rfl (by omega) (by omega) (by omega) (by omega) (by omega)
  have e4 : wNum 11 a imm = imm * 1024 := rfl
  have o4 : bin Try.prog .or 24 false (W32 (3506438144 + d + n * 32 + m * 65536)) (W32 (wNum 11 a imm)) = some (W32 (3506438144 + d + n * 32 + m * 65536 + wNum 11 a imm)) := by
    rw [e4]
    exact or_dj Try.prog 24 false ((dj_field (x := 3506438144 + d + n * 32 + m * 65536) (v := imm) (p := 1024) (q := 4096) 10 12 rfl rfl (by omega) (by omega) (by omega) (by omega))) (by omega)
  have ef : formF 11 = ⟨(formF 11).nm, 3506438144, true, true, false, (formF 11).a, (formF 11).b⟩ := rfl
  have eo : isOp 11 = true := rfl
  have ew : wordF ⟨11, d, n, m, a, imm⟩ = 3506438144 + d + n * 32 + m * 65536 + wNum 11 a imm := rfl
  rw [ew]
  rw [eo, ef] at r1
  rw [ef] at r2
  rw [isa_Word.step]
  unfold isa_Word.c
  unfold Form.v at r1 r2
  clear e4 ef eo h ew
  generalize (formF 11).nm = nm at *
  generalize (formF 11).a = fa at *
  generalize (formF 11).b = fb at *
  generalize wNum 11 a imm = z at *
  refine e_in ?_
  have fx := And.intro r1 <| And.intro r2 <| And.intro r3 <| And.intro c1 <| And.intro c2 <| And.intro c3 <| And.intro s1 <| And.intro s2 <| And.intro o1 <| And.intro o2 <| And.intro o3 <| o4
  refine wkA ?_
  exact w2 rfl rfl rfl
theorem word_12 (G : Globs) (k : Nat) (d n m a imm : Int) (h : rightB ⟨12, d, n, m, a, imm⟩ = true) : isa_Word.f G (k + 5) [mV 12 d n m a imm] [] = some (.tup [W32 (wordF ⟨12, d, n, m, a, imm⟩), .bool true], []) := by
  have r1 : ∀ H, pureCall (isa_of.f G (k + 4)) [.int .i64 12] H = _ := fun H => pureCall_of (H := H) (of_spec G k 12) rfl rfl
  have r2 : ∀ H, pureCall (isa_fair.f G (k + 4)) [mV 12 d n m a imm, (formF 12).v] H = _ := fun H => pureCall_of (H := H) (fair_spec G (k + 1) 12 d n m a imm (formF 12) (form_bits 12)) rfl rfl
  have r3 : ∀ H, pureCall (isa_number.f G (k + 4)) [mV 12 d n m a imm] H = _ := fun H => pureCall_of (H := H) (number_spec G (k + 3) ⟨12, d, n, m, a, imm⟩ h) rfl rfl
  unfold rightB at h
  rw [Bool.and_eq_true] at h
  obtain ⟨_, h⟩ := h
  simp only at h
  rw [h] at r2
  simp [formF, fairB, regB, extraB, immB, halfI, stackB] at h
  have c1 : convInt .u32 (I6 d) = some (W32 d) := q_cv32 (by omega) (by omega)
  have c2 : convInt .u32 (I6 n) = some (W32 n) := q_cv32 (by omega) (by omega)
  have c3 : convInt .u32 (I6 m) = some (W32 m) := q_cv32 (by omega) (by omega)
  have s1 := shl_p Try.prog 24 true (v := n) (p := 32) (b := 5) 5 rfl (by decide) rfl (by omega) (by omega)
  have s2 := shl_p Try.prog 24 true (v := m) (p := 65536) (b := 16) 16 rfl (by decide) rfl (by omega) (by omega)
  have o1 := or_f0 Try.prog 24 false (x := 3544186880) (v := d) (q := 32) 5 rfl (by omega) (by omega) (by omega) (by omega) (by omega)
  have o2 := or_fd Try.prog 24 false (x := 3544186880 + d) (v := n) (p := 32) (q := 32) 5 5 rfl rfl (by omega) (by omega) (by omega) (by omega) (by omega)
  have o3 := or_fd Try.prog 24 false (x := 3544186880 + d + n * 32) (v := m) (p := 65536) (q := 1) 16 0 rfl rfl (by omega) (by omega) (by omega) (by omega) (by omega)
  have e4 : wNum 12 a imm = (64 - imm) % 64 * 65536 + (63 - imm) * 1024 := rfl
  have o4 : bin Try.prog .or 24 false (W32 (3544186880 + d + n * 32 + m * 65536)) (W32 (wNum 12 a imm)) = some (W32 (3544186880 + d + n * 32 + m * 65536 + wNum 12 a imm)) := by
    rw [e4]
    exact or_dj Try.prog 24 false (dj_add (dj_field (x := 3544186880 + d + n * 32 + m * 65536) (v := (64 - imm) % 64) (p := 65536) (q := 64) 16 6 rfl rfl (by omega) (by omega) (by omega) (by omega)) (dj_field (x := 3544186880 + d + n * 32 + m * 65536) (v := (63 - imm)) (p := 1024) (q := 64) 10 6 rfl rfl (by omega) (by omega) (by omega) (by omega)) (dj_field (x := (64 - imm) % 64 * 65536) (v := (63 - imm)) (p := 1024) (q := 64) 10 6 rfl rfl (by omega) (by omega) (by omega) (by omega)) (by omega)) (by omega)
  have ef : formF 12 = ⟨(formF 12).nm, 3544186880, true, true, false, (formF 12).a, (formF 12).b⟩ := rfl
  have eo : isOp 12 = true := rfl
  have ew : wordF ⟨12, d, n, m, a, imm⟩ = 3544186880 + d + n * 32 + m * 65536 + wNum 12 a imm := rfl
  rw [ew]
  rw [eo, ef] at r1
  rw [ef] at r2
  rw [isa_Word.step]
  unfold isa_Word.c
  unfold Form.v at r1 r2
  clear e4 ef eo h ew
  generalize (formF 12).nm = nm at *
  generalize (formF 12).a = fa at *
  generalize (formF 12).b = fb at *
  generalize wNum 12 a imm = z at *
  refine e_in ?_
  have fx := And.intro r1 <| And.intro r2 <| And.intro r3 <| And.intro c1 <| And.intro c2 <| And.intro c3 <| And.intro s1 <| And.intro s2 <| And.intro o1 <| And.intro o2 <| And.intro o3 <| o4
  refine wkA ?_
  exact w2 rfl rfl rfl
theorem word_13 (G : Globs) (k : Nat) (d n m a imm : Int) (h : rightB ⟨13, d, n, m, a, imm⟩ = true) : isa_Word.f G (k + 5) [mV 13 d n m a imm] [] = some (.tup [W32 (wordF ⟨13, d, n, m, a, imm⟩), .bool true], []) := by
  have r1 : ∀ H, pureCall (isa_of.f G (k + 4)) [.int .i64 13] H = _ := fun H => pureCall_of (H := H) (of_spec G k 13) rfl rfl
  have r2 : ∀ H, pureCall (isa_fair.f G (k + 4)) [mV 13 d n m a imm, (formF 13).v] H = _ := fun H => pureCall_of (H := H) (fair_spec G (k + 1) 13 d n m a imm (formF 13) (form_bits 13)) rfl rfl
  have r3 : ∀ H, pureCall (isa_number.f G (k + 4)) [mV 13 d n m a imm] H = _ := fun H => pureCall_of (H := H) (number_spec G (k + 3) ⟨13, d, n, m, a, imm⟩ h) rfl rfl
  unfold rightB at h
  rw [Bool.and_eq_true] at h
  obtain ⟨_, h⟩ := h
  simp only at h
  rw [h] at r2
  simp [formF, fairB, regB, extraB, immB, halfI, stackB] at h
  have c1 : convInt .u32 (I6 d) = some (W32 d) := q_cv32 (by omega) (by omega)
  have c2 : convInt .u32 (I6 n) = some (W32 n) := q_cv32 (by omega) (by omega)
  have c3 : convInt .u32 (I6 m) = some (W32 m) := q_cv32 (by omega) (by omega)
  have s1 := shl_p Try.prog 24 true (v := n) (p := 32) (b := 5) 5 rfl (by decide) rfl (by omega) (by omega)
  have s2 := shl_p Try.prog 24 true (v := m) (p := 65536) (b := 16) 16 rfl (by decide) rfl (by omega) (by omega)
  have o1 := or_f0 Try.prog 24 false (x := 3544186880) (v := d) (q := 32) 5 rfl (by omega) (by omega) (by omega) (by omega) (by omega)
  have o2 := or_fd Try.prog 24 false (x := 3544186880 + d) (v := n) (p := 32) (q := 32) 5 5 rfl rfl (by omega) (by omega) (by omega) (by omega) (by omega)
  have o3 := or_fd Try.prog 24 false (x := 3544186880 + d + n * 32) (v := m) (p := 65536) (q := 1) 16 0 rfl rfl (by omega) (by omega) (by omega) (by omega) (by omega)
  have e4 : wNum 13 a imm = imm * 65536 + 63 * 1024 := rfl
  have o4 : bin Try.prog .or 24 false (W32 (3544186880 + d + n * 32 + m * 65536)) (W32 (wNum 13 a imm)) = some (W32 (3544186880 + d + n * 32 + m * 65536 + wNum 13 a imm)) := by
    rw [e4]
    exact or_dj Try.prog 24 false (dj_add (dj_field (x := 3544186880 + d + n * 32 + m * 65536) (v := imm) (p := 65536) (q := 64) 16 6 rfl rfl (by omega) (by omega) (by omega) (by omega)) (dj_field (x := 3544186880 + d + n * 32 + m * 65536) (v := 63) (p := 1024) (q := 64) 10 6 rfl rfl (by omega) (by omega) (by omega) (by omega)) (dj_field (x := imm * 65536) (v := 63) (p := 1024) (q := 64) 10 6 rfl rfl (by omega) (by omega) (by omega) (by omega)) (by omega)) (by omega)
  have ef : formF 13 = ⟨(formF 13).nm, 3544186880, true, true, false, (formF 13).a, (formF 13).b⟩ := rfl
  have eo : isOp 13 = true := rfl
  have ew : wordF ⟨13, d, n, m, a, imm⟩ = 3544186880 + d + n * 32 + m * 65536 + wNum 13 a imm := rfl
  rw [ew]
  rw [eo, ef] at r1
  rw [ef] at r2
  rw [isa_Word.step]
  unfold isa_Word.c
  unfold Form.v at r1 r2
  clear e4 ef eo h ew
  generalize (formF 13).nm = nm at *
  generalize (formF 13).a = fa at *
  generalize (formF 13).b = fb at *
  generalize wNum 13 a imm = z at *
  refine e_in ?_
  have fx := And.intro r1 <| And.intro r2 <| And.intro r3 <| And.intro c1 <| And.intro c2 <| And.intro c3 <| And.intro s1 <| And.intro s2 <| And.intro o1 <| And.intro o2 <| And.intro o3 <| o4
  refine wkA ?_
  exact w2 rfl rfl rfl
theorem word_14 (G : Globs) (k : Nat) (d n m a imm : Int) (h : rightB ⟨14, d, n, m, a, imm⟩ = true) : isa_Word.f G (k + 5) [mV 14 d n m a imm] [] = some (.tup [W32 (wordF ⟨14, d, n, m, a, imm⟩), .bool true], []) := by
  have r1 : ∀ H, pureCall (isa_of.f G (k + 4)) [.int .i64 14] H = _ := fun H => pureCall_of (H := H) (of_spec G k 14) rfl rfl
  have r2 : ∀ H, pureCall (isa_fair.f G (k + 4)) [mV 14 d n m a imm, (formF 14).v] H = _ := fun H => pureCall_of (H := H) (fair_spec G (k + 1) 14 d n m a imm (formF 14) (form_bits 14)) rfl rfl
  have r3 : ∀ H, pureCall (isa_number.f G (k + 4)) [mV 14 d n m a imm] H = _ := fun H => pureCall_of (H := H) (number_spec G (k + 3) ⟨14, d, n, m, a, imm⟩ h) rfl rfl
  unfold rightB at h
  rw [Bool.and_eq_true] at h
  obtain ⟨_, h⟩ := h
  simp only at h
  rw [h] at r2
  simp [formF, fairB, regB, extraB, immB, halfI, stackB] at h
  have c1 : convInt .u32 (I6 d) = some (W32 d) := q_cv32 (by omega) (by omega)
  have c2 : convInt .u32 (I6 n) = some (W32 n) := q_cv32 (by omega) (by omega)
  have c3 : convInt .u32 (I6 m) = some (W32 m) := q_cv32 (by omega) (by omega)
  have s1 := shl_p Try.prog 24 true (v := n) (p := 32) (b := 5) 5 rfl (by decide) rfl (by omega) (by omega)
  have s2 := shl_p Try.prog 24 true (v := m) (p := 65536) (b := 16) 16 rfl (by decide) rfl (by omega) (by omega)
  have o1 := or_f0 Try.prog 24 false (x := 2470509568) (v := d) (q := 32) 5 rfl (by omega) (by omega) (by omega) (by omega) (by omega)
  have o2 := or_fd Try.prog 24 false (x := 2470509568 + d) (v := n) (p := 32) (q := 32) 5 5 rfl rfl (by omega) (by omega) (by omega) (by omega) (by omega)
  have o3 := or_fd Try.prog 24 false (x := 2470509568 + d + n * 32) (v := m) (p := 65536) (q := 1) 16 0 rfl rfl (by omega) (by omega) (by omega) (by omega) (by omega)
  have e4 : wNum 14 a imm = imm * 65536 := rfl
  have o4 : bin Try.prog .or 24 false (W32 (2470509568 + d + n * 32 + m * 65536)) (W32 (wNum 14 a imm)) = some (W32 (2470509568 + d + n * 32 + m * 65536 + wNum 14 a imm)) := by
    rw [e4]
    exact or_dj Try.prog 24 false ((dj_field (x := 2470509568 + d + n * 32 + m * 65536) (v := imm) (p := 65536) (q := 64) 16 6 rfl rfl (by omega) (by omega) (by omega) (by omega))) (by omega)
  have ef : formF 14 = ⟨(formF 14).nm, 2470509568, true, true, false, (formF 14).a, (formF 14).b⟩ := rfl
  have eo : isOp 14 = true := rfl
  have ew : wordF ⟨14, d, n, m, a, imm⟩ = 2470509568 + d + n * 32 + m * 65536 + wNum 14 a imm := rfl
  rw [ew]
  rw [eo, ef] at r1
  rw [ef] at r2
  rw [isa_Word.step]
  unfold isa_Word.c
  unfold Form.v at r1 r2
  clear e4 ef eo h ew
  generalize (formF 14).nm = nm at *
  generalize (formF 14).a = fa at *
  generalize (formF 14).b = fb at *
  generalize wNum 14 a imm = z at *
  refine e_in ?_
  have fx := And.intro r1 <| And.intro r2 <| And.intro r3 <| And.intro c1 <| And.intro c2 <| And.intro c3 <| And.intro s1 <| And.intro s2 <| And.intro o1 <| And.intro o2 <| And.intro o3 <| o4
  refine wkA ?_
  exact w2 rfl rfl rfl
theorem word_15 (G : Globs) (k : Nat) (d n m a imm : Int) (h : rightB ⟨15, d, n, m, a, imm⟩ = true) : isa_Word.f G (k + 5) [mV 15 d n m a imm] [] = some (.tup [W32 (wordF ⟨15, d, n, m, a, imm⟩), .bool true], []) := by
  have r1 : ∀ H, pureCall (isa_of.f G (k + 4)) [.int .i64 15] H = _ := fun H => pureCall_of (H := H) (of_spec G k 15) rfl rfl
  have r2 : ∀ H, pureCall (isa_fair.f G (k + 4)) [mV 15 d n m a imm, (formF 15).v] H = _ := fun H => pureCall_of (H := H) (fair_spec G (k + 1) 15 d n m a imm (formF 15) (form_bits 15)) rfl rfl
  have r3 : ∀ H, pureCall (isa_number.f G (k + 4)) [mV 15 d n m a imm] H = _ := fun H => pureCall_of (H := H) (number_spec G (k + 3) ⟨15, d, n, m, a, imm⟩ h) rfl rfl
  unfold rightB at h
  rw [Bool.and_eq_true] at h
  obtain ⟨_, h⟩ := h
  simp only at h
  rw [h] at r2
  simp [formF, fairB, regB, extraB, immB, halfI, stackB] at h
  have c1 : convInt .u32 (I6 d) = some (W32 d) := q_cv32 (by omega) (by omega)
  have c2 : convInt .u32 (I6 n) = some (W32 n) := q_cv32 (by omega) (by omega)
  have c3 : convInt .u32 (I6 m) = some (W32 m) := q_cv32 (by omega) (by omega)
  have s1 := shl_p Try.prog 24 true (v := n) (p := 32) (b := 5) 5 rfl (by decide) rfl (by omega) (by omega)
  have s2 := shl_p Try.prog 24 true (v := m) (p := 65536) (b := 16) 16 rfl (by decide) rfl (by omega) (by omega)
  have o1 := or_f0 Try.prog 24 false (x := 3942645791) (v := d) (q := 1) 0 rfl (by omega) (by omega) (by omega) (by omega) (by omega)
  have o2 := or_fd Try.prog 24 false (x := 3942645791 + d) (v := n) (p := 32) (q := 32) 5 5 rfl rfl (by omega) (by omega) (by omega) (by omega) (by omega)
  have o3 := or_fd Try.prog 24 false (x := 3942645791 + d + n * 32) (v := m) (p := 65536) (q := 32) 16 5 rfl rfl (by omega) (by omega) (by omega) (by omega) (by omega)
  have e4 : wNum 15 a imm = 0 := rfl
  have o4 : bin Try.prog .or 24 false (W32 (3942645791 + d + n * 32 + m * 65536)) (W32 (wNum 15 a imm)) = some (W32 (3942645791 + d + n * 32 + m * 65536 + wNum 15 a imm)) := by
    rw [e4]
    exact or_dj Try.prog 24 false (dj_zero (x := 3942645791 + d + n * 32 + m * 65536) (by omega)) (by omega)
  have ef : formF 15 = ⟨(formF 15).nm, 3942645791, false, true, true, (formF 15).a, (formF 15).b⟩ := rfl
  have eo : isOp 15 = true := rfl
  have ew : wordF ⟨15, d, n, m, a, imm⟩ = 3942645791 + d + n * 32 + m * 65536 + wNum 15 a imm := rfl
  rw [ew]
  rw [eo, ef] at r1
  rw [ef] at r2
  rw [isa_Word.step]
  unfold isa_Word.c
  unfold Form.v at r1 r2
  clear e4 ef eo h ew
  generalize (formF 15).nm = nm at *
  generalize (formF 15).a = fa at *
  generalize (formF 15).b = fb at *
  generalize wNum 15 a imm = z at *
  refine e_in ?_
  have fx := And.intro r1 <| And.intro r2 <| And.intro r3 <| And.intro c1 <| And.intro c2 <| And.intro c3 <| And.intro s1 <| And.intro s2 <| And.intro o1 <| And.intro o2 <| And.intro o3 <| o4
  refine wkA ?_
  exact w2 rfl rfl rfl
theorem word_16 (G : Globs) (k : Nat) (d n m a imm : Int) (h : rightB ⟨16, d, n, m, a, imm⟩ = true) : isa_Word.f G (k + 5) [mV 16 d n m a imm] [] = some (.tup [W32 (wordF ⟨16, d, n, m, a, imm⟩), .bool true], []) := by
  have r1 : ∀ H, pureCall (isa_of.f G (k + 4)) [.int .i64 16] H = _ := fun H => pureCall_of (H := H) (of_spec G k 16) rfl rfl
  have r2 : ∀ H, pureCall (isa_fair.f G (k + 4)) [mV 16 d n m a imm, (formF 16).v] H = _ := fun H => pureCall_of (H := H) (fair_spec G (k + 1) 16 d n m a imm (formF 16) (form_bits 16)) rfl rfl
  have r3 : ∀ H, pureCall (isa_number.f G (k + 4)) [mV 16 d n m a imm] H = _ := fun H => pureCall_of (H := H) (number_spec G (k + 3) ⟨16, d, n, m, a, imm⟩ h) rfl rfl
  unfold rightB at h
  rw [Bool.and_eq_true] at h
  obtain ⟨_, h⟩ := h
  simp only at h
  rw [h] at r2
  simp [formF, fairB, regB, extraB, immB, halfI, stackB] at h
  have c1 : convInt .u32 (I6 d) = some (W32 d) := q_cv32 (by omega) (by omega)
  have c2 : convInt .u32 (I6 n) = some (W32 n) := q_cv32 (by omega) (by omega)
  have c3 : convInt .u32 (I6 m) = some (W32 m) := q_cv32 (by omega) (by omega)
  have s1 := shl_p Try.prog 24 true (v := n) (p := 32) (b := 5) 5 rfl (by decide) rfl (by omega) (by omega)
  have s2 := shl_p Try.prog 24 true (v := m) (p := 65536) (b := 16) 16 rfl (by decide) rfl (by omega) (by omega)
  have o1 := or_f0 Try.prog 24 false (x := 2592079872) (v := d) (q := 32) 5 rfl (by omega) (by omega) (by omega) (by omega) (by omega)
  have o2 := or_fd Try.prog 24 false (x := 2592079872 + d) (v := n) (p := 32) (q := 32) 5 5 rfl rfl (by omega) (by omega) (by omega) (by omega) (by omega)
  have o3 := or_fd Try.prog 24 false (x := 2592079872 + d + n * 32) (v := m) (p := 65536) (q := 32) 16 5 rfl rfl (by omega) (by omega) (by omega) (by omega) (by omega)
  have e4 : wNum 16 a imm = a * 4096 := rfl
  have o4 : bin Try.prog .or 24 false (W32 (2592079872 + d + n * 32 + m * 65536)) (W32 (wNum 16 a imm)) = some (W32 (2592079872 + d + n * 32 + m * 65536 + wNum 16 a imm)) := by
    rw [e4]
    exact or_dj Try.prog 24 false ((dj_field (x := 2592079872 + d + n * 32 + m * 65536) (v := a) (p := 4096) (q := 16) 12 4 rfl rfl (by omega) (by omega) (by omega) (by omega))) (by omega)
  have ef : formF 16 = ⟨(formF 16).nm, 2592079872, true, true, true, (formF 16).a, (formF 16).b⟩ := rfl
  have eo : isOp 16 = true := rfl
  have ew : wordF ⟨16, d, n, m, a, imm⟩ = 2592079872 + d + n * 32 + m * 65536 + wNum 16 a imm := rfl
  rw [ew]
  rw [eo, ef] at r1
  rw [ef] at r2
  rw [isa_Word.step]
  unfold isa_Word.c
  unfold Form.v at r1 r2
  clear e4 ef eo h ew
  generalize (formF 16).nm = nm at *
  generalize (formF 16).a = fa at *
  generalize (formF 16).b = fb at *
  generalize wNum 16 a imm = z at *
  refine e_in ?_
  have fx := And.intro r1 <| And.intro r2 <| And.intro r3 <| And.intro c1 <| And.intro c2 <| And.intro c3 <| And.intro s1 <| And.intro s2 <| And.intro o1 <| And.intro o2 <| And.intro o3 <| o4
  refine wkA ?_
  exact w2 rfl rfl rfl
theorem word_17 (G : Globs) (k : Nat) (d n m a imm : Int) (h : rightB ⟨17, d, n, m, a, imm⟩ = true) : isa_Word.f G (k + 5) [mV 17 d n m a imm] [] = some (.tup [W32 (wordF ⟨17, d, n, m, a, imm⟩), .bool true], []) := by
  have r1 : ∀ H, pureCall (isa_of.f G (k + 4)) [.int .i64 17] H = _ := fun H => pureCall_of (H := H) (of_spec G k 17) rfl rfl
  have r2 : ∀ H, pureCall (isa_fair.f G (k + 4)) [mV 17 d n m a imm, (formF 17).v] H = _ := fun H => pureCall_of (H := H) (fair_spec G (k + 1) 17 d n m a imm (formF 17) (form_bits 17)) rfl rfl
  have r3 : ∀ H, pureCall (isa_number.f G (k + 4)) [mV 17 d n m a imm] H = _ := fun H => pureCall_of (H := H) (number_spec G (k + 3) ⟨17, d, n, m, a, imm⟩ h) rfl rfl
  unfold rightB at h
  rw [Bool.and_eq_true] at h
  obtain ⟨_, h⟩ := h
  simp only at h
  rw [h] at r2
  simp [formF, fairB, regB, extraB, immB, halfI, stackB] at h
  have c1 : convInt .u32 (I6 d) = some (W32 d) := q_cv32 (by omega) (by omega)
  have c2 : convInt .u32 (I6 n) = some (W32 n) := q_cv32 (by omega) (by omega)
  have c3 : convInt .u32 (I6 m) = some (W32 m) := q_cv32 (by omega) (by omega)
  have s1 := shl_p Try.prog 24 true (v := n) (p := 32) (b := 5) 5 rfl (by decide) rfl (by omega) (by omega)
  have s2 := shl_p Try.prog 24 true (v := m) (p := 65536) (b := 16) 16 rfl (by decide) rfl (by omega) (by omega)
  have o1 := or_f0 Try.prog 24 false (x := 2594113504) (v := d) (q := 32) 5 rfl (by omega) (by omega) (by omega) (by omega) (by omega)
  have o2 := or_fd Try.prog 24 false (x := 2594113504 + d) (v := n) (p := 32) (q := 1) 5 0 rfl rfl (by omega) (by omega) (by omega) (by omega) (by omega)
  have o3 := or_fd Try.prog 24 false (x := 2594113504 + d + n * 32) (v := m) (p := 65536) (q := 1) 16 0 rfl rfl (by omega) (by omega) (by omega) (by omega) (by omega)
  have e4 : wNum 17 a imm = (if a % 2 = 0 then a + 1 else a - 1) * 4096 := rfl
  have o4 : bin Try.prog .or 24 false (W32 (2594113504 + d + n * 32 + m * 65536)) (W32 (wNum 17 a imm)) = some (W32 (2594113504 + d + n * 32 + m * 65536 + wNum 17 a imm)) := by
    rw [e4]
    exact or_dj Try.prog 24 false ((dj_field (x := 2594113504 + d + n * 32 + m * 65536) (v := (if a % 2 = 0 then a + 1 else a - 1)) (p := 4096) (q := 16) 12 4 rfl rfl (by omega) (by split <;> omega) (by split <;> omega) (by omega))) (by split <;> omega)
  have ef : formF 17 = ⟨(formF 17).nm, 2594113504, true, false, false, (formF 17).a, (formF 17).b⟩ := rfl
  have eo : isOp 17 = true := rfl
  have ew : wordF ⟨17, d, n, m, a, imm⟩ = 2594113504 + d + n * 32 + m * 65536 + wNum 17 a imm := rfl
  rw [ew]
  rw [eo, ef] at r1
  rw [ef] at r2
  rw [isa_Word.step]
  unfold isa_Word.c
  unfold Form.v at r1 r2
  clear e4 ef eo h ew
  generalize (formF 17).nm = nm at *
  generalize (formF 17).a = fa at *
  generalize (formF 17).b = fb at *
  generalize wNum 17 a imm = z at *
  refine e_in ?_
  have fx := And.intro r1 <| And.intro r2 <| And.intro r3 <| And.intro c1 <| And.intro c2 <| And.intro c3 <| And.intro s1 <| And.intro s2 <| And.intro o1 <| And.intro o2 <| And.intro o3 <| o4
  refine wkA ?_
  exact w2 rfl rfl rfl
theorem word_18 (G : Globs) (k : Nat) (d n m a imm : Int) (h : rightB ⟨18, d, n, m, a, imm⟩ = true) : isa_Word.f G (k + 5) [mV 18 d n m a imm] [] = some (.tup [W32 (wordF ⟨18, d, n, m, a, imm⟩), .bool true], []) := by
  have r1 : ∀ H, pureCall (isa_of.f G (k + 4)) [.int .i64 18] H = _ := fun H => pureCall_of (H := H) (of_spec G k 18) rfl rfl
  have r2 : ∀ H, pureCall (isa_fair.f G (k + 4)) [mV 18 d n m a imm, (formF 18).v] H = _ := fun H => pureCall_of (H := H) (fair_spec G (k + 1) 18 d n m a imm (formF 18) (form_bits 18)) rfl rfl
  have r3 : ∀ H, pureCall (isa_number.f G (k + 4)) [mV 18 d n m a imm] H = _ := fun H => pureCall_of (H := H) (number_spec G (k + 3) ⟨18, d, n, m, a, imm⟩ h) rfl rfl
  unfold rightB at h
  rw [Bool.and_eq_true] at h
  obtain ⟨_, h⟩ := h
  simp only at h
  rw [h] at r2
  simp [formF, fairB, regB, extraB, immB, halfI, stackB] at h
  have c1 : convInt .u32 (I6 d) = some (W32 d) := q_cv32 (by omega) (by omega)
  have c2 : convInt .u32 (I6 n) = some (W32 n) := q_cv32 (by omega) (by omega)
  have c3 : convInt .u32 (I6 m) = some (W32 m) := q_cv32 (by omega) (by omega)
  have s1 := shl_p Try.prog 24 true (v := n) (p := 32) (b := 5) 5 rfl (by decide) rfl (by omega) (by omega)
  have s2 := shl_p Try.prog 24 true (v := m) (p := 65536) (b := 16) 16 rfl (by decide) rfl (by omega) (by omega)
  have o1 := or_f0 Try.prog 24 false (x := 4181721088) (v := d) (q := 32) 5 rfl (by omega) (by omega) (by omega) (by omega) (by omega)
  have o2 := or_fd Try.prog 24 false (x := 4181721088 + d) (v := n) (p := 32) (q := 32) 5 5 rfl rfl (by omega) (by omega) (by omega) (by omega) (by omega)
  have o3 := or_fd Try.prog 24 false (x := 4181721088 + d + n * 32) (v := m) (p := 65536) (q := 1) 16 0 rfl rfl (by omega) (by omega) (by omega) (by omega) (by omega)
  have e4 : wNum 18 a imm = imm * 1024 := rfl
  have o4 : bin Try.prog .or 24 false (W32 (4181721088 + d + n * 32 + m * 65536)) (W32 (wNum 18 a imm)) = some (W32 (4181721088 + d + n * 32 + m * 65536 + wNum 18 a imm)) := by
    rw [e4]
    exact or_dj Try.prog 24 false ((dj_field (x := 4181721088 + d + n * 32 + m * 65536) (v := imm) (p := 1024) (q := 4096) 10 12 rfl rfl (by omega) (by omega) (by omega) (by omega))) (by omega)
  have ef : formF 18 = ⟨(formF 18).nm, 4181721088, true, true, false, (formF 18).a, (formF 18).b⟩ := rfl
  have eo : isOp 18 = true := rfl
  have ew : wordF ⟨18, d, n, m, a, imm⟩ = 4181721088 + d + n * 32 + m * 65536 + wNum 18 a imm := rfl
  rw [ew]
  rw [eo, ef] at r1
  rw [ef] at r2
  rw [isa_Word.step]
  unfold isa_Word.c
  unfold Form.v at r1 r2
  clear e4 ef eo h ew
  generalize (formF 18).nm = nm at *
  generalize (formF 18).a = fa at *
  generalize (formF 18).b = fb at *
  generalize wNum 18 a imm = z at *
  refine e_in ?_
  have fx := And.intro r1 <| And.intro r2 <| And.intro r3 <| And.intro c1 <| And.intro c2 <| And.intro c3 <| And.intro s1 <| And.intro s2 <| And.intro o1 <| And.intro o2 <| And.intro o3 <| o4
  refine wkA ?_
  exact w2 rfl rfl rfl
theorem word_19 (G : Globs) (k : Nat) (d n m a imm : Int) (h : rightB ⟨19, d, n, m, a, imm⟩ = true) : isa_Word.f G (k + 5) [mV 19 d n m a imm] [] = some (.tup [W32 (wordF ⟨19, d, n, m, a, imm⟩), .bool true], []) := by
  have r1 : ∀ H, pureCall (isa_of.f G (k + 4)) [.int .i64 19] H = _ := fun H => pureCall_of (H := H) (of_spec G k 19) rfl rfl
  have r2 : ∀ H, pureCall (isa_fair.f G (k + 4)) [mV 19 d n m a imm, (formF 19).v] H = _ := fun H => pureCall_of (H := H) (fair_spec G (k + 1) 19 d n m a imm (formF 19) (form_bits 19)) rfl rfl
  have r3 : ∀ H, pureCall (isa_number.f G (k + 4)) [mV 19 d n m a imm] H = _ := fun H => pureCall_of (H := H) (number_spec G (k + 3) ⟨19, d, n, m, a, imm⟩ h) rfl rfl
  unfold rightB at h
  rw [Bool.and_eq_true] at h
  obtain ⟨_, h⟩ := h
  simp only at h
  rw [h] at r2
  simp [formF, fairB, regB, extraB, immB, halfI, stackB] at h
  have c1 : convInt .u32 (I6 d) = some (W32 d) := q_cv32 (by omega) (by omega)
  have c2 : convInt .u32 (I6 n) = some (W32 n) := q_cv32 (by omega) (by omega)
  have c3 : convInt .u32 (I6 m) = some (W32 m) := q_cv32 (by omega) (by omega)
  have s1 := shl_p Try.prog 24 true (v := n) (p := 32) (b := 5) 5 rfl (by decide) rfl (by omega) (by omega)
  have s2 := shl_p Try.prog 24 true (v := m) (p := 65536) (b := 16) 16 rfl (by decide) rfl (by omega) (by omega)
  have o1 := or_f0 Try.prog 24 false (x := 4177526784) (v := d) (q := 32) 5 rfl (by omega) (by omega) (by omega) (by omega) (by omega)
  have o2 := or_fd Try.prog 24 false (x := 4177526784 + d) (v := n) (p := 32) (q := 32) 5 5 rfl rfl (by omega) (by omega) (by omega) (by omega) (by omega)
  have o3 := or_fd Try.prog 24 false (x := 4177526784 + d + n * 32) (v := m) (p := 65536) (q := 1) 16 0 rfl rfl (by omega) (by omega) (by omega) (by omega) (by omega)
  have e4 : wNum 19 a imm = imm * 1024 := rfl
  have o4 : bin Try.prog .or 24 false (W32 (4177526784 + d + n * 32 + m * 65536)) (W32 (wNum 19 a imm)) = some (W32 (4177526784 + d + n * 32 + m * 65536 + wNum 19 a imm)) := by
    rw [e4]
    exact or_dj Try.prog 24 false ((dj_field (x := 4177526784 + d + n * 32 + m * 65536) (v := imm) (p := 1024) (q := 4096) 10 12 rfl rfl (by omega) (by omega) (by omega) (by omega))) (by omega)
  have ef : formF 19 = ⟨(formF 19).nm, 4177526784, true, true, false, (formF 19).a, (formF 19).b⟩ := rfl
  have eo : isOp 19 = true := rfl
  have ew : wordF ⟨19, d, n, m, a, imm⟩ = 4177526784 + d + n * 32 + m * 65536 + wNum 19 a imm := rfl
  rw [ew]
  rw [eo, ef] at r1
  rw [ef] at r2
  rw [isa_Word.step]
  unfold isa_Word.c
  unfold Form.v at r1 r2
  clear e4 ef eo h ew
  generalize (formF 19).nm = nm at *
  generalize (formF 19).a = fa at *
  generalize (formF 19).b = fb at *
  generalize wNum 19 a imm = z at *
  refine e_in ?_
  have fx := And.intro r1 <| And.intro r2 <| And.intro r3 <| And.intro c1 <| And.intro c2 <| And.intro c3 <| And.intro s1 <| And.intro s2 <| And.intro o1 <| And.intro o2 <| And.intro o3 <| o4
  refine wkA ?_
  exact w2 rfl rfl rfl
theorem word_20 (G : Globs) (k : Nat) (d n m a imm : Int) (h : rightB ⟨20, d, n, m, a, imm⟩ = true) : isa_Word.f G (k + 5) [mV 20 d n m a imm] [] = some (.tup [W32 (wordF ⟨20, d, n, m, a, imm⟩), .bool true], []) := by
  have r1 : ∀ H, pureCall (isa_of.f G (k + 4)) [.int .i64 20] H = _ := fun H => pureCall_of (H := H) (of_spec G k 20) rfl rfl
  have r2 : ∀ H, pureCall (isa_fair.f G (k + 4)) [mV 20 d n m a imm, (formF 20).v] H = _ := fun H => pureCall_of (H := H) (fair_spec G (k + 1) 20 d n m a imm (formF 20) (form_bits 20)) rfl rfl
  have r3 : ∀ H, pureCall (isa_number.f G (k + 4)) [mV 20 d n m a imm] H = _ := fun H => pureCall_of (H := H) (number_spec G (k + 3) ⟨20, d, n, m, a, imm⟩ h) rfl rfl
  unfold rightB at h
  rw [Bool.and_eq_true] at h
  obtain ⟨_, h⟩ := h
  simp only at h
  rw [h] at r2
  simp [formF, fairB, regB, extraB, immB, halfI, stackB] at h
  have c1 : convInt .u32 (I6 d) = some (W32 d) := q_cv32 (by omega) (by omega)
  have c2 : convInt .u32 (I6 n) = some (W32 n) := q_cv32 (by omega) (by omega)
  have c3 : convInt .u32 (I6 m) = some (W32 m) := q_cv32 (by omega) (by omega)
  have s1 := shl_p Try.prog 24 true (v := n) (p := 32) (b := 5) 5 rfl (by decide) rfl (by omega) (by omega)
  have s2 := shl_p Try.prog 24 true (v := m) (p := 65536) (b := 16) 16 rfl (by decide) rfl (by omega) (by omega)
  have o1 := or_f0 Try.prog 24 false (x := 335544320) (v := d) (q := 1) 0 rfl (by omega) (by omega) (by omega) (by omega) (by omega)
  have o2 := or_fd Try.prog 24 false (x := 335544320 + d) (v := n) (p := 32) (q := 1) 5 0 rfl rfl (by omega) (by omega) (by omega) (by omega) (by omega)
  have o3 := or_fd Try.prog 24 false (x := 335544320 + d + n * 32) (v := m) (p := 65536) (q := 1) 16 0 rfl rfl (by omega) (by omega) (by omega) (by omega) (by omega)
  have e4 : wNum 20 a imm = imm % 67108864 := rfl
  have o4 : bin Try.prog .or 24 false (W32 (335544320 + d + n * 32 + m * 65536)) (W32 (wNum 20 a imm)) = some (W32 (335544320 + d + n * 32 + m * 65536 + wNum 20 a imm)) := by
    rw [e4]
    exact or_dj Try.prog 24 false ((by have := dj_field (x := 335544320 + d + n * 32 + m * 65536) (v := imm % 67108864) (p := 1) (q := 67108864) 0 26 rfl rfl (by omega) (by omega) (by omega) (by omega); rwa [Int.mul_one] at this)) (by omega)
  have ef : formF 20 = ⟨(formF 20).nm, 335544320, false, false, false, (formF 20).a, (formF 20).b⟩ := rfl
  have eo : isOp 20 = true := rfl
  have ew : wordF ⟨20, d, n, m, a, imm⟩ = 335544320 + d + n * 32 + m * 65536 + wNum 20 a imm := rfl
  rw [ew]
  rw [eo, ef] at r1
  rw [ef] at r2
  rw [isa_Word.step]
  unfold isa_Word.c
  unfold Form.v at r1 r2
  clear e4 ef eo h ew
  generalize (formF 20).nm = nm at *
  generalize (formF 20).a = fa at *
  generalize (formF 20).b = fb at *
  generalize wNum 20 a imm = z at *
  refine e_in ?_
  have fx := And.intro r1 <| And.intro r2 <| And.intro r3 <| And.intro c1 <| And.intro c2 <| And.intro c3 <| And.intro s1 <| And.intro s2 <| And.intro o1 <| And.intro o2 <| And.intro o3 <| o4
  refine wkA ?_
  exact w2 rfl rfl rfl
theorem word_21 (G : Globs) (k : Nat) (d n m a imm : Int) (h : rightB ⟨21, d, n, m, a, imm⟩ = true) : isa_Word.f G (k + 5) [mV 21 d n m a imm] [] = some (.tup [W32 (wordF ⟨21, d, n, m, a, imm⟩), .bool true], []) := by
  have r1 : ∀ H, pureCall (isa_of.f G (k + 4)) [.int .i64 21] H = _ := fun H => pureCall_of (H := H) (of_spec G k 21) rfl rfl
  have r2 : ∀ H, pureCall (isa_fair.f G (k + 4)) [mV 21 d n m a imm, (formF 21).v] H = _ := fun H => pureCall_of (H := H) (fair_spec G (k + 1) 21 d n m a imm (formF 21) (form_bits 21)) rfl rfl
  have r3 : ∀ H, pureCall (isa_number.f G (k + 4)) [mV 21 d n m a imm] H = _ := fun H => pureCall_of (H := H) (number_spec G (k + 3) ⟨21, d, n, m, a, imm⟩ h) rfl rfl
  unfold rightB at h
  rw [Bool.and_eq_true] at h
  obtain ⟨_, h⟩ := h
  simp only at h
  rw [h] at r2
  simp [formF, fairB, regB, extraB, immB, halfI, stackB] at h
  have c1 : convInt .u32 (I6 d) = some (W32 d) := q_cv32 (by omega) (by omega)
  have c2 : convInt .u32 (I6 n) = some (W32 n) := q_cv32 (by omega) (by omega)
  have c3 : convInt .u32 (I6 m) = some (W32 m) := q_cv32 (by omega) (by omega)
  have s1 := shl_p Try.prog 24 true (v := n) (p := 32) (b := 5) 5 rfl (by decide) rfl (by omega) (by omega)
  have s2 := shl_p Try.prog 24 true (v := m) (p := 65536) (b := 16) 16 rfl (by decide) rfl (by omega) (by omega)
  have o1 := or_f0 Try.prog 24 false (x := 1409286144) (v := d) (q := 1) 0 rfl (by omega) (by omega) (by omega) (by omega) (by omega)
  have o2 := or_fd Try.prog 24 false (x := 1409286144 + d) (v := n) (p := 32) (q := 1) 5 0 rfl rfl (by omega) (by omega) (by omega) (by omega) (by omega)
  have o3 := or_fd Try.prog 24 false (x := 1409286144 + d + n * 32) (v := m) (p := 65536) (q := 1) 16 0 rfl rfl (by omega) (by omega) (by omega) (by omega) (by omega)
  have e4 : wNum 21 a imm = a + imm % 524288 * 32 := rfl
  have o4 : bin Try.prog .or 24 false (W32 (1409286144 + d + n * 32 + m * 65536)) (W32 (wNum 21 a imm)) = some (W32 (1409286144 + d + n * 32 + m * 65536 + wNum 21 a imm)) := by
    rw [e4]
    exact or_dj Try.prog 24 false (dj_add (by have := dj_field (x := 1409286144 + d + n * 32 + m * 65536) (v := a) (p := 1) (q := 16) 0 4 rfl rfl (by omega) (by omega) (by omega) (by omega); rwa [Int.mul_one] at this) (dj_field (x := 1409286144 + d + n * 32 + m * 65536) (v := imm % 524288) (p := 32) (q := 524288) 5 19 rfl rfl (by omega) (by omega) (by omega) (by omega)) (dj_field (x := a) (v := imm % 524288) (p := 32) (q := 524288) 5 19 rfl rfl (by omega) (by omega) (by omega) (by omega)) (by omega)) (by omega)
  have ef : formF 21 = ⟨(formF 21).nm, 1409286144, false, false, false, (formF 21).a, (formF 21).b⟩ := rfl
  have eo : isOp 21 = true := rfl
  have ew : wordF ⟨21, d, n, m, a, imm⟩ = 1409286144 + d + n * 32 + m * 65536 + wNum 21 a imm := rfl
  rw [ew]
  rw [eo, ef] at r1
  rw [ef] at r2
  rw [isa_Word.step]
  unfold isa_Word.c
  unfold Form.v at r1 r2
  clear e4 ef eo h ew
  generalize (formF 21).nm = nm at *
  generalize (formF 21).a = fa at *
  generalize (formF 21).b = fb at *
  generalize wNum 21 a imm = z at *
  refine e_in ?_
  have fx := And.intro r1 <| And.intro r2 <| And.intro r3 <| And.intro c1 <| And.intro c2 <| And.intro c3 <| And.intro s1 <| And.intro s2 <| And.intro o1 <| And.intro o2 <| And.intro o3 <| o4
  refine wkA ?_
  exact w2 rfl rfl rfl
theorem word_22 (G : Globs) (k : Nat) (d n m a imm : Int) (h : rightB ⟨22, d, n, m, a, imm⟩ = true) : isa_Word.f G (k + 5) [mV 22 d n m a imm] [] = some (.tup [W32 (wordF ⟨22, d, n, m, a, imm⟩), .bool true], []) := by
  have r1 : ∀ H, pureCall (isa_of.f G (k + 4)) [.int .i64 22] H = _ := fun H => pureCall_of (H := H) (of_spec G k 22) rfl rfl
  have r2 : ∀ H, pureCall (isa_fair.f G (k + 4)) [mV 22 d n m a imm, (formF 22).v] H = _ := fun H => pureCall_of (H := H) (fair_spec G (k + 1) 22 d n m a imm (formF 22) (form_bits 22)) rfl rfl
  have r3 : ∀ H, pureCall (isa_number.f G (k + 4)) [mV 22 d n m a imm] H = _ := fun H => pureCall_of (H := H) (number_spec G (k + 3) ⟨22, d, n, m, a, imm⟩ h) rfl rfl
  unfold rightB at h
  rw [Bool.and_eq_true] at h
  obtain ⟨_, h⟩ := h
  simp only at h
  rw [h] at r2
  simp [formF, fairB, regB, extraB, immB, halfI, stackB] at h
  have c1 : convInt .u32 (I6 d) = some (W32 d) := q_cv32 (by omega) (by omega)
  have c2 : convInt .u32 (I6 n) = some (W32 n) := q_cv32 (by omega) (by omega)
  have c3 : convInt .u32 (I6 m) = some (W32 m) := q_cv32 (by omega) (by omega)
  have s1 := shl_p Try.prog 24 true (v := n) (p := 32) (b := 5) 5 rfl (by decide) rfl (by omega) (by omega)
  have s2 := shl_p Try.prog 24 true (v := m) (p := 65536) (b := 16) 16 rfl (by decide) rfl (by omega) (by omega)
  have o1 := or_f0 Try.prog 24 false (x := 3019898880) (v := d) (q := 32) 5 rfl (by omega) (by omega) (by omega) (by omega) (by omega)
  have o2 := or_fd Try.prog 24 false (x := 3019898880 + d) (v := n) (p := 32) (q := 1) 5 0 rfl rfl (by omega) (by omega) (by omega) (by omega) (by omega)
  have o3 := or_fd Try.prog 24 false (x := 3019898880 + d + n * 32) (v := m) (p := 65536) (q := 1) 16 0 rfl rfl (by omega) (by omega) (by omega) (by omega) (by omega)
  have e4 : wNum 22 a imm = imm % 524288 * 32 := rfl
  have o4 : bin Try.prog .or 24 false (W32 (3019898880 + d + n * 32 + m * 65536)) (W32 (wNum 22 a imm)) = some (W32 (3019898880 + d + n * 32 + m * 65536 + wNum 22 a imm)) := by
    rw [e4]
    exact or_dj Try.prog 24 false ((dj_field (x := 3019898880 + d + n * 32 + m * 65536) (v := imm % 524288) (p := 32) (q := 524288) 5 19 rfl rfl (by omega) (by omega) (by omega) (by omega))) (by omega)
  have ef : formF 22 = ⟨(formF 22).nm, 3019898880, true, false, false, (formF 22).a, (formF 22).b⟩ := rfl
  have eo : isOp 22 = true := rfl
  have ew : wordF ⟨22, d, n, m, a, imm⟩ = 3019898880 + d + n * 32 + m * 65536 + wNum 22 a imm := rfl
  rw [ew]
  rw [eo, ef] at r1
  rw [ef] at r2
  rw [isa_Word.step]
  unfold isa_Word.c
  unfold Form.v at r1 r2
  clear e4 ef eo h ew
  generalize (formF 22).nm = nm at *
  generalize (formF 22).a = fa at *
  generalize (formF 22).b = fb at *
  generalize wNum 22 a imm = z at *
  refine e_in ?_
  have fx := And.intro r1 <| And.intro r2 <| And.intro r3 <| And.intro c1 <| And.intro c2 <| And.intro c3 <| And.intro s1 <| And.intro s2 <| And.intro o1 <| And.intro o2 <| And.intro o3 <| o4
  refine wkA ?_
  exact w2 rfl rfl rfl
theorem word_23 (G : Globs) (k : Nat) (d n m a imm : Int) (h : rightB ⟨23, d, n, m, a, imm⟩ = true) : isa_Word.f G (k + 5) [mV 23 d n m a imm] [] = some (.tup [W32 (wordF ⟨23, d, n, m, a, imm⟩), .bool true], []) := by
  have r1 : ∀ H, pureCall (isa_of.f G (k + 4)) [.int .i64 23] H = _ := fun H => pureCall_of (H := H) (of_spec G k 23) rfl rfl
  have r2 : ∀ H, pureCall (isa_fair.f G (k + 4)) [mV 23 d n m a imm, (formF 23).v] H = _ := fun H => pureCall_of (H := H) (fair_spec G (k + 1) 23 d n m a imm (formF 23) (form_bits 23)) rfl rfl
  have r3 : ∀ H, pureCall (isa_number.f G (k + 4)) [mV 23 d n m a imm] H = _ := fun H => pureCall_of (H := H) (number_spec G (k + 3) ⟨23, d, n, m, a, imm⟩ h) rfl rfl
  unfold rightB at h
  rw [Bool.and_eq_true] at h
  obtain ⟨_, h⟩ := h
  simp only at h
  rw [h] at r2
  simp [formF, fairB, regB, extraB, immB, halfI, stackB] at h
  have c1 : convInt .u32 (I6 d) = some (W32 d) := q_cv32 (by omega) (by omega)
  have c2 : convInt .u32 (I6 n) = some (W32 n) := q_cv32 (by omega) (by omega)
  have c3 : convInt .u32 (I6 m) = some (W32 m) := q_cv32 (by omega) (by omega)
  have s1 := shl_p Try.prog 24 true (v := n) (p := 32) (b := 5) 5 rfl (by decide) rfl (by omega) (by omega)
  have s2 := shl_p Try.prog 24 true (v := m) (p := 65536) (b := 16) 16 rfl (by decide) rfl (by omega) (by omega)
  have o1 := or_f0 Try.prog 24 false (x := 3036676096) (v := d) (q := 32) 5 rfl (by omega) (by omega) (by omega) (by omega) (by omega)
  have o2 := or_fd Try.prog 24 false (x := 3036676096 + d) (v := n) (p := 32) (q := 1) 5 0 rfl rfl (by omega) (by omega) (by omega) (by omega) (by omega)
  have o3 := or_fd Try.prog 24 false (x := 3036676096 + d + n * 32) (v := m) (p := 65536) (q := 1) 16 0 rfl rfl (by omega) (by omega) (by omega) (by omega) (by omega)
  have e4 : wNum 23 a imm = imm % 524288 * 32 := rfl
  have o4 : bin Try.prog .or 24 false (W32 (3036676096 + d + n * 32 + m * 65536)) (W32 (wNum 23 a imm)) = some (W32 (3036676096 + d + n * 32 + m * 65536 + wNum 23 a imm)) := by
    rw [e4]
    exact or_dj Try.prog 24 false ((dj_field (x := 3036676096 + d + n * 32 + m * 65536) (v := imm % 524288) (p := 32) (q := 524288) 5 19 rfl rfl (by omega) (by omega) (by omega) (by omega))) (by omega)
  have ef : formF 23 = ⟨(formF 23).nm, 3036676096, true, false, false, (formF 23).a, (formF 23).b⟩ := rfl
  have eo : isOp 23 = true := rfl
  have ew : wordF ⟨23, d, n, m, a, imm⟩ = 3036676096 + d + n * 32 + m * 65536 + wNum 23 a imm := rfl
  rw [ew]
  rw [eo, ef] at r1
  rw [ef] at r2
  rw [isa_Word.step]
  unfold isa_Word.c
  unfold Form.v at r1 r2
  clear e4 ef eo h ew
  generalize (formF 23).nm = nm at *
  generalize (formF 23).a = fa at *
  generalize (formF 23).b = fb at *
  generalize wNum 23 a imm = z at *
  refine e_in ?_
  have fx := And.intro r1 <| And.intro r2 <| And.intro r3 <| And.intro c1 <| And.intro c2 <| And.intro c3 <| And.intro s1 <| And.intro s2 <| And.intro o1 <| And.intro o2 <| And.intro o3 <| o4
  refine wkA ?_
  exact w2 rfl rfl rfl
theorem word_24 (G : Globs) (k : Nat) (d n m a imm : Int) (h : rightB ⟨24, d, n, m, a, imm⟩ = true) : isa_Word.f G (k + 5) [mV 24 d n m a imm] [] = some (.tup [W32 (wordF ⟨24, d, n, m, a, imm⟩), .bool true], []) := by
  have r1 : ∀ H, pureCall (isa_of.f G (k + 4)) [.int .i64 24] H = _ := fun H => pureCall_of (H := H) (of_spec G k 24) rfl rfl
  have r2 : ∀ H, pureCall (isa_fair.f G (k + 4)) [mV 24 d n m a imm, (formF 24).v] H = _ := fun H => pureCall_of (H := H) (fair_spec G (k + 1) 24 d n m a imm (formF 24) (form_bits 24)) rfl rfl
  have r3 : ∀ H, pureCall (isa_number.f G (k + 4)) [mV 24 d n m a imm] H = _ := fun H => pureCall_of (H := H) (number_spec G (k + 3) ⟨24, d, n, m, a, imm⟩ h) rfl rfl
  unfold rightB at h
  rw [Bool.and_eq_true] at h
  obtain ⟨_, h⟩ := h
  simp only at h
  rw [h] at r2
  simp [formF, fairB, regB, extraB, immB, halfI, stackB] at h
  have c1 : convInt .u32 (I6 d) = some (W32 d) := q_cv32 (by omega) (by omega)
  have c2 : convInt .u32 (I6 n) = some (W32 n) := q_cv32 (by omega) (by omega)
  have c3 : convInt .u32 (I6 m) = some (W32 m) := q_cv32 (by omega) (by omega)
  have s1 := shl_p Try.prog 24 true (v := n) (p := 32) (b := 5) 5 rfl (by decide) rfl (by omega) (by omega)
  have s2 := shl_p Try.prog 24 true (v := m) (p := 65536) (b := 16) 16 rfl (by decide) rfl (by omega) (by omega)
  have o1 := or_f0 Try.prog 24 false (x := 3560964096) (v := d) (q := 1) 0 rfl (by omega) (by omega) (by omega) (by omega) (by omega)
  have o2 := or_fd Try.prog 24 false (x := 3560964096 + d) (v := n) (p := 32) (q := 1) 5 0 rfl rfl (by omega) (by omega) (by omega) (by omega) (by omega)
  have o3 := or_fd Try.prog 24 false (x := 3560964096 + d + n * 32) (v := m) (p := 65536) (q := 1) 16 0 rfl rfl (by omega) (by omega) (by omega) (by omega) (by omega)
  have e4 : wNum 24 a imm = imm * 32 := rfl
  have o4 : bin Try.prog .or 24 false (W32 (3560964096 + d + n * 32 + m * 65536)) (W32 (wNum 24 a imm)) = some (W32 (3560964096 + d + n * 32 + m * 65536 + wNum 24 a imm)) := by
    rw [e4]
    exact or_dj Try.prog 24 false ((dj_field (x := 3560964096 + d + n * 32 + m * 65536) (v := imm) (p := 32) (q := 65536) 5 16 rfl rfl (by omega) (by omega) (by omega) (by omega))) (by omega)
  have ef : formF 24 = ⟨(formF 24).nm, 3560964096, false, false, false, (formF 24).a, (formF 24).b⟩ := rfl
  have eo : isOp 24 = true := rfl
  have ew : wordF ⟨24, d, n, m, a, imm⟩ = 3560964096 + d + n * 32 + m * 65536 + wNum 24 a imm := rfl
  rw [ew]
  rw [eo, ef] at r1
  rw [ef] at r2
  rw [isa_Word.step]
  unfold isa_Word.c
  unfold Form.v at r1 r2
  clear e4 ef eo h ew
  generalize (formF 24).nm = nm at *
  generalize (formF 24).a = fa at *
  generalize (formF 24).b = fb at *
  generalize wNum 24 a imm = z at *
  refine e_in ?_
  have fx := And.intro r1 <| And.intro r2 <| And.intro r3 <| And.intro c1 <| And.intro c2 <| And.intro c3 <| And.intro s1 <| And.intro s2 <| And.intro o1 <| And.intro o2 <| And.intro o3 <| o4
  refine wkA ?_
  exact w2 rfl rfl rfl
theorem word_spec (G : Globs) (k : Nat) (i : MI) : isa_Word.f G (k + 5) [i.v] [] = some (.tup [W32 (wordR i), .bool (rightB i)], []) := by
  cases hr : rightB i
  · have e : wordR i = 0 := by unfold wordR; rw [hr]; rfl
    rw [e]
    obtain ⟨op, d, n, m, a, imm⟩ := i
    show isa_Word.f G (k + 5) [mV op d n m a imm] [] = _
    rw [isa_Word.step]
    unfold isa_Word.c
    unfold rightB at hr
    have r1 : ∀ H, pureCall (isa_of.f G (k + 4)) [I6 op] H = _ := fun H => pureCall_of (H := H) (of_spec G k op) rfl rfl
    have r2 : ∀ H, pureCall (isa_fair.f G (k + 4)) [mV op d n m a imm, (formF op).v] H = _ := fun H => pureCall_of (H := H) (fair_spec G (k + 1) op d n m a imm (formF op) (form_bits op)) rfl rfl
    simp only at hr
    generalize fairB ⟨op, d, n, m, a, imm⟩ (formF op) = g2 at *
    generalize isOp op = g1 at *
    obtain ⟨nm, w, fd, fn, fm, fa, fb⟩ := formF op
    unfold Form.v at *
    refine e_in ?_
    cases g1
    · have fx := And.intro r1 <| r2
      refine wkA ?_
      exact w2 rfl rfl rfl
    · cases g2
      · have fx := And.intro r1 <| r2
        refine wkA ?_
        exact w2 rfl rfl rfl
      · cases hr
  · have e : wordR i = wordF i := by unfold wordR; rw [hr]; rfl
    rw [e]
    obtain ⟨op, d, n, m, a, imm⟩ := i
    show isa_Word.f G (k + 5) [mV op d n m a imm] [] = _
    have h24 := (Bool.and_eq_true_iff.1 hr).1
    have h24 : 1 ≤ op ∧ op ≤ 24 := of_decide_eq_true h24
    rcases op24 h24 with rfl | rfl | rfl | rfl | rfl | rfl | rfl | rfl | rfl | rfl | rfl | rfl | rfl | rfl | rfl | rfl | rfl | rfl | rfl | rfl | rfl | rfl | rfl | rfl
    · exact word_1 G k d n m a imm hr
    · exact word_2 G k d n m a imm hr
    · exact word_3 G k d n m a imm hr
    · exact word_4 G k d n m a imm hr
    · exact word_5 G k d n m a imm hr
    · exact word_6 G k d n m a imm hr
    · exact word_7 G k d n m a imm hr
    · exact word_8 G k d n m a imm hr
    · exact word_9 G k d n m a imm hr
    · exact word_10 G k d n m a imm hr
    · exact word_11 G k d n m a imm hr
    · exact word_12 G k d n m a imm hr
    · exact word_13 G k d n m a imm hr
    · exact word_14 G k d n m a imm hr
    · exact word_15 G k d n m a imm hr
    · exact word_16 G k d n m a imm hr
    · exact word_17 G k d n m a imm hr
    · exact word_18 G k d n m a imm hr
    · exact word_19 G k d n m a imm hr
    · exact word_20 G k d n m a imm hr
    · exact word_21 G k d n m a imm hr
    · exact word_22 G k d n m a imm hr
    · exact word_23 G k d n m a imm hr
    · exact word_24 G k d n m a imm hr
end Go.Proofs.Ytbamoecablpfjaa.Mir
namespace Go.Proofs.Ytbamoecablpfjaa.Mir
open Go
set_option linter.unusedVariables false
set_option linter.unusedSimpArgs false
set_option maxHeartbeats 8000000
set_option maxRecDepth 20000
def x1F (v : Int) : Int := if v % 2 = 0 then v + 1 else v - 1
def sgnF (n h : Int) : Int := if h ≤ n then n - 2 * h else n
def exA (op w : Int) : Int :=
  if op = 1 ∨ op = 2 then w / 2097152 % 4
  else if op = 8 then w / 1024 % 32
  else if op = 16 then w / 4096 % 16
  else if op = 17 then x1F (w / 4096 % 16)
  else if op = 21 then w % 16
  else 0
def exI (op w : Int) : Int :=
  if op = 1 ∨ op = 2 then w / 32 % 65536
  else if op = 10 ∨ op = 11 ∨ op = 18 ∨ op = 19 then w / 1024 % 4096
  else if op = 12 then 63 - w / 1024 % 64
  else if op = 13 ∨ op = 14 then w / 65536 % 64
  else if op = 20 then sgnF (w % 67108864) 33554432
  else if op = 21 ∨ op = 22 ∨ op = 23 then sgnF (w / 32 % 524288) 262144
  else if op = 24 then w / 32 % 65536
  else 0
/-- A word as an instruction of a kind. -/
def asF (op w : Int) : MI := ⟨op, if (formF op).d = true then w % 32 else 0, if (formF op).n = true then w / 32 % 32 else 0, if (formF op).m = true then w / 65536 % 32 else 0, exA op w, exI op w⟩
theorem shr_p (P : Program) (t : Nat) (c : Bool) (kk : IntKind) {v p b : Int} (s : Nat) (hb : b = (s : Int)) (hs : s ≤ 32) (hp : p = ((2 ^ s : Nat) : Int)) (h0 : 0 ≤ v) : bin P .shr t c (W32 v) (.int kk b) = some (W32 (v / p)) := by
  subst hb
  rw [bin_shr _ _ _ _ _ _ _ (Int.natCast_nonneg s), Int.toNat_natCast]
  have e : min s IntKind.u32.bits = s := Nat.min_eq_left hs
  have e2 : ((2 : Int) ^ s) = p := by rw [hp]; exact_mod_cast rfl
  rw [e, e2, Int.fdiv_eq_ediv_of_nonneg _ (by rw [hp]; exact Int.natCast_nonneg _)]
theorem field_spec (G : Globs) (k : Nat) (w : Int) (h0 : 0 ≤ w) (h1 : w < 4294967296) {a b p q : Int} (s : Nat) (ha : a = (s : Int)) (hs : s ≤ 31) (hp : p = ((2 ^ s : Nat) : Int)) (g : Nat) (hb : b = (g : Int)) (hg : g ≤ 26) (hq : q = ((2 ^ g : Nat) : Int)) :
    isa_field.f G (k + 1) [W32 w, I6 a, I6 b] [] = some (I6 (w / p % q), []) := by
  rw [isa_field.step]
  unfold isa_field.c
  have p0 : 0 < p := by rw [hp]; exact_mod_cast Nat.two_pow_pos s
  have d0 : 0 ≤ w / p := Int.ediv_nonneg h0 (by omega)
  have d1 : w / p ≤ w := Int.ediv_le_self _ h0
  have hl : (2 ^ g : Nat) ≤ 2 ^ 26 := Nat.pow_le_pow_right (by decide) hg
  have q0 : 0 < q := by rw [hq]; exact_mod_cast Nat.two_pow_pos g
  have q1 : q ≤ 67108864 := by
    have e : (2 ^ 26 : Nat) = 67108864 := by decide
    rw [hq]; omega
  have s1 := shr_p Try.prog 24 false .i64 (v := w) (p := p) (b := a) s ha (by omega) hp h0
  have s2 : bin Try.prog .shl 24 true (.int .u32 1) (I6 b) = some (W32 q) := by
    subst hb
    rw [bin_shl _ _ _ _ _ _ _ (Int.natCast_nonneg g), Int.toNat_natCast]
    have e : min g IntKind.u32.bits = g := Nat.min_eq_left (by show g ≤ 32; omega)
    have e2 : ((2 : Int) ^ g) = q := by rw [hq]; exact_mod_cast rfl
    rw [e, e2, Int.one_mul, wrap_of_u32 (by omega) (by omega)]
  have s3 : bin Try.prog .sub 24 true (W32 q) (.int .u32 1) = some (W32 (q - 1)) := sub32 _ _ _ (by omega) (by omega) (by omega)
  have s4 : bin Try.prog .and 24 false (W32 (w / p)) (W32 (q - 1)) = some (W32 (w / p % q)) := by
    have := and_low Try.prog 24 false (x := w / p) (q := q - 1) g (by omega) (by rw [hq]; have := Nat.two_pow_pos g; omega) d0 (by omega)
    rw [this]; congr 2; rw [Int.sub_add_cancel]
  have m0 : 0 ≤ w / p % q := Int.emod_nonneg _ (by omega)
  have m1 : w / p % q < q := Int.emod_lt_of_pos _ q0
  have s5 : convInt .i64 (W32 (w / p % q)) = some (I6 (w / p % q)) := q_cvI (by omega) (by omega)
  clear ha hb hp hq
  generalize w / p % q = z at *
  generalize w / p = z2 at *
  refine e_in ?_
  have fx := And.intro s1 <| And.intro s2 <| And.intro s3 <| And.intro s4 <| s5
  refine wkA ?_
  exact w1i rfl
theorem sign_spec (G : Globs) (k : Nat) (n b h : Int) (hb : (b = 19 ∧ h = 262144) ∨ (b = 26 ∧ h = 33554432)) (n0 : 0 ≤ n) (n1 : n < 67108864) : isa_sign.f G (k + 1) [I6 n, I6 b] [] = some (I6 (sgnF n h), []) := by
  rw [isa_sign.step]
  unfold isa_sign.c sgnF
  obtain ⟨s1, s2, s3⟩ : bin Try.prog .sub 3 true (I6 b) (.int .i64 1) = some (I6 (b - 1)) ∧ bin Try.prog .shl 3 true (.int .i64 1) (I6 (b - 1)) = some (I6 h) ∧ bin Try.prog .shl 3 true (.int .i64 1) (I6 b) = some (I6 (2 * h)) := by
    clear n0 n1
    rcases hb with ⟨rfl, rfl⟩ | ⟨rfl, rfl⟩
    · exact ⟨by kernel_rfl, by kernel_rfl, by kernel_rfl⟩
    · exact ⟨by kernel_rfl, by kernel_rfl, by kernel_rfl⟩
  have hh : 0 ≤ h ∧ h ≤ 33554432 := by omega
  clear hb
  refine e_in ?_
  by_cases hc : h ≤ n
  · rw [if_pos hc]
    have fx := And.intro s1 <| And.intro s2 <| s3
    refine wkA ?_
    exact w1i rfl
  · rw [if_neg hc]
    have fx := And.intro s1 <| And.intro s2 <| s3
    refine wkA ?_
    exact w1i rfl
theorem xor1i (P : Program) (t : Nat) (c : Bool) {a : Int} (h0 : 0 ≤ a) (h1 : a < 16) : bin P .xor t c (I6 a) (.int .i64 1) = some (I6 (x1F a)) := by
  have h : a = 0 ∨ a = 1 ∨ a = 2 ∨ a = 3 ∨ a = 4 ∨ a = 5 ∨ a = 6 ∨ a = 7 ∨ a = 8 ∨ a = 9 ∨ a = 10 ∨ a = 11 ∨ a = 12 ∨ a = 13 ∨ a = 14 ∨ a = 15 := by omega
  rcases h with rfl | rfl | rfl | rfl | rfl | rfl | rfl | rfl | rfl | rfl | rfl | rfl | rfl | rfl | rfl | rfl <;> (clear h0 h1; show _ = _; kernel_rfl)
theorem extras_spec (G : Globs) (k : Nat) (op w : Int) (hop : 1 ≤ op ∧ op ≤ 24) (h0 : 0 ≤ w) (h1 : w < 4294967296) : isa_extras.f G (k + 2) [I6 op, W32 w] [] = some (.tup [I6 (exA op w), I6 (exI op w)], []) := by
  rw [isa_extras.step]
  unfold isa_extras.c
  have f1 : ∀ H, pureCall (isa_field.f G (k + 1)) [W32 w, .int .i64 21, .int .i64 2] H = some (I6 (w / 2097152 % 4), H) := fun H => pureCall_of (H := H) (field_spec G k w h0 h1 21 rfl (by decide) rfl 2 rfl (by decide) rfl) rfl rfl
  have f2 : ∀ H, pureCall (isa_field.f G (k + 1)) [W32 w, .int .i64 5, .int .i64 16] H = some (I6 (w / 32 % 65536), H) := fun H => pureCall_of (H := H) (field_spec G k w h0 h1 5 rfl (by decide) rfl 16 rfl (by decide) rfl) rfl rfl
  have f3 : ∀ H, pureCall (isa_field.f G (k + 1)) [W32 w, .int .i64 10, .int .i64 5] H = some (I6 (w / 1024 % 32), H) := fun H => pureCall_of (H := H) (field_spec G k w h0 h1 10 rfl (by decide) rfl 5 rfl (by decide) rfl) rfl rfl
  have f4 : ∀ H, pureCall (isa_field.f G (k + 1)) [W32 w, .int .i64 12, .int .i64 4] H = some (I6 (w / 4096 % 16), H) := fun H => pureCall_of (H := H) (field_spec G k w h0 h1 12 rfl (by decide) rfl 4 rfl (by decide) rfl) rfl rfl
  have f5 : ∀ H, pureCall (isa_field.f G (k + 1)) [W32 w, .int .i64 10, .int .i64 12] H = some (I6 (w / 1024 % 4096), H) := fun H => pureCall_of (H := H) (field_spec G k w h0 h1 10 rfl (by decide) rfl 12 rfl (by decide) rfl) rfl rfl
  have f6 : ∀ H, pureCall (isa_field.f G (k + 1)) [W32 w, .int .i64 10, .int .i64 6] H = some (I6 (w / 1024 % 64), H) := fun H => pureCall_of (H := H) (field_spec G k w h0 h1 10 rfl (by decide) rfl 6 rfl (by decide) rfl) rfl rfl
  have f7 : ∀ H, pureCall (isa_field.f G (k + 1)) [W32 w, .int .i64 16, .int .i64 6] H = some (I6 (w / 65536 % 64), H) := fun H => pureCall_of (H := H) (field_spec G k w h0 h1 16 rfl (by decide) rfl 6 rfl (by decide) rfl) rfl rfl
  have f8 : ∀ H, pureCall (isa_field.f G (k + 1)) [W32 w, .int .i64 0, .int .i64 26] H = some (I6 (w / 1 % 67108864), H) := fun H => pureCall_of (H := H) (field_spec G k w h0 h1 0 rfl (by decide) rfl 26 rfl (by decide) rfl) rfl rfl
  have f9 : ∀ H, pureCall (isa_field.f G (k + 1)) [W32 w, .int .i64 0, .int .i64 4] H = some (I6 (w / 1 % 16), H) := fun H => pureCall_of (H := H) (field_spec G k w h0 h1 0 rfl (by decide) rfl 4 rfl (by decide) rfl) rfl rfl
  have f10 : ∀ H, pureCall (isa_field.f G (k + 1)) [W32 w, .int .i64 5, .int .i64 19] H = some (I6 (w / 32 % 524288), H) := fun H => pureCall_of (H := H) (field_spec G k w h0 h1 5 rfl (by decide) rfl 19 rfl (by decide) rfl) rfl rfl
  rw [Int.ediv_one] at f8 f9
  have g1 : ∀ H, pureCall (isa_sign.f G (k + 1)) [I6 (w % 67108864), .int .i64 26] H = some (I6 (sgnF (w % 67108864) 33554432), H) := fun H => pureCall_of (H := H) (sign_spec G k _ 26 33554432 (.inr ⟨rfl, rfl⟩) (by omega) (by omega)) rfl rfl
  have g2 : ∀ H, pureCall (isa_sign.f G (k + 1)) [I6 (w / 32 % 524288), .int .i64 19] H = some (I6 (sgnF (w / 32 % 524288) 262144), H) := fun H => pureCall_of (H := H) (sign_spec G k _ 19 262144 (.inl ⟨rfl, rfl⟩) (by omega) (by omega)) rfl rfl
  have g3 := xor1i Try.prog 3 true (a := w / 4096 % 16) (by omega) (by omega)
  have g4 : bin Try.prog .sub 3 true (.int .i64 63) (I6 (w / 1024 % 64)) = some (I6 (63 - w / 1024 % 64)) := q_sub (by omega) (by omega)
  refine e_in ?_
  rcases op24 hop with rfl | rfl | rfl | rfl | rfl | rfl | rfl | rfl | rfl | rfl | rfl | rfl | rfl | rfl | rfl | rfl | rfl | rfl | rfl | rfl | rfl | rfl | rfl | rfl
  all_goals (
    have fx := And.intro f1 <| And.intro f2 <| And.intro f3 <| And.intro f4 <| And.intro f5 <| And.intro f6 <| And.intro f7 <| And.intro f8 <| And.intro f9 <| And.intro f10 <| And.intro g1 <| And.intro g2 <| And.intro g3 <| g4
    refine wkA ?_
    exact w2 rfl rfl rfl)
theorem finL_two {x y : AV} {H : AHeap} (hx : belowB 0 x = true) (hy : belowB 0 y = true) {m : Option AV} (hm : m = some x) : finL [m, some y] 0 H = some (.ret, [.tup [x, y]], []) := by
  subst hm
  have : belowB 0 (.tup [x, y]) = true := by simp [belowB, belowL, hx, hy]
  unfold finL
  exact finV_two hx hy H
/-- Is a word an instruction of a kind? -/
def asB (op w : Int) : Bool := rightB (asF op w) && decide (wordF (asF op w) = w)
theorem as_spec (G : Globs) (k : Nat) (op w : Int) (hop : 1 ≤ op ∧ op ≤ 24) (h0 : 0 ≤ w) (h1 : w < 4294967296) : isa_as.f G (k + 6) [I6 op, W32 w] [] = some (.tup [(asF op w).v, .bool (asB op w)], []) := by
  rw [isa_as.step]
  unfold isa_as.c
  have r1 : ∀ H, pureCall (isa_of.f G (k + 5)) [I6 op] H = _ := fun H => pureCall_of (H := H) (of_spec G (k + 1) op) rfl rfl
  have r2 : ∀ H, pureCall (isa_extras.f G (k + 5)) [I6 op, W32 w] H = _ := fun H => pureCall_of (H := H) (extras_spec G (k + 3) op w hop h0 h1) rfl rfl
  have f1 : ∀ H, pureCall (isa_field.f G (k + 5)) [W32 w, .int .i64 0, .int .i64 5] H = some (I6 (w / 1 % 32), H) := fun H => pureCall_of (H := H) (field_spec G (k + 4) w h0 h1 0 rfl (by decide) rfl 5 rfl (by decide) rfl) rfl rfl
  have f2 : ∀ H, pureCall (isa_field.f G (k + 5)) [W32 w, .int .i64 5, .int .i64 5] H = some (I6 (w / 32 % 32), H) := fun H => pureCall_of (H := H) (field_spec G (k + 4) w h0 h1 5 rfl (by decide) rfl 5 rfl (by decide) rfl) rfl rfl
  have f3 : ∀ H, pureCall (isa_field.f G (k + 5)) [W32 w, .int .i64 16, .int .i64 5] H = some (I6 (w / 65536 % 32), H) := fun H => pureCall_of (H := H) (field_spec G (k + 4) w h0 h1 16 rfl (by decide) rfl 5 rfl (by decide) rfl) rfl rfl
  rw [Int.ediv_one] at f1
  have r3 : ∀ H, pureCall (isa_Word.f G (k + 5)) [(asF op w).v] H = _ := fun H => pureCall_of (H := H) (word_spec G k (asF op w)) rfl rfl
  have r4 : rightB (asF op w) = true → wordR (asF op w) = wordF (asF op w) := fun h => by unfold wordR; rw [if_pos h]
  unfold asB
  generalize wordR (asF op w) = zr at *
  generalize wordF (asF op w) = zf at *
  generalize rightB (asF op w) = b at *
  unfold asF at *
  generalize formF op = F at *
  obtain ⟨nm, w0, fd, fn, fm, fa, fb⟩ := F
  generalize isOp op = go at *
  generalize exA op w = xa at *
  generalize exI op w = xi at *
  unfold MI.v Form.v at *
  simp only at *
  generalize w % 32 = y1 at *
  generalize w / 32 % 32 = y2 at *
  generalize w / 65536 % 32 = y3 at *
  have key : ∀ c : Bool, b = c → b = (b && decide (zf = w)) ∨ zf ≠ w := fun _ _ => by
    by_cases h : zf = w
    · left; rw [decide_eq_true h, Bool.and_true]
    · exact .inr h
  refine e_in ?_
  cases fd <;> cases fn <;> cases fm
  all_goals (
    simp only [if_true, if_false, Bool.false_eq_true, ↓reduceIte] at r3 ⊢
    cases b
    · have fx := And.intro r1 <| And.intro r2 <| And.intro r3 <| And.intro f1 <| And.intro f2 <| f3
      refine wkB ?_
      exact oF (finL_two rfl rfl rfl)
    · have r4 := r4 rfl
      subst r4
      by_cases hz : zr = w
      · have fx := And.intro r1 <| And.intro r2 <| And.intro r3 <| And.intro f1 <| And.intro f2 <| f3
        refine wkB ?_
        rw [decide_eq_true hz]
        exact oF (finL_two rfl rfl rfl)
      · have fx := And.intro r1 <| And.intro r2 <| And.intro r3 <| And.intro f1 <| And.intro f2 <| f3
        refine wkB ?_
        rw [decide_eq_false hz]
        exact oF (finL_two rfl rfl rfl))
end Go.Proofs.Ytbamoecablpfjaa.Mir
namespace Go.Proofs.Ytbamoecablpfjaa.Mir
open Go
set_option linter.unusedVariables false
set_option linter.unusedSimpArgs false
set_option maxHeartbeats 8000000
set_option maxRecDepth 20000
/-- One that is found: not a shift up by none. -/
def okB (op w : Int) : Bool := asB op w && (decide (op ≠ 12) || decide ((asF op w).imm ≠ 0))
def findF : Nat → Int → Int → Option MI
  | 0, _, _ => none
  | d + 1, op, w => if okB op w = true then some (asF op w) else findF d (op + 1) w
/-- A word's instruction. -/
def ofF (w : Int) : Option MI := findF 24 1 w
def ofV (q : Option MI) : AV := match q with
  | some i => .tup [i.v, .bool true]
  | none => .tup [mV 0 0 0 0 0 0, .bool false]
def ofStep (q : Option MI) (w : Int) (T : AHeap) : Outc := match q with
  | some i => (.ret, [W32 w, .ptr 0 1 0 0, .bool true, I6 i.op], ⟨23, 6, [i.v]⟩ :: T)
  | none => (.exit 0, [W32 w, .ptr 0 1 0 0, .bool false, I6 25], ⟨23, 6, [mV 0 0 0 0 0 0]⟩ :: T)
theorem of_loop (G : Globs) (k : Nat) (self : Den) (w : Int) (h0 : 0 ≤ w) (h1 : w < 4294967296) : ∀ (d f : Nat) (op : Int) (T : AHeap), op + (d : Int) = 25 → 1 ≤ op → d < f →
    ∃ T', loopN (isa_Of.l2 G (k + 6) 1 self) f [W32 w, .ptr 0 1 0 0, .bool false, I6 op] (⟨23, 6, [mV 0 0 0 0 0 0]⟩ :: T) = some (ofStep (findF d op w) w T')
  | d, 0, op, T, h, _, hf => by omega
  | 0, f + 1, op, T, h, _, hf => by
    rw [loopN_succ, isa_Of.l2]
    have hc : cutH 1 [W32 w, .ptr 0 1 0 0, .bool false, I6 op] (⟨23, 6, [mV 0 0 0 0 0 0]⟩ :: T) = some [⟨23, 6, [mV 0 0 0 0 0 0]⟩] := rfl
    have e : op = 25 := by omega
    subst e
    refine ⟨[], ?_⟩
    refine e_id ?_
    refine eC hc ?_
    have fx := True.intro
    refine wkA ?_
    refine e_out ?_; rfl
  | d + 1, f + 1, op, T, h, hop, hf => by
    rw [loopN_succ, isa_Of.l2]
    have hc : cutH 1 [W32 w, .ptr 0 1 0 0, .bool false, I6 op] (⟨23, 6, [mV 0 0 0 0 0 0]⟩ :: T) = some [⟨23, 6, [mV 0 0 0 0 0 0]⟩] := rfl
    have ih := fun T => of_loop G k self w h0 h1 d f (op + 1) T (by omega) (by omega) (by omega)
    have r1 : ∀ H, pureCall (isa_as.f G (k + 6)) [I6 op, W32 w] H = _ := fun H => pureCall_of (H := H) (as_spec G k op w (by omega) h0 h1) rfl rfl
    have e0 : (asF op w).op = op := rfl
    have q1 : bin Try.prog .leq 3 true (I6 op) (.int .i64 24) = some (.bool true) := q_leq_t (by omega)
    have q2 : bin Try.prog .add 3 true (I6 op) (.int .i64 1) = some (I6 (op + 1)) := q_add (by omega) (by omega)
    unfold findF okB
    generalize asB op w = b at *
    generalize asF op w = i at *
    obtain ⟨op', xd, xn, xm, xa, xi⟩ := i
    simp only at e0
    subst e0
    unfold MI.v at *
    simp only at *
    clear h1 h hf hop h0
    cases b
    · rw [if_neg (by simp)]
      obtain ⟨T', ih⟩ := ih [⟨23, 6, [.agg [I6 op', I6 xd, I6 xn, I6 xm, I6 xa, I6 xi]]⟩]
      refine ⟨T', ?_⟩
      refine e_id ?_
      refine eC hc ?_
      have fx := And.intro r1 <| And.intro q1 <| q2
      refine wkA ?_
      exact ih
    · by_cases h12 : op' = 12
      · by_cases hi : xi = 0
        · rw [if_neg (by simp [h12, hi])]
          obtain ⟨T', ih⟩ := ih [⟨23, 6, [.agg [I6 op', I6 xd, I6 xn, I6 xm, I6 xa, I6 xi]]⟩]
          refine ⟨T', ?_⟩
          refine e_id ?_
          refine eC hc ?_
          have fx := And.intro r1 <| And.intro q1 <| q2
          refine wkA ?_
          exact ih
        · rw [if_pos (by simp [h12, hi])]
          refine ⟨[⟨23, 6, [.agg [I6 op', I6 xd, I6 xn, I6 xm, I6 xa, I6 xi]]⟩], ?_⟩
          refine e_id ?_
          refine eC hc ?_
          have fx := And.intro r1 <| And.intro q1 <| q2
          refine wkA ?_
          refine e_out ?_; rfl
      · rw [if_pos (by simp [h12])]
        refine ⟨[⟨23, 6, [.agg [I6 op', I6 xd, I6 xn, I6 xm, I6 xa, I6 xi]]⟩], ?_⟩
        refine e_id ?_
        refine eC hc ?_
        have fx := And.intro r1 <| And.intro q1 <| q2
        refine wkA ?_
        refine e_out ?_; rfl
theorem ldInstr (G : Globs) (i : MI) : loadV G true 6 (.ptr 0 1 0 0) [⟨23, 6, [i.v]⟩] = some i.v := rfl
theorem Of_spec (G : Globs) (k : Nat) (w : Int) (h0 : 0 ≤ w) (h1 : w < 4294967296) : isa_Of.f G (k + 40) [W32 w] [] = some (ofV (ofF w), []) := by
  rw [isa_Of.step]
  unfold isa_Of.c
  obtain ⟨T', lp⟩ : ∃ T', loopN (isa_Of.l2 G (k + 39) 1 (isa_Of.f G (k + 39))) (k + 39) [W32 w, .ptr 0 1 0 0, .bool false, .int .i64 1] [⟨23, 6, [mV 0 0 0 0 0 0]⟩] = some (ofStep (findF 24 1 w) w T') := of_loop G (k + 33) (isa_Of.f G (k + 39)) w h0 h1 24 (k + 39) 1 [] (by decide) (by decide) (by omega)
  unfold ofF
  generalize findF 24 1 w = q at *
  refine e_in ?_
  cases q with
  | none =>
    unfold ofStep at lp
    simp only at lp
    have fx := True.intro
    have lx1 := lp
    refine wkA ?_
    exact oF (finL_two rfl rfl rfl)
  | some i =>
    unfold ofStep at lp
    simp only at lp
    have fx := True.intro
    have lx1 := lp
    refine wkA ?_
    exact oF (finL_two rfl rfl rfl)
end Go.Proofs.Ytbamoecablpfjaa.Mir
namespace Go.Proofs.Ytbamoecablpfjaa.Mir
open Go
set_option linter.unusedVariables false
set_option linter.unusedSimpArgs false
set_option maxHeartbeats 8000000
set_option maxRecDepth 20000
theorem right24 {i : MI} (h : rightB i = true) : 1 ≤ i.op ∧ i.op ≤ 24 := by
  unfold rightB at h
  rw [Bool.and_eq_true] at h
  exact of_decide_eq_true h.1
/-- The kind of a word. -/
def cls (w : Int) : Int :=
  if w < 402653184 then 20 else if w < 1426063360 then 21 else if w < 2317352960 then 5 else if w < 2334130176 then 3 else if w < 2436890624 then 10
  else if w < 2474639360 then 14 else if w < 2594177024 then (if w / 1024 % 4 = 1 then 17 else 16) else if w < 2602565632 then 8 else if w < 2615148544 then 9
  else if w < 2854223872 then 6 else if w < 3036676096 then 22 else if w < 3053453312 then 23 else if w < 3391094784 then 7 else if w < 3407872000 then 4
  else if w < 3510632448 then 11 else if w < 3539992576 then 1 else if w < 3548381184 then (if w / 1024 % 64 = 63 then 13 else 12) else if w < 3563061248 then 24
  else if w < 3944742912 then 15 else if w < 4076863488 then 2 else if w < 4181721088 then 19 else 18
theorem word_all {i : MI} (h : rightB i = true) : 0 ≤ wordF i ∧ wordF i < 4294967296 ∧ asF i.op (wordF i) = i ∧ cls (wordF i) = (if i.op = 12 ∧ i.imm = 0 then 13 else i.op) := by
  have h24 := right24 h
  obtain ⟨op, d, n, m, a, imm⟩ := i
  unfold rightB at h
  rw [Bool.and_eq_true] at h
  obtain ⟨_, h⟩ := h
  simp only at h24
  obtain ⟨w, hw⟩ : ∃ w, w = wordF ⟨op, d, n, m, a, imm⟩ := ⟨_, rfl⟩
  rw [← hw]
  rcases op24 h24 with rfl | rfl | rfl | rfl | rfl | rfl | rfl | rfl | rfl | rfl | rfl | rfl | rfl | rfl | rfl | rfl | rfl | rfl | rfl | rfl | rfl | rfl | rfl | rfl
  all_goals (
    simp [formF, fairB, regB, extraB, immB, halfI, stackB] at h
    have hw2 := hw
    simp [wordF, formF, wNum] at hw2
    clear hw
    refine ⟨by omega, by omega, ?_, ?_⟩
    · simp [asF, formF, exA, exI, sgnF, x1F]
      first | omega | (refine ⟨?_, ?_, ?_, ?_⟩ <;> omega)
    · unfold cls
      simp (disch := omega) only [if_pos, if_neg]
      first | done | omega | (by_cases hi : imm = 0 <;> simp [hi] <;> omega))
theorem asB_iff {op w : Int} : asB op w = true ↔ rightB (asF op w) = true ∧ wordF (asF op w) = w := by
  unfold asB; simp
theorem okB_iff {op w : Int} : okB op w = true ↔ (rightB (asF op w) = true ∧ wordF (asF op w) = w) ∧ ¬ (op = 12 ∧ (asF op w).imm = 0) := by
  unfold okB
  rw [Bool.and_eq_true, asB_iff]
  simp
  intro _ _
  constructor
  · rintro (h | h)
    · intro h2; exact absurd h2 h
    · intro _; exact h
  · intro h
    by_cases h2 : op = 12
    · exact .inr (h h2)
    · exact .inl h2
theorem okB_cls {op w : Int} (h : okB op w = true) : cls w = op := by
  obtain ⟨⟨h1, h2⟩, h3⟩ := okB_iff.1 h
  have := (word_all h1).2.2.2
  rw [h2] at this
  have h3' : ¬ ((asF op w).op = 12 ∧ (asF op w).imm = 0) := h3
  rw [this, if_neg h3']
  rfl
theorem find_none : ∀ {d : Nat} {op w : Int}, findF d op w = none → ∀ o : Int, op ≤ o → o < op + d → okB o w = false
  | 0, op, w, _, o, h1, h2 => by omega
  | d + 1, op, w, h, o, h1, h2 => by
    unfold findF at h
    by_cases hk : okB op w = true
    · rw [if_pos hk] at h; cases h
    · rw [if_neg hk] at h
      by_cases ho : o = op
      · subst ho; simpa using hk
      · exact find_none h o (by omega) (by omega)
theorem find_some : ∀ {d : Nat} {op w : Int} {i : MI}, findF d op w = some i → ∃ o, okB o w = true ∧ i = asF o w ∧ op ≤ o ∧ o < op + d
  | 0, op, w, i, h => by cases h
  | d + 1, op, w, i, h => by
    unfold findF at h
    by_cases hk : okB op w = true
    · rw [if_pos hk] at h
      simp at h
      exact ⟨op, hk, h.symm, by omega, by omega⟩
    · rw [if_neg hk] at h
      obtain ⟨o, h1, h2, h3, h4⟩ := find_some h
      exact ⟨o, h1, h2, by omega, by omega⟩
/-- What is found. -/
theorem of_some {w : Int} {i : MI} (h : ofF w = some i) : rightB i = true ∧ wordF i = w ∧ ¬ (i.op = 12 ∧ i.imm = 0) := by
  obtain ⟨o, h1, rfl, _, _⟩ := find_some h
  obtain ⟨⟨h2, h3⟩, h4⟩ := okB_iff.1 h1
  exact ⟨h2, h3, h4⟩
/-- An instruction is found by its word. -/
theorem of_word {i : MI} (h : rightB i = true) (hs : ¬ (i.op = 12 ∧ i.imm = 0)) : ofF (wordF i) = some i := by
  obtain ⟨w0, w1, w2, w3⟩ := word_all h
  rw [if_neg hs] at w3
  have h24 := right24 h
  have hk : okB i.op (wordF i) = true := by
    rw [okB_iff, w2]
    exact ⟨⟨h, rfl⟩, hs⟩
  cases hq : ofF (wordF i) with
  | none =>
    have := find_none hq i.op h24.1 (by omega)
    rw [hk] at this; cases this
  | some j =>
    obtain ⟨o, h1, rfl, _, _⟩ := find_some hq
    have := okB_cls h1
    rw [w3] at this
    rw [← this, w2]
theorem of_iff {w : Int} {i : MI} : ofF w = some i ↔ rightB i = true ∧ wordF i = w ∧ ¬ (i.op = 12 ∧ i.imm = 0) := by
  constructor
  · exact of_some
  · rintro ⟨h1, rfl, h3⟩; exact of_word h1 h3
end Go.Proofs.Ytbamoecablpfjaa.Mir
namespace Go.Proofs.Ytbamoecablpfjaa.Mir
open Go
set_option linter.unusedVariables false
set_option linter.unusedSimpArgs false
set_option maxHeartbeats 8000000
set_option maxRecDepth 20000
/-- What an instruction is read as. -/
def wantF (i : MI) : MI := if i.op = 12 ∧ i.imm = 0 then ⟨13, i.d, i.n, i.m, i.a, i.imm⟩ else i
def sameM (i k : MI) : Prop := i.op = k.op ∧ i.d = k.d ∧ i.n = k.n ∧ i.m = k.m ∧ i.a = k.a ∧ i.imm = k.imm
theorem sameM_iff {i k : MI} : sameM i k ↔ i = k := by
  constructor
  · obtain ⟨a, b, c, d, e, f⟩ := i; obtain ⟨a', b', c', d', e', f'⟩ := k
    rintro ⟨h1, h2, h3, h4, h5, h6⟩
    simp only at h1 h2 h3 h4 h5 h6
    subst h1 h2 h3 h4 h5 h6; rfl
  · rintro rfl; exact ⟨rfl, rfl, rfl, rfl, rfl, rfl⟩
theorem want_right {i : MI} (h : rightB i = true) : rightB (wantF i) = true ∧ wordF (wantF i) = wordF i ∧ ¬ ((wantF i).op = 12 ∧ (wantF i).imm = 0) := by
  unfold wantF
  by_cases hh : i.op = 12 ∧ i.imm = 0
  · rw [if_pos hh]
    obtain ⟨op, d, n, m, a, imm⟩ := i
    obtain ⟨rfl, rfl⟩ := hh
    refine ⟨?_, ?_, by simp⟩
    · revert h; simp [rightB, isOp, formF, fairB, regB, extraB, immB, halfI, stackB]
    · simp [wordF, formF, wNum]
  · rw [if_neg hh]
    exact ⟨h, rfl, hh⟩
theorem of_want {i : MI} (h : rightB i = true) : ofF (wordF i) = some (wantF i) := by
  obtain ⟨h1, h2, h3⟩ := want_right h
  rw [← h2]; exact of_word h1 h3
theorem wordR_right {i : MI} (h : rightB i = true) : wordR i = wordF i := by unfold wordR; rw [if_pos h]
theorem wordR_wrong {i : MI} (h : rightB i = false) : wordR i = 0 := by unfold wordR; rw [h]; rfl
theorem same_want {i k : MI} (hi : rightB i = true) (hk : rightB k = true) : (wordR i = wordR k) ↔ sameM (wantF i) (wantF k) := by
  rw [sameM_iff, wordR_right hi, wordR_right hk]
  constructor
  · intro h
    have h1 := of_want hi
    rw [h, of_want hk] at h1
    exact (Option.some.inj h1).symm
  · intro h
    have h1 := (want_right hi).2.1
    rw [← h1, h, (want_right hk).2.1]
end Go.Proofs.Ytbamoecablpfjaa.Mir
namespace Go.Proofs.Ytbamoecablpfjaa.Mir
open Go
set_option linter.unusedVariables false
set_option linter.unusedSimpArgs false
set_option maxHeartbeats 8000000
set_option maxRecDepth 20000
theorem same_all (G : Globs) (k : Nat) (a b c d e f a' b' c' d' e' f' : Int) (r : Bool) (hr : r = true ↔ (a = a' ∧ b = b' ∧ c = c' ∧ d = d' ∧ e = e' ∧ f = f')) :
    alembicref_SameInstr.f G (k + 1) [mV a b c d e f, mV a' b' c' d' e' f'] [] = some (.bool r, []) := by
  rw [alembicref_SameInstr.step]
  unfold alembicref_SameInstr.c
  refine e_in ?_
  repeat' first
    | (with_reducible first | refine eT ?_ | refine eN ?_ | refine eS ?_ | refine eXn ?_ | refine eXr ?_ | refine eX ?_ | refine eI ?_ | refine eK ?_ | refine eV0 ?_ | refine eGr0 ?_ | refine eGtt ?_ | refine eGff ?_ | refine eGtf ?_ | refine eGft ?_ | refine eGno ?_)
    | ((with_reducible apply eCn); (simp only [nth_zero, nth_succ]; first | done | (with_reducible exact rfl)))
    | ((with_reducible apply eJ); (rfl))
    | ((with_reducible apply eGr1); (first | rfl | (simp only [nth_zero, nth_succ]; rfl)))
    | ((with_reducible apply eB); (first | (with_reducible exact rfl) | (simp (disch := omega) only [qa, putC, AV.cells, storable, buildSt, fillA, buildRo, buildOwn, fillE, Nat.reduceLeDiff, Nat.reduceLT, Nat.reduceAdd, ↓reduceIte]; first | done | (with_reducible exact rfl) | (with_reducible exact ⟨rfl, rfl⟩))))
    | ((with_reducible apply eR); (simp only [nth_zero, nth_succ]; (with_reducible exact rfl)))
    | ((with_reducible first | refine sEql ?_ ?_ | refine sNeq ?_ ?_ | refine sLss ?_ ?_ | refine sLeq ?_ ?_ | refine sGtr ?_ ?_ | refine sGeq ?_ ?_ | refine sNot ?_ ?_ | refine sPick ?_ ?_ | refine sGd ?_ ?_ | refine eBool ?_ ?_) <;> intro hq <;> try subst hq)
  all_goals first | omega | (refine w1b ?_; first | (rw [eq_comm, hr]; omega) | (rw [eq_comm, ← Bool.not_eq_true, hr]; omega) | (cases r <;> simp at hr <;> first | rfl | omega | (simp [*]; done) | (simp; omega)))
open Classical in
theorem same_spec (G : Globs) (k : Nat) (i j : MI) : alembicref_SameInstr.f G (k + 1) [i.v, j.v] [] = some (.bool (decide (sameM i j)), []) := by
  obtain ⟨a, b, c, d, e, f⟩ := i
  obtain ⟨a', b', c', d', e', f'⟩ := j
  exact same_all G k a b c d e f a' b' c' d' e' f' _ (by rw [decide_eq_true_iff]; rfl)
end Go.Proofs.Ytbamoecablpfjaa.Mir
namespace Go.Proofs.Ytbamoecablpfjaa
open Go Mir
set_option linter.unusedVariables false
set_option linter.unusedSimpArgs false
set_option maxHeartbeats 8000000
set_option maxRecDepth 20000
theorem of_instr {x : AV} (h : IsT Try.prog 23 x) : ∃ i : MI, x = i.v := by
  obtain ⟨cs, rfl, hf⟩ := h.of_struct Try.underlying23
  cases hf with
  | cons h1 hf =>
  cases hf with
  | cons h2 hf =>
  cases hf with
  | cons h3 hf =>
  cases hf with
  | cons h4 hf =>
  cases hf with
  | cons h5 hf =>
  cases hf with
  | cons h6 hf =>
  cases hf with
  | nil =>
  obtain ⟨a, rfl, _⟩ := h1.of_int (k := .i64) Try.underlying3
  obtain ⟨b, rfl, _⟩ := h2.of_int (k := .i64) Try.underlying3
  obtain ⟨c, rfl, _⟩ := h3.of_int (k := .i64) Try.underlying3
  obtain ⟨d, rfl, _⟩ := h4.of_int (k := .i64) Try.underlying3
  obtain ⟨e, rfl, _⟩ := h5.of_int (k := .i64) Try.underlying3
  obtain ⟨f, rfl, hw⟩ := h6.of_int (k := .i64) Try.underlying3
  exact ⟨⟨a, b, c, d, e, f⟩, rfl⟩
theorem first_ok (G : Globs) (k : Nat) : alembiclaw22_first.f G (k + 30) [] [] = some (.bool true, []) := by kernel_rfl
/-- What an instruction is read as: three ways. -/
theorem want_ways (op d n m a imm : Int) : (op ≠ 12 ∧ (wantF ⟨op, d, n, m, a, imm⟩).v = mV op d n m a imm) ∨ (op = 12 ∧ imm ≠ 0 ∧ (wantF ⟨op, d, n, m, a, imm⟩).v = mV op d n m a imm) ∨ (op = 12 ∧ imm = 0 ∧ (wantF ⟨op, d, n, m, a, imm⟩).v = mV 13 d n m a imm) := by
  by_cases h1 : op = 12
  · by_cases h2 : imm = 0
    · subst h1 h2; exact .inr (.inr ⟨rfl, rfl, rfl⟩)
    · refine .inr (.inl ⟨h1, h2, ?_⟩)
      unfold wantF; rw [if_neg (by simp [h2])]; rfl
  · refine .inl ⟨h1, ?_⟩
    unfold wantF; rw [if_neg (by simp [h1])]; rfl
theorem wordR_range (i : MI) : 0 ≤ wordR i ∧ wordR i < 4294967296 := by
  cases h : rightB i
  · rw [wordR_wrong h]; omega
  · rw [wordR_right h]; exact ⟨(word_all h).1, (word_all h).2.1⟩
open Classical in
theorem back (G : Globs) (op d n m a imm op' d' n' m' a' imm' w : Int) (h0 : 0 ≤ w) (h1 : w < 4294967296) :
    alembiclaw22_IsaBack.f G 101 [mV op d n m a imm, mV op' d' n' m' a' imm', W32 w] [] = some (.bool true, []) := by
  have rf : ∀ H, pureCall (alembiclaw22_first.f G 100) [] H = _ := fun H => pureCall_of (H := H) (first_ok G 70) rfl rfl
  have r1 : ∀ H, pureCall (isa_Word.f G 100) [mV op d n m a imm] H = _ := fun H => pureCall_of (H := H) (word_spec G 95 ⟨op, d, n, m, a, imm⟩) rfl rfl
  have r2 : ∀ H, pureCall (isa_Word.f G 100) [mV op' d' n' m' a' imm'] H = _ := fun H => pureCall_of (H := H) (word_spec G 95 ⟨op', d', n', m', a', imm'⟩) rfl rfl
  have ww := want_ways op d n m a imm
  have ww' := want_ways op' d' n' m' a' imm'
  have wr := wordR_range ⟨op, d, n, m, a, imm⟩
  obtain ⟨z, hz⟩ : ∃ z : AV × Bool, ofV (ofF w) = .tup [z.1, .bool z.2] ∧ (z.2 = true → ∀ H, pureCall (isa_Word.f G 100) [z.1] H = some (.tup [W32 w, .bool true], H)) ∧ (∃ x : MI, z.1 = x.v) := by
    cases ho : ofF w with
    | none => exact ⟨(mV 0 0 0 0 0 0, false), rfl, (fun h => by cases h), ⟨⟨0, 0, 0, 0, 0, 0⟩, rfl⟩⟩
    | some x =>
      obtain ⟨q1, q2, q3⟩ := of_some ho
      refine ⟨(x.v, true), rfl, fun _ H => ?_, ⟨x, rfl⟩⟩
      have q4 := word_spec G 95 x
      rw [q1, wordR_right q1, q2] at q4
      exact pureCall_of (H := H) q4 rfl rfl
  obtain ⟨x, gx⟩ := z
  obtain ⟨hz1, hz2, ⟨o1, o2, o3, o4, o5, o6⟩, hx⟩ := hz
  simp only at hz1 hz2 hx
  subst hx
  have r0 : ∀ H, pureCall (isa_Of.f G 100) [W32 w] H = _ := fun H => pureCall_of (H := H) (Of_spec G 60 w h0 h1) rfl (by rw [hz1]; rfl)
  rw [hz1] at r0
  unfold MI.v at r0 hz2
  simp only at r0 hz2
  have r3 : ∀ (i : MI) H, rightB i = true → pureCall (isa_Of.f G 100) [W32 (wordR i)] H = some (.tup [(wantF i).v, .bool true], H) := fun i H hi => by
    have := Of_spec G 60 (wordR i) (wordR_range i).1 (wordR_range i).2
    rw [wordR_right hi, of_want hi] at this
    rw [wordR_right hi]
    exact pureCall_of (H := H) this rfl rfl
  have rs : ∀ (a b c d e f : Int) H, pureCall (alembicref_SameInstr.f G 100) [mV a b c d e f, mV a b c d e f] H = some (.bool true, H) := fun a b c d e f H => pureCall_of (H := H) (same_all G 99 a b c d e f a b c d e f true (by simp)) rfl rfl
  have e3 : ∀ x : Bool, bin Try.prog .eql 4 false (.bool x) (.bool x) = some (.bool true) := fun x => by rw [bin_eql_bool Try.underlying4]; simp
  have e1 : bin Try.prog .neq 24 false (W32 w) (W32 w) = some (.bool false) := q_neq_f rfl
  have same := fun (h : rightB ⟨op, d, n, m, a, imm⟩ = true) (h' : rightB ⟨op', d', n', m', a', imm'⟩ = true) => same_want h h'
  obtain ⟨p, hp⟩ : ∃ p : Bool, decide (wordR ⟨op, d, n, m, a, imm⟩ = wordR ⟨op', d', n', m', a', imm'⟩) = p := ⟨_, rfl⟩
  have c1 : bin Try.prog .eql 24 false (W32 (wordR ⟨op, d, n, m, a, imm⟩)) (W32 (wordR ⟨op', d', n', m', a', imm'⟩)) = some (.bool p) := by rw [bin_eql, hp]
  have c2 : rightB ⟨op, d, n, m, a, imm⟩ = true → rightB ⟨op', d', n', m', a', imm'⟩ = true → ∀ H, pureCall (alembicref_SameInstr.f G 100) [(wantF ⟨op, d, n, m, a, imm⟩).v, (wantF ⟨op', d', n', m', a', imm'⟩).v] H = some (.bool p, H) := fun h h' H => by
    have := same_spec G 99 (wantF ⟨op, d, n, m, a, imm⟩) (wantF ⟨op', d', n', m', a', imm'⟩)
    have e : decide (sameM (wantF ⟨op, d, n, m, a, imm⟩) (wantF ⟨op', d', n', m', a', imm'⟩)) = p := by
      rw [← hp]; exact decide_eq_decide.2 (same_want h h').symm
    rw [e] at this
    exact pureCall_of (H := H) this rfl rfl
  have c0 : rightB ⟨op, d, n, m, a, imm⟩ = false → wordR ⟨op, d, n, m, a, imm⟩ = 0 := wordR_wrong
  have r4 := r3 ⟨op, d, n, m, a, imm⟩
  clear r3 hp same
  generalize wordR ⟨op, d, n, m, a, imm⟩ = W at *
  generalize wordR ⟨op', d', n', m', a', imm'⟩ = W' at *
  generalize (wantF ⟨op, d, n, m, a, imm⟩).v = Y at *
  generalize (wantF ⟨op', d', n', m', a', imm'⟩).v = Y' at *
  generalize rightB ⟨op, d, n, m, a, imm⟩ = g at *
  generalize rightB ⟨op', d', n', m', a', imm'⟩ = g' at *
  rw [alembiclaw22_IsaBack.step]
  unfold alembiclaw22_IsaBack.c
  refine e_in ?_
  cases g
  · have hW : W = 0 := c0 rfl
    subst hW
    have q1 : bin Try.prog .eql 24 true (W32 0) (.int .u32 0) = some (.bool true) := q_eql_t rfl
    clear c2 r4 c0 ww ww'
    cases gx
    · clear hz2
      have fx := And.intro rf <| And.intro r0 <| And.intro r1 <| And.intro r2 <| q1
      refine wkA ?_
      exact w1b rfl
    · have hz2 := hz2 rfl
      have fx := And.intro rf <| And.intro r0 <| And.intro r1 <| And.intro r2 <| And.intro q1 <| And.intro hz2 <| e1
      refine wkA ?_
      exact w1b rfl
  · have r4 := fun H => r4 H rfl
    have c2 := c2 rfl
    clear c0
    rcases ww with ⟨u1, u2⟩ | ⟨u1, u3, u2⟩ | ⟨u1, u3, u2⟩
    · have ka : bin Try.prog .eql 3 true (I6 op) (.int .i64 12) = some (.bool false) := q_eql_f u1
      subst u2
      clear u1
      rcases ww' with ⟨v1, v2⟩ | ⟨v1, v3, v2⟩ | ⟨v1, v3, v2⟩
      · have kc : bin Try.prog .eql 3 true (I6 op') (.int .i64 12) = some (.bool false) := q_eql_f v1
        subst v2
        clear v1
        cases g' <;> cases gx
        · clear c2
          clear hz2
          have fx := And.intro rf <| And.intro r0 <| And.intro r1 <| And.intro r2 <| And.intro r4 <| And.intro rs <| And.intro ka <| And.intro kc <| And.intro c1 <| e3
          refine wkA ?_
          exact w1b rfl
        · clear c2
          have hz2 := hz2 rfl
          have fx := And.intro rf <| And.intro r0 <| And.intro r1 <| And.intro r2 <| And.intro r4 <| And.intro rs <| And.intro ka <| And.intro kc <| And.intro c1 <| And.intro e3 <| And.intro hz2 <| e1
          refine wkA ?_
          exact w1b rfl
        · have c2 := c2 rfl
          clear hz2
          have fx := And.intro rf <| And.intro r0 <| And.intro r1 <| And.intro r2 <| And.intro r4 <| And.intro rs <| And.intro ka <| And.intro kc <| And.intro c1 <| And.intro e3 <| c2
          refine wkA ?_
          exact w1b rfl
        · have c2 := c2 rfl
          have hz2 := hz2 rfl
          have fx := And.intro rf <| And.intro r0 <| And.intro r1 <| And.intro r2 <| And.intro r4 <| And.intro rs <| And.intro ka <| And.intro kc <| And.intro c1 <| And.intro e3 <| And.intro c2 <| And.intro hz2 <| e1
          refine wkA ?_
          exact w1b rfl
      · have kc : bin Try.prog .eql 3 true (I6 op') (.int .i64 12) = some (.bool true) := q_eql_t v1
        have kd : bin Try.prog .eql 3 true (I6 imm') (.int .i64 0) = some (.bool false) := q_eql_f v3
        subst v2
        clear v1 v3
        cases g' <;> cases gx
        · clear c2
          clear hz2
          have fx := And.intro rf <| And.intro r0 <| And.intro r1 <| And.intro r2 <| And.intro r4 <| And.intro rs <| And.intro ka <| And.intro kc <| And.intro kd <| And.intro c1 <| e3
          refine wkA ?_
          exact w1b rfl
        · clear c2
          have hz2 := hz2 rfl
          have fx := And.intro rf <| And.intro r0 <| And.intro r1 <| And.intro r2 <| And.intro r4 <| And.intro rs <| And.intro ka <| And.intro kc <| And.intro kd <| And.intro c1 <| And.intro e3 <| And.intro hz2 <| e1
          refine wkA ?_
          exact w1b rfl
        · have c2 := c2 rfl
          clear hz2
          have fx := And.intro rf <| And.intro r0 <| And.intro r1 <| And.intro r2 <| And.intro r4 <| And.intro rs <| And.intro ka <| And.intro kc <| And.intro kd <| And.intro c1 <| And.intro e3 <| c2
          refine wkA ?_
          exact w1b rfl
        · have c2 := c2 rfl
          have hz2 := hz2 rfl
          have fx := And.intro rf <| And.intro r0 <| And.intro r1 <| And.intro r2 <| And.intro r4 <| And.intro rs <| And.intro ka <| And.intro kc <| And.intro kd <| And.intro c1 <| And.intro e3 <| And.intro c2 <| And.intro hz2 <| e1
          refine wkA ?_
          exact w1b rfl
      · have kc : bin Try.prog .eql 3 true (I6 op') (.int .i64 12) = some (.bool true) := q_eql_t v1
        have kd : bin Try.prog .eql 3 true (I6 imm') (.int .i64 0) = some (.bool true) := q_eql_t v3
        subst v2
        clear v1 v3
        cases g' <;> cases gx
        · clear c2
          clear hz2
          have fx := And.intro rf <| And.intro r0 <| And.intro r1 <| And.intro r2 <| And.intro r4 <| And.intro rs <| And.intro ka <| And.intro kc <| And.intro kd <| And.intro c1 <| e3
          refine wkA ?_
          exact w1b rfl
        · clear c2
          have hz2 := hz2 rfl
          have fx := And.intro rf <| And.intro r0 <| And.intro r1 <| And.intro r2 <| And.intro r4 <| And.intro rs <| And.intro ka <| And.intro kc <| And.intro kd <| And.intro c1 <| And.intro e3 <| And.intro hz2 <| e1
          refine wkA ?_
          exact w1b rfl
        · have c2 := c2 rfl
          clear hz2
          have fx := And.intro rf <| And.intro r0 <| And.intro r1 <| And.intro r2 <| And.intro r4 <| And.intro rs <| And.intro ka <| And.intro kc <| And.intro kd <| And.intro c1 <| And.intro e3 <| c2
          refine wkA ?_
          exact w1b rfl
        · have c2 := c2 rfl
          have hz2 := hz2 rfl
          have fx := And.intro rf <| And.intro r0 <| And.intro r1 <| And.intro r2 <| And.intro r4 <| And.intro rs <| And.intro ka <| And.intro kc <| And.intro kd <| And.intro c1 <| And.intro e3 <| And.intro c2 <| And.intro hz2 <| e1
          refine wkA ?_
          exact w1b rfl
    · have ka : bin Try.prog .eql 3 true (I6 op) (.int .i64 12) = some (.bool true) := q_eql_t u1
      have kb : bin Try.prog .eql 3 true (I6 imm) (.int .i64 0) = some (.bool false) := q_eql_f u3
      subst u2
      clear u1 u3
      rcases ww' with ⟨v1, v2⟩ | ⟨v1, v3, v2⟩ | ⟨v1, v3, v2⟩
      · have kc : bin Try.prog .eql 3 true (I6 op') (.int .i64 12) = some (.bool false) := q_eql_f v1
        subst v2
        clear v1
        cases g' <;> cases gx
        · clear c2
          clear hz2
          have fx := And.intro rf <| And.intro r0 <| And.intro r1 <| And.intro r2 <| And.intro r4 <| And.intro rs <| And.intro ka <| And.intro kb <| And.intro kc <| And.intro c1 <| e3
          refine wkA ?_
          exact w1b rfl
        · clear c2
          have hz2 := hz2 rfl
          have fx := And.intro rf <| And.intro r0 <| And.intro r1 <| And.intro r2 <| And.intro r4 <| And.intro rs <| And.intro ka <| And.intro kb <| And.intro kc <| And.intro c1 <| And.intro e3 <| And.intro hz2 <| e1
          refine wkA ?_
          exact w1b rfl
        · have c2 := c2 rfl
          clear hz2
          have fx := And.intro rf <| And.intro r0 <| And.intro r1 <| And.intro r2 <| And.intro r4 <| And.intro rs <| And.intro ka <| And.intro kb <| And.intro kc <| And.intro c1 <| And.intro e3 <| c2
          refine wkA ?_
          exact w1b rfl
        · have c2 := c2 rfl
          have hz2 := hz2 rfl
          have fx := And.intro rf <| And.intro r0 <| And.intro r1 <| And.intro r2 <| And.intro r4 <| And.intro rs <| And.intro ka <| And.intro kb <| And.intro kc <| And.intro c1 <| And.intro e3 <| And.intro c2 <| And.intro hz2 <| e1
          refine wkA ?_
          exact w1b rfl
      · have kc : bin Try.prog .eql 3 true (I6 op') (.int .i64 12) = some (.bool true) := q_eql_t v1
        have kd : bin Try.prog .eql 3 true (I6 imm') (.int .i64 0) = some (.bool false) := q_eql_f v3
        subst v2
        clear v1 v3
        cases g' <;> cases gx
        · clear c2
          clear hz2
          have fx := And.intro rf <| And.intro r0 <| And.intro r1 <| And.intro r2 <| And.intro r4 <| And.intro rs <| And.intro ka <| And.intro kb <| And.intro kc <| And.intro kd <| And.intro c1 <| e3
          refine wkA ?_
          exact w1b rfl
        · clear c2
          have hz2 := hz2 rfl
          have fx := And.intro rf <| And.intro r0 <| And.intro r1 <| And.intro r2 <| And.intro r4 <| And.intro rs <| And.intro ka <| And.intro kb <| And.intro kc <| And.intro kd <| And.intro c1 <| And.intro e3 <| And.intro hz2 <| e1
          refine wkA ?_
          exact w1b rfl
        · have c2 := c2 rfl
          clear hz2
          have fx := And.intro rf <| And.intro r0 <| And.intro r1 <| And.intro r2 <| And.intro r4 <| And.intro rs <| And.intro ka <| And.intro kb <| And.intro kc <| And.intro kd <| And.intro c1 <| And.intro e3 <| c2
          refine wkA ?_
          exact w1b rfl
        · have c2 := c2 rfl
          have hz2 := hz2 rfl
          have fx := And.intro rf <| And.intro r0 <| And.intro r1 <| And.intro r2 <| And.intro r4 <| And.intro rs <| And.intro ka <| And.intro kb <| And.intro kc <| And.intro kd <| And.intro c1 <| And.intro e3 <| And.intro c2 <| And.intro hz2 <| e1
          refine wkA ?_
          exact w1b rfl
      · have kc : bin Try.prog .eql 3 true (I6 op') (.int .i64 12) = some (.bool true) := q_eql_t v1
        have kd : bin Try.prog .eql 3 true (I6 imm') (.int .i64 0) = some (.bool true) := q_eql_t v3
        subst v2
        clear v1 v3
        cases g' <;> cases gx
        · clear c2
          clear hz2
          have fx := And.intro rf <| And.intro r0 <| And.intro r1 <| And.intro r2 <| And.intro r4 <| And.intro rs <| And.intro ka <| And.intro kb <| And.intro kc <| And.intro kd <| And.intro c1 <| e3
          refine wkA ?_
          exact w1b rfl
        · clear c2
          have hz2 := hz2 rfl
          have fx := And.intro rf <| And.intro r0 <| And.intro r1 <| And.intro r2 <| And.intro r4 <| And.intro rs <| And.intro ka <| And.intro kb <| And.intro kc <| And.intro kd <| And.intro c1 <| And.intro e3 <| And.intro hz2 <| e1
          refine wkA ?_
          exact w1b rfl
        · have c2 := c2 rfl
          clear hz2
          have fx := And.intro rf <| And.intro r0 <| And.intro r1 <| And.intro r2 <| And.intro r4 <| And.intro rs <| And.intro ka <| And.intro kb <| And.intro kc <| And.intro kd <| And.intro c1 <| And.intro e3 <| c2
          refine wkA ?_
          exact w1b rfl
        · have c2 := c2 rfl
          have hz2 := hz2 rfl
          have fx := And.intro rf <| And.intro r0 <| And.intro r1 <| And.intro r2 <| And.intro r4 <| And.intro rs <| And.intro ka <| And.intro kb <| And.intro kc <| And.intro kd <| And.intro c1 <| And.intro e3 <| And.intro c2 <| And.intro hz2 <| e1
          refine wkA ?_
          exact w1b rfl
    · have ka : bin Try.prog .eql 3 true (I6 op) (.int .i64 12) = some (.bool true) := q_eql_t u1
      have kb : bin Try.prog .eql 3 true (I6 imm) (.int .i64 0) = some (.bool true) := q_eql_t u3
      subst u2
      clear u1 u3
      rcases ww' with ⟨v1, v2⟩ | ⟨v1, v3, v2⟩ | ⟨v1, v3, v2⟩
      · have kc : bin Try.prog .eql 3 true (I6 op') (.int .i64 12) = some (.bool false) := q_eql_f v1
        subst v2
        clear v1
        cases g' <;> cases gx
        · clear c2
          clear hz2
          have fx := And.intro rf <| And.intro r0 <| And.intro r1 <| And.intro r2 <| And.intro r4 <| And.intro rs <| And.intro ka <| And.intro kb <| And.intro kc <| And.intro c1 <| e3
          refine wkA ?_
          exact w1b rfl
        · clear c2
          have hz2 := hz2 rfl
          have fx := And.intro rf <| And.intro r0 <| And.intro r1 <| And.intro r2 <| And.intro r4 <| And.intro rs <| And.intro ka <| And.intro kb <| And.intro kc <| And.intro c1 <| And.intro e3 <| And.intro hz2 <| e1
          refine wkA ?_
          exact w1b rfl
        · have c2 := c2 rfl
          clear hz2
          have fx := And.intro rf <| And.intro r0 <| And.intro r1 <| And.intro r2 <| And.intro r4 <| And.intro rs <| And.intro ka <| And.intro kb <| And.intro kc <| And.intro c1 <| And.intro e3 <| c2
          refine wkA ?_
          exact w1b rfl
        · have c2 := c2 rfl
          have hz2 := hz2 rfl
          have fx := And.intro rf <| And.intro r0 <| And.intro r1 <| And.intro r2 <| And.intro r4 <| And.intro rs <| And.intro ka <| And.intro kb <| And.intro kc <| And.intro c1 <| And.intro e3 <| And.intro c2 <| And.intro hz2 <| e1
          refine wkA ?_
          exact w1b rfl
      · have kc : bin Try.prog .eql 3 true (I6 op') (.int .i64 12) = some (.bool true) := q_eql_t v1
        have kd : bin Try.prog .eql 3 true (I6 imm') (.int .i64 0) = some (.bool false) := q_eql_f v3
        subst v2
        clear v1 v3
        cases g' <;> cases gx
        · clear c2
          clear hz2
          have fx := And.intro rf <| And.intro r0 <| And.intro r1 <| And.intro r2 <| And.intro r4 <| And.intro rs <| And.intro ka <| And.intro kb <| And.intro kc <| And.intro kd <| And.intro c1 <| e3
          refine wkA ?_
          exact w1b rfl
        · clear c2
          have hz2 := hz2 rfl
          have fx := And.intro rf <| And.intro r0 <| And.intro r1 <| And.intro r2 <| And.intro r4 <| And.intro rs <| And.intro ka <| And.intro kb <| And.intro kc <| And.intro kd <| And.intro c1 <| And.intro e3 <| And.intro hz2 <| e1
          refine wkA ?_
          exact w1b rfl
        · have c2 := c2 rfl
          clear hz2
          have fx := And.intro rf <| And.intro r0 <| And.intro r1 <| And.intro r2 <| And.intro r4 <| And.intro rs <| And.intro ka <| And.intro kb <| And.intro kc <| And.intro kd <| And.intro c1 <| And.intro e3 <| c2
          refine wkA ?_
          exact w1b rfl
        · have c2 := c2 rfl
          have hz2 := hz2 rfl
          have fx := And.intro rf <| And.intro r0 <| And.intro r1 <| And.intro r2 <| And.intro r4 <| And.intro rs <| And.intro ka <| And.intro kb <| And.intro kc <| And.intro kd <| And.intro c1 <| And.intro e3 <| And.intro c2 <| And.intro hz2 <| e1
          refine wkA ?_
          exact w1b rfl
      · have kc : bin Try.prog .eql 3 true (I6 op') (.int .i64 12) = some (.bool true) := q_eql_t v1
        have kd : bin Try.prog .eql 3 true (I6 imm') (.int .i64 0) = some (.bool true) := q_eql_t v3
        subst v2
        clear v1 v3
        cases g' <;> cases gx
        · clear c2
          clear hz2
          have fx := And.intro rf <| And.intro r0 <| And.intro r1 <| And.intro r2 <| And.intro r4 <| And.intro rs <| And.intro ka <| And.intro kb <| And.intro kc <| And.intro kd <| And.intro c1 <| e3
          refine wkA ?_
          exact w1b rfl
        · clear c2
          have hz2 := hz2 rfl
          have fx := And.intro rf <| And.intro r0 <| And.intro r1 <| And.intro r2 <| And.intro r4 <| And.intro rs <| And.intro ka <| And.intro kb <| And.intro kc <| And.intro kd <| And.intro c1 <| And.intro e3 <| And.intro hz2 <| e1
          refine wkA ?_
          exact w1b rfl
        · have c2 := c2 rfl
          clear hz2
          have fx := And.intro rf <| And.intro r0 <| And.intro r1 <| And.intro r2 <| And.intro r4 <| And.intro rs <| And.intro ka <| And.intro kb <| And.intro kc <| And.intro kd <| And.intro c1 <| And.intro e3 <| c2
          refine wkA ?_
          exact w1b rfl
        · have c2 := c2 rfl
          have hz2 := hz2 rfl
          have fx := And.intro rf <| And.intro r0 <| And.intro r1 <| And.intro r2 <| And.intro r4 <| And.intro rs <| And.intro ka <| And.intro kb <| And.intro kc <| And.intro kd <| And.intro c1 <| And.intro e3 <| And.intro c2 <| And.intro hz2 <| e1
          refine wkA ?_
          exact w1b rfl
theorem LIsaBack.law (xs : List AV) (h : IsTs Try.prog [23, 23, 24] xs) : ∃ k, alembiclaw22_IsaBack.f (sentG 0 []) k xs [] = some (.bool true, []) := by
  obtain ⟨x1, xs, rfl, hx1, h⟩ := h.uncons
  obtain ⟨x2, xs, rfl, hx2, h⟩ := h.uncons
  obtain ⟨x3, xs, rfl, hx3, h⟩ := h.uncons
  cases h.unnil
  obtain ⟨i, rfl⟩ := of_instr hx1
  obtain ⟨j, rfl⟩ := of_instr hx2
  obtain ⟨w, rfl, hw⟩ := hx3.of_int (k := .u32) Try.underlying24
  have hw := wf_u32 hw
  obtain ⟨op, d, n, m, a, imm⟩ := i
  obtain ⟨op', d', n', m', a', imm'⟩ := j
  exact ⟨101, back _ op d n m a imm op' d' n' m' a' imm' w hw.1 hw.2⟩
end Go.Proofs.Ytbamoecablpfjaa
namespace Go.Proofs.Ytbamoecablpfjaa
open Go Go.ChangeShapes Go.WideShapes Go.RowKit Mir
set_option linter.unusedVariables false
set_option linter.unusedSimpArgs false
namespace RIsaBack
theorem plainTs : ∀ t ∈ ([23, 3, 24] : List Nat), plainT Try.prog [23, 3, 24] t = true := List.all_eq_true.1 (by kernel_rfl)
set_option maxRecDepth 100000 in
theorem lifted (os : Os) (started : os.Started) (H : Type) (enc : TypeId × Value → H) :
    ReturnsInHanded {} Try.checked os 3 .any (Rows.isaBackSpec.pre6 enc Try.prog Try.f3 Rows.isaBackRow.domain false) (Rows.isaBackSpec.post enc Try.prog Try.f3 false true false false) := by
  refine returnsInHanded_of_change_sized (C := Try.checked) Rk.own started (by kernel_rfl) Try.func3
    (ChangeSpec.witness6 (enc := enc) (C := Try.checked) false ⟨#[], #[.agg #[.int .i64 0, .int .i64 0, .int .i64 0, .int .i64 0, .int .i64 0, .int .i64 0], .agg #[.int .i64 0, .int .i64 0, .int .i64 0, .int .i64 0, .int .i64 0, .int .i64 0], .int .u32 0], []⟩ 8 (by kernel_rfl) (by kernel_rfl) (by kernel_rfl) (by kernel_rfl)) ?_
  intro W base args ds gs before hval0 hW _ _ _
  have hS := sentS_nil W 0
  have hval : ∀ (j : Nat) t v, Try.f3.params.toList[j]? = some t → args.toList[j]? = some v → Value.okWide Try.prog W .any base t v := fun j t v h1 h2 => hval0 j t v (by simpa using h1) (by simpa using h2)
  have hW' := hW
  obtain ⟨p, q, hA, _, _, _, _⟩ := hW
  have hpar : Try.f3.params.toList = [23, 23, 24] := by rw [Try.params3]
  rw [hpar] at hval
  replace hA : DataW.TrodAll enc Try.prog W 0 (fun _ => true) true Try.f3.params.toList args.toList ds p := hA
  rw [hpar] at hA
  obtain ⟨xs, h1, h2⟩ := read_args plainTs (by decide) hval hA
  obtain ⟨k, hk⟩ := LIsaBack.law xs h1
  have hc := calls_top (Mir.alembiclaw22_IsaBack.sound (sentG_plain _ _) k) hk (good_top hS) h2
  rw [Array.toArray_toList] at hc
  refine hc.mono fun e W' ⟨he, hb⟩ => ⟨_, he, ?_⟩
  exact post_top rfl hpar (by kernel_rfl) Try.underlying4 (fun ds hd => by
    obtain ⟨d0, d1, d2, rfl⟩ : ∃ d0 d1 d2, ds = [d0, d1, d2] := by
      match ds, hd with
      | [d0, d1, d2], _ => exact ⟨d0, d1, d2, rfl⟩
    rfl) Rk.laidOut (by kernel_rfl) hW' hb
theorem holds : Rows.IsaBackSaid :=
  OpenClaim.holds_of_wide 3 Try.f3 rfl rfl rfl rfl rfl rfl rfl ⟨rfl, rfl, rfl, rfl, rfl⟩ rfl rfl rfl rfl rfl (by kernel_rfl) Try.func3 (by kernel_rfl)
    (of_decide_eq_true (by kernel_rfl)) (by unfold Func.isWrapper; first | (rw [if_pos (by decide +kernel)]; kernel_rfl) | (rw [if_neg (by decide +kernel)]; exact ⟨rfl, rfl⟩))
    (fun os started H enc _ => lifted os started H enc)
end RIsaBack
end Go.Proofs.Ytbamoecablpfjaa
