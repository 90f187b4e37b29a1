/- isa: which instructions may be. Printed in part by isa.py. -/
import Derived.Test.YtdfglgnflldkpaaDoorMCon
import Derived.Test.YtdfglgnflldkpaaDoorMirZB
namespace Go.Proofs.YtdfglgnflldkpaaDoor.Mir
open Go
set_option linter.unusedVariables false
set_option linter.unusedSimpArgs false
set_option maxHeartbeats 8000000
set_option maxRecDepth 20000

abbrev I6 (n : Int) : AV := .int .i64 n
abbrev Nn (n : Nat) : AV := .int .i64 (n : Int)
abbrev Un (n : Nat) : AV := .int .u64 (n : Int)
abbrev W32 (n : Int) : AV := .int .u32 n

/-- An instruction. -/
structure MI where
  op : Int
  d : Int
  n : Int
  m : Int
  a : Int
  imm : Int
abbrev mV (op d n m a imm : Int) : AV := .agg [I6 op, I6 d, I6 n, I6 m, I6 a, I6 imm]
def MI.v (i : MI) : AV := mV i.op i.d i.n i.m i.a i.imm

structure Form where
  nm : ByteArray
  w : Int
  d : Bool
  n : Bool
  m : Bool
  a : Bool
  b : Int
def Form.v (f : Form) : AV := .agg [.str f.nm, W32 f.w, .bool f.d, .bool f.n, .bool f.m, .bool f.a, I6 f.b]
def formF (op : Int) : Form :=
  if op = 1 then ⟨⟨#[109, 111, 118, 122]⟩, 3531603968, true, false, false, true, 16⟩ else
  if op = 2 then ⟨⟨#[109, 111, 118, 107]⟩, 4068474880, true, false, false, true, 16⟩ else
  if op = 3 then ⟨⟨#[97, 100, 100]⟩, 2332033024, true, true, true, false, 0⟩ else
  if op = 4 then ⟨⟨#[115, 117, 98]⟩, 3405774848, true, true, true, false, 0⟩ else
  if op = 5 then ⟨⟨#[97, 110, 100]⟩, 2315255808, true, true, true, false, 0⟩ else
  if op = 6 then ⟨⟨#[111, 114, 114]⟩, 2852126720, true, true, true, false, 0⟩ else
  if op = 7 then ⟨⟨#[101, 111, 114]⟩, 3388997632, true, true, true, false, 0⟩ else
  if op = 8 then ⟨⟨#[109, 97, 100, 100]⟩, 2600468480, true, true, true, true, 0⟩ else
  if op = 9 then ⟨⟨#[117, 109, 117, 108, 104]⟩, 2613083136, true, true, true, false, 0⟩ else
  if op = 10 then ⟨⟨#[97, 100, 100, 105]⟩, 2432696320, true, true, false, false, 12⟩ else
  if op = 11 then ⟨⟨#[115, 117, 98, 105]⟩, 3506438144, true, true, false, false, 12⟩ else
  if op = 12 then ⟨⟨#[108, 115, 108]⟩, 3544186880, true, true, false, false, 6⟩ else
  if op = 13 then ⟨⟨#[108, 115, 114]⟩, 3544186880, true, true, false, false, 6⟩ else
  if op = 14 then ⟨⟨#[97, 115, 114]⟩, 2470509568, true, true, false, false, 6⟩ else
  if op = 15 then ⟨⟨#[99, 109, 112]⟩, 3942645791, false, true, true, false, 0⟩ else
  if op = 16 then ⟨⟨#[99, 115, 101, 108]⟩, 2592079872, true, true, true, true, 0⟩ else
  if op = 17 then ⟨⟨#[99, 115, 101, 116]⟩, 2594113504, true, false, false, true, 0⟩ else
  if op = 18 then ⟨⟨#[108, 100, 114]⟩, 4181721088, true, true, false, false, 12⟩ else
  if op = 19 then ⟨⟨#[115, 116, 114]⟩, 4177526784, true, true, false, false, 12⟩ else
  if op = 20 then ⟨⟨#[98]⟩, 335544320, false, false, false, false, 26⟩ else
  if op = 21 then ⟨⟨#[98, 99, 99]⟩, 1409286144, false, false, false, true, 19⟩ else
  if op = 22 then ⟨⟨#[99, 98, 122]⟩, 3019898880, true, false, false, false, 19⟩ else
  if op = 23 then ⟨⟨#[99, 98, 110, 122]⟩, 3036676096, true, false, false, false, 19⟩ else
  if op = 24 then ⟨⟨#[104, 108, 116]⟩, 3560964096, false, false, false, false, 16⟩ else
  ⟨⟨#[]⟩, 0, false, false, false, false, 0⟩
def isOp (op : Int) : Bool := decide (1 ≤ op ∧ op ≤ 24)

theorem op24 {op : Int} (h : 1 ≤ op ∧ op ≤ 24) : op = 1 ∨ op = 2 ∨ op = 3 ∨ op = 4 ∨ op = 5 ∨ op = 6 ∨ op = 7 ∨ op = 8 ∨ op = 9 ∨ op = 10 ∨ op = 11 ∨ op = 12 ∨ op = 13 ∨ op = 14 ∨ op = 15 ∨ op = 16 ∨ op = 17 ∨ op = 18 ∨ op = 19 ∨ op = 20 ∨ op = 21 ∨ op = 22 ∨ op = 23 ∨ op = 24 := by omega
theorem formF_none {op : Int} (h : ¬ (1 ≤ op ∧ op ≤ 24)) : formF op = ⟨⟨#[]⟩, 0, false, false, false, false, 0⟩ := by
  unfold formF
  simp (disch := omega) only [if_neg]
theorem form_bits (op : Int) : (formF op).b = 0 ∨ (formF op).b = 6 ∨ (formF op).b = 12 ∨ (formF op).b = 16 ∨ (formF op).b = 19 ∨ (formF op).b = 26 := by
  by_cases h : 1 ≤ op ∧ op ≤ 24
  · rcases op24 h with rfl | rfl | rfl | rfl | rfl | rfl | rfl | rfl | rfl | rfl | rfl | rfl | rfl | rfl | rfl | rfl | rfl | rfl | rfl | rfl | rfl | rfl | rfl | rfl <;> simp [formF]
  · rw [formF_none h]; simp

theorem of_none (G : Globs) (k : Nat) (op : Int) (h : ¬ (1 ≤ op ∧ op ≤ 24)) : isa_of.f G (k + 4) [I6 op] [] = some (.tup [.agg [.str ⟨#[]⟩, W32 0, .bool false, .bool false, .bool false, .bool false, I6 0], .bool false], []) := by
  have pl : isa_plain.f G (k + 3) [I6 op] [] = some (.tup [.agg [.str ⟨#[]⟩, W32 0, .bool false, .bool false, .bool false, .bool false, I6 0], .bool false], []) := by
    rw [isa_plain.step]
    unfold isa_plain.c
    refine e_in ?_
    repeat' first
      | (with_reducible first | refine eT ?_ | refine eN ?_ | refine eS ?_ | refine eXn ?_ | refine eXr ?_ | refine eX ?_ | refine eI ?_ | refine eK ?_ | refine eV0 ?_ | refine eGr0 ?_ | refine eGtt ?_ | refine eGff ?_ | refine eGtf ?_ | refine eGft ?_ | refine eGno ?_)
      | ((with_reducible apply eCn); (simp only [nth_zero, nth_succ]; first | done | (with_reducible exact rfl)))
      | ((with_reducible apply eJ); (rfl))
      | ((with_reducible apply eGr1); (first | rfl | (simp only [nth_zero, nth_succ]; rfl)))
      | ((with_reducible apply eB); (first | (with_reducible exact rfl) | (simp (disch := omega) only [qa, putC, AV.cells, storable, buildSt, fillA, buildRo, buildOwn, fillE, Nat.reduceLeDiff, Nat.reduceLT, Nat.reduceAdd, ↓reduceIte]; first | done | (with_reducible exact rfl) | (with_reducible exact ⟨rfl, rfl⟩))))
      | ((with_reducible apply eR); (simp only [nth_zero, nth_succ]; (with_reducible exact rfl)))
      | ((with_reducible first | refine sEql ?_ ?_ | refine sNeq ?_ ?_ | refine sLss ?_ ?_ | refine sLeq ?_ ?_ | refine sGtr ?_ ?_ | refine sGeq ?_ ?_ | refine sNot ?_ ?_ | refine sPick ?_ ?_ | refine sGd ?_ ?_ | refine eBool ?_ ?_) <;> intro hq <;> try subst hq)
    all_goals first | omega | (refine oF ?_; rfl)
  rw [isa_of.step]
  unfold isa_of.c
  have r : ∀ H, pureCall (isa_plain.f G (k + 3)) [I6 op] H = _ := fun H => pureCall_of (H := H) pl rfl rfl
  refine e_in ?_
  repeat' first
    | (with_reducible first | refine eT ?_ | refine eN ?_ | refine eS ?_ | refine eXn ?_ | refine eXr ?_ | refine eX ?_ | refine eI ?_ | refine eK ?_ | refine eV0 ?_ | refine eGr0 ?_ | refine eGtt ?_ | refine eGff ?_ | refine eGtf ?_ | refine eGft ?_ | refine eGno ?_)
    | ((with_reducible apply eCn); (simp only [nth_zero, nth_succ]; first | done | (with_reducible exact rfl)))
    | ((with_reducible apply eJ); (rfl))
    | ((with_reducible apply eGr1); (first | rfl | (simp only [nth_zero, nth_succ]; rfl)))
    | ((with_reducible apply eB); (first | (with_reducible exact rfl) | (simp (disch := omega) only [qf, r]; first | done | (with_reducible exact rfl) | (with_reducible exact ⟨rfl, rfl⟩)) | (simp (disch := omega) only [qa, putC, AV.cells, storable, buildSt, fillA, buildRo, buildOwn, fillE, Nat.reduceLeDiff, Nat.reduceLT, Nat.reduceAdd, ↓reduceIte, r]; first | done | (with_reducible exact rfl) | (with_reducible exact ⟨rfl, rfl⟩))))
    | ((with_reducible apply eR); (simp only [nth_zero, nth_succ]; (with_reducible exact rfl)))
    | ((with_reducible first | refine sEql ?_ ?_ | refine sNeq ?_ ?_ | refine sLss ?_ ?_ | refine sLeq ?_ ?_ | refine sGtr ?_ ?_ | refine sGeq ?_ ?_ | refine sNot ?_ ?_ | refine sPick ?_ ?_ | refine sGd ?_ ?_ | refine eBool ?_ ?_) <;> intro hq <;> try subst hq)
  all_goals first | omega | (refine oF ?_; rfl)
theorem of_spec (G : Globs) (k : Nat) (op : Int) : isa_of.f G (k + 4) [I6 op] [] = some (.tup [(formF op).v, .bool (isOp op)], []) := by
  by_cases h : 1 ≤ op ∧ op ≤ 24
  · rcases op24 h with rfl | rfl | rfl | rfl | rfl | rfl | rfl | rfl | rfl | rfl | rfl | rfl | rfl | rfl | rfl | rfl | rfl | rfl | rfl | rfl | rfl | rfl | rfl | rfl <;> (clear h; show _ = _; kernel_rfl)
  · have e : isOp op = false := decide_eq_false h
    rw [formF_none h, e]
    exact of_none G k op h

def regB (r : Int) (is : Bool) : Bool := decide (r = 0 ∨ (is = true ∧ 0 < r ∧ r ≤ 31))
theorem register_spec (G : Globs) (k : Nat) (r : Int) (is : Bool) : isa_register.f G (k + 1) [I6 r, .bool is] [] = some (.bool (regB r is), []) := by
  rw [isa_register.step]
  unfold isa_register.c regB
  refine e_in ?_
  cases is
  all_goals (
    repeat' first
      | (with_reducible first | refine eT ?_ | refine eN ?_ | refine eS ?_ | refine eXn ?_ | refine eXr ?_ | refine eX ?_ | refine eI ?_ | refine eK ?_ | refine eV0 ?_ | refine eGr0 ?_ | refine eGtt ?_ | refine eGff ?_ | refine eGtf ?_ | refine eGft ?_ | refine eGno ?_)
      | ((with_reducible apply eCn); (simp only [nth_zero, nth_succ]; first | done | (with_reducible exact rfl)))
      | ((with_reducible apply eJ); (rfl))
      | ((with_reducible apply eGr1); (first | rfl | (simp only [nth_zero, nth_succ]; rfl)))
      | ((with_reducible apply eB); (first | (with_reducible exact rfl) | (simp (disch := omega) only [qa, putC, AV.cells, storable, buildSt, fillA, buildRo, buildOwn, fillE, Nat.reduceLeDiff, Nat.reduceLT, Nat.reduceAdd, ↓reduceIte]; first | done | (with_reducible exact rfl) | (with_reducible exact ⟨rfl, rfl⟩))))
      | ((with_reducible apply eR); (simp only [nth_zero, nth_succ]; (with_reducible exact rfl)))
      | ((with_reducible first | refine sEql ?_ ?_ | refine sNeq ?_ ?_ | refine sLss ?_ ?_ | refine sLeq ?_ ?_ | refine sGtr ?_ ?_ | refine sGeq ?_ ?_ | refine sNot ?_ ?_ | refine sPick ?_ ?_ | refine sGd ?_ ?_ | refine eBool ?_ ?_) <;> intro hq <;> try subst hq)
    all_goals (refine w1b ?_; simp; try omega))

def extraB (op a : Int) : Bool :=
  if op = 1 ∨ op = 2 then decide (0 ≤ a ∧ a ≤ 3)
  else if op = 16 ∨ op = 17 ∨ op = 21 then decide ((0 ≤ a ∧ a ≤ 3) ∨ a = 8 ∨ a = 9)
  else decide (0 ≤ a ∧ a ≤ 31)
theorem extra_spec (G : Globs) (k : Nat) (op d n m a imm : Int) : isa_extra.f G (k + 1) [mV op d n m a imm] [] = some (.bool (extraB op a), []) := by
  rw [isa_extra.step]
  unfold isa_extra.c extraB
  refine e_in ?_
  by_cases h1 : op = 1 ∨ op = 2
  · rw [if_pos h1]
    repeat' first
      | (with_reducible first | refine eT ?_ | refine eN ?_ | refine eS ?_ | refine eXn ?_ | refine eXr ?_ | refine eX ?_ | refine eI ?_ | refine eK ?_ | refine eV0 ?_ | refine eGr0 ?_ | refine eGtt ?_ | refine eGff ?_ | refine eGtf ?_ | refine eGft ?_ | refine eGno ?_)
      | ((with_reducible apply eCn); (simp only [nth_zero, nth_succ]; first | done | (with_reducible exact rfl)))
      | ((with_reducible apply eJ); (rfl))
      | ((with_reducible apply eGr1); (first | rfl | (simp only [nth_zero, nth_succ]; rfl)))
      | ((with_reducible apply eB); (first | (with_reducible exact rfl) | (simp (disch := omega) only [qa, putC, AV.cells, storable, buildSt, fillA, buildRo, buildOwn, fillE, Nat.reduceLeDiff, Nat.reduceLT, Nat.reduceAdd, ↓reduceIte]; first | done | (with_reducible exact rfl) | (with_reducible exact ⟨rfl, rfl⟩))))
      | ((with_reducible apply eR); (simp only [nth_zero, nth_succ]; (with_reducible exact rfl)))
      | ((with_reducible first | refine sEql ?_ ?_ | refine sNeq ?_ ?_ | refine sLss ?_ ?_ | refine sLeq ?_ ?_ | refine sGtr ?_ ?_ | refine sGeq ?_ ?_ | refine sNot ?_ ?_ | refine sPick ?_ ?_ | refine sGd ?_ ?_ | refine eBool ?_ ?_) <;> intro hq <;> try subst hq)
    all_goals first | omega | (refine w1b ?_; first | exact (decide_eq_true (by omega)).symm | exact (decide_eq_false (by omega)).symm)
  rw [if_neg h1]
  by_cases h2 : op = 16 ∨ op = 17 ∨ op = 21
  · rw [if_pos h2]
    repeat' first
      | (with_reducible first | refine eT ?_ | refine eN ?_ | refine eS ?_ | refine eXn ?_ | refine eXr ?_ | refine eX ?_ | refine eI ?_ | refine eK ?_ | refine eV0 ?_ | refine eGr0 ?_ | refine eGtt ?_ | refine eGff ?_ | refine eGtf ?_ | refine eGft ?_ | refine eGno ?_)
      | ((with_reducible apply eCn); (simp only [nth_zero, nth_succ]; first | done | (with_reducible exact rfl)))
      | ((with_reducible apply eJ); (rfl))
      | ((with_reducible apply eGr1); (first | rfl | (simp only [nth_zero, nth_succ]; rfl)))
      | ((with_reducible apply eB); (first | (with_reducible exact rfl) | (simp (disch := omega) only [qa, putC, AV.cells, storable, buildSt, fillA, buildRo, buildOwn, fillE, Nat.reduceLeDiff, Nat.reduceLT, Nat.reduceAdd, ↓reduceIte]; first | done | (with_reducible exact rfl) | (with_reducible exact ⟨rfl, rfl⟩))))
      | ((with_reducible apply eR); (simp only [nth_zero, nth_succ]; (with_reducible exact rfl)))
      | ((with_reducible first | refine sEql ?_ ?_ | refine sNeq ?_ ?_ | refine sLss ?_ ?_ | refine sLeq ?_ ?_ | refine sGtr ?_ ?_ | refine sGeq ?_ ?_ | refine sNot ?_ ?_ | refine sPick ?_ ?_ | refine sGd ?_ ?_ | refine eBool ?_ ?_) <;> intro hq <;> try subst hq)
    all_goals first | omega | (refine w1b ?_; first | exact (decide_eq_true (by omega)).symm | exact (decide_eq_false (by omega)).symm)
  rw [if_neg h2]
  repeat' first
    | (with_reducible first | refine eT ?_ | refine eN ?_ | refine eS ?_ | refine eXn ?_ | refine eXr ?_ | refine eX ?_ | refine eI ?_ | refine eK ?_ | refine eV0 ?_ | refine eGr0 ?_ | refine eGtt ?_ | refine eGff ?_ | refine eGtf ?_ | refine eGft ?_ | refine eGno ?_)
    | ((with_reducible apply eCn); (simp only [nth_zero, nth_succ]; first | done | (with_reducible exact rfl)))
    | ((with_reducible apply eJ); (rfl))
    | ((with_reducible apply eGr1); (first | rfl | (simp only [nth_zero, nth_succ]; rfl)))
    | ((with_reducible apply eB); (first | (with_reducible exact rfl) | (simp (disch := omega) only [qa, putC, AV.cells, storable, buildSt, fillA, buildRo, buildOwn, fillE, Nat.reduceLeDiff, Nat.reduceLT, Nat.reduceAdd, ↓reduceIte]; first | done | (with_reducible exact rfl) | (with_reducible exact ⟨rfl, rfl⟩))))
    | ((with_reducible apply eR); (simp only [nth_zero, nth_succ]; (with_reducible exact rfl)))
    | ((with_reducible first | refine sEql ?_ ?_ | refine sNeq ?_ ?_ | refine sLss ?_ ?_ | refine sLeq ?_ ?_ | refine sGtr ?_ ?_ | refine sGeq ?_ ?_ | refine sNot ?_ ?_ | refine sPick ?_ ?_ | refine sGd ?_ ?_ | refine eBool ?_ ?_) <;> intro hq <;> try subst hq)
  all_goals first | omega | (refine w1b ?_; first | exact (decide_eq_true (by omega)).symm | exact (decide_eq_false (by omega)).symm)

def stackB (op d n : Int) : Bool := decide (((op = 10 ∨ op = 11) ∧ (d = 31 ∨ n = 31)) ∨ ((op = 18 ∨ op = 19) ∧ n = 31))
theorem stack_spec (G : Globs) (k : Nat) (op d n m a imm : Int) : isa_stack.f G (k + 1) [mV op d n m a imm] [] = some (.bool (stackB op d n), []) := by
  rw [isa_stack.step]
  unfold isa_stack.c stackB
  refine e_in ?_
  repeat' first
    | (with_reducible first | refine eT ?_ | refine eN ?_ | refine eS ?_ | refine eXn ?_ | refine eXr ?_ | refine eX ?_ | refine eI ?_ | refine eK ?_ | refine eV0 ?_ | refine eGr0 ?_ | refine eGtt ?_ | refine eGff ?_ | refine eGtf ?_ | refine eGft ?_ | refine eGno ?_)
    | ((with_reducible apply eCn); (simp only [nth_zero, nth_succ]; first | done | (with_reducible exact rfl)))
    | ((with_reducible apply eJ); (rfl))
    | ((with_reducible apply eGr1); (first | rfl | (simp only [nth_zero, nth_succ]; rfl)))
    | ((with_reducible apply eB); (first | (with_reducible exact rfl) | (simp (disch := omega) only [qa, putC, AV.cells, storable, buildSt, fillA, buildRo, buildOwn, fillE, Nat.reduceLeDiff, Nat.reduceLT, Nat.reduceAdd, ↓reduceIte]; first | done | (with_reducible exact rfl) | (with_reducible exact ⟨rfl, rfl⟩))))
    | ((with_reducible apply eR); (simp only [nth_zero, nth_succ]; (with_reducible exact rfl)))
    | ((with_reducible first | refine sEql ?_ ?_ | refine sNeq ?_ ?_ | refine sLss ?_ ?_ | refine sLeq ?_ ?_ | refine sGtr ?_ ?_ | refine sGeq ?_ ?_ | refine sNot ?_ ?_ | refine sPick ?_ ?_ | refine sGd ?_ ?_ | refine eBool ?_ ?_) <;> intro hq <;> try subst hq)
  all_goals first | omega | (refine w1b ?_; first | exact (decide_eq_true (by omega)).symm | exact (decide_eq_false (by omega)).symm)

theorem signed_spec (G : Globs) (k : Nat) (op : Int) : isa_signed.f G (k + 1) [I6 op] [] = some (.bool (decide (20 ≤ op ∧ op ≤ 23)), []) := by
  rw [isa_signed.step]
  unfold isa_signed.c
  refine e_in ?_
  repeat' first
    | (with_reducible first | refine eT ?_ | refine eN ?_ | refine eS ?_ | refine eXn ?_ | refine eXr ?_ | refine eX ?_ | refine eI ?_ | refine eK ?_ | refine eV0 ?_ | refine eGr0 ?_ | refine eGtt ?_ | refine eGff ?_ | refine eGtf ?_ | refine eGft ?_ | refine eGno ?_)
    | ((with_reducible apply eCn); (simp only [nth_zero, nth_succ]; first | done | (with_reducible exact rfl)))
    | ((with_reducible apply eJ); (rfl))
    | ((with_reducible apply eGr1); (first | rfl | (simp only [nth_zero, nth_succ]; rfl)))
    | ((with_reducible apply eB); (first | (with_reducible exact rfl) | (simp (disch := omega) only [qa, putC, AV.cells, storable, buildSt, fillA, buildRo, buildOwn, fillE, Nat.reduceLeDiff, Nat.reduceLT, Nat.reduceAdd, ↓reduceIte]; first | done | (with_reducible exact rfl) | (with_reducible exact ⟨rfl, rfl⟩))))
    | ((with_reducible apply eR); (simp only [nth_zero, nth_succ]; (with_reducible exact rfl)))
    | ((with_reducible first | refine sEql ?_ ?_ | refine sNeq ?_ ?_ | refine sLss ?_ ?_ | refine sLeq ?_ ?_ | refine sGtr ?_ ?_ | refine sGeq ?_ ?_ | refine sNot ?_ ?_ | refine sPick ?_ ?_ | refine sGd ?_ ?_ | refine eBool ?_ ?_) <;> intro hq <;> try subst hq)
  all_goals first | omega | (refine w1b ?_; first | exact (decide_eq_true (by omega)).symm | exact (decide_eq_false (by omega)).symm)

def halfI (b : Int) : Int := if b = 6 then 32 else if b = 12 then 2048 else if b = 16 then 32768 else if b = 19 then 262144 else 33554432
def immB (op imm b : Int) : Bool :=
  if b = 0 then decide (imm = 0)
  else if 20 ≤ op ∧ op ≤ 23 then decide (-(halfI b) ≤ imm ∧ imm < halfI b)
  else decide (0 ≤ imm ∧ imm < 2 * halfI b)
theorem imm_spec (G : Globs) (k : Nat) (op d n m a imm b : Int) (hb : b = 0 ∨ b = 6 ∨ b = 12 ∨ b = 16 ∨ b = 19 ∨ b = 26) : isa_imm.f G (k + 2) [mV op d n m a imm, I6 b] [] = some (.bool (immB op imm b), []) := by
  rw [isa_imm.step]
  unfold isa_imm.c immB
  have r : ∀ H, pureCall (isa_signed.f G (k + 1)) [I6 op] H = _ := fun H => pureCall_of (H := H) (signed_spec G k op) rfl rfl
  refine e_in ?_
  by_cases h0 : b = 0
  · rw [if_pos h0]
    repeat' first
      | (with_reducible first | refine eT ?_ | refine eN ?_ | refine eS ?_ | refine eXn ?_ | refine eXr ?_ | refine eX ?_ | refine eI ?_ | refine eK ?_ | refine eV0 ?_ | refine eGr0 ?_ | refine eGtt ?_ | refine eGff ?_ | refine eGtf ?_ | refine eGft ?_ | refine eGno ?_)
      | ((with_reducible apply eCn); (simp only [nth_zero, nth_succ]; first | done | (with_reducible exact rfl)))
      | ((with_reducible apply eJ); (rfl))
      | ((with_reducible apply eGr1); (first | rfl | (simp only [nth_zero, nth_succ]; rfl)))
      | ((with_reducible apply eB); (first | (with_reducible exact rfl) | (simp (disch := omega) only [qa, putC, AV.cells, storable, buildSt, fillA, buildRo, buildOwn, fillE, Nat.reduceLeDiff, Nat.reduceLT, Nat.reduceAdd, ↓reduceIte]; first | done | (with_reducible exact rfl) | (with_reducible exact ⟨rfl, rfl⟩))))
      | ((with_reducible apply eR); (simp only [nth_zero, nth_succ]; (with_reducible exact rfl)))
      | ((with_reducible first | refine sEql ?_ ?_ | refine sNeq ?_ ?_ | refine sLss ?_ ?_ | refine sLeq ?_ ?_ | refine sGtr ?_ ?_ | refine sGeq ?_ ?_ | refine sNot ?_ ?_ | refine sPick ?_ ?_ | refine sGd ?_ ?_ | refine eBool ?_ ?_) <;> intro hq <;> try subst hq)
    all_goals first | omega | (refine w1b ?_; first | exact (decide_eq_true (by omega)).symm | exact (decide_eq_false (by omega)).symm)
  rw [if_neg h0]
  have hb' : b = 6 ∨ b = 12 ∨ b = 16 ∨ b = 19 ∨ b = 26 := by omega
  obtain ⟨z, hz, s1, s2, s3, s4⟩ : ∃ z : Int, halfI b = z ∧ bin Tryd.prog .sub 3 true (I6 b) (.int .i64 1) = some (I6 (b - 1)) ∧ bin Tryd.prog .shl 3 true (.int .i64 1) (I6 (b - 1)) = some (I6 z) ∧ un .neg (I6 z) = some (I6 (-z)) ∧ bin Tryd.prog .shl 3 true (.int .i64 1) (I6 b) = some (I6 (2 * z)) := by
    clear hb h0 r
    rcases hb' with rfl | rfl | rfl | rfl | rfl
    · exact ⟨32, rfl, by kernel_rfl, by kernel_rfl, by kernel_rfl, by kernel_rfl⟩
    · exact ⟨2048, rfl, by kernel_rfl, by kernel_rfl, by kernel_rfl, by kernel_rfl⟩
    · exact ⟨32768, rfl, by kernel_rfl, by kernel_rfl, by kernel_rfl, by kernel_rfl⟩
    · exact ⟨262144, rfl, by kernel_rfl, by kernel_rfl, by kernel_rfl, by kernel_rfl⟩
    · exact ⟨33554432, rfl, by kernel_rfl, by kernel_rfl, by kernel_rfl, by kernel_rfl⟩
  rw [hz]
  clear hz hb hb'
  by_cases hs : 20 ≤ op ∧ op ≤ 23
  · rw [if_pos hs]
    rw [decide_eq_true hs] at r
    repeat' first
      | (with_reducible first | refine eT ?_ | refine eN ?_ | refine eS ?_ | refine eXn ?_ | refine eXr ?_ | refine eX ?_ | refine eI ?_ | refine eK ?_ | refine eV0 ?_ | refine eGr0 ?_ | refine eGtt ?_ | refine eGff ?_ | refine eGtf ?_ | refine eGft ?_ | refine eGno ?_)
      | ((with_reducible apply eCn); (simp only [nth_zero, nth_succ]; first | done | (with_reducible exact rfl)))
      | ((with_reducible apply eJ); (rfl))
      | ((with_reducible apply eGr1); (first | rfl | (simp only [nth_zero, nth_succ]; rfl)))
      | ((with_reducible apply eB); (first | (with_reducible exact rfl) | (simp (disch := omega) only [qf, r, s1, s2, s3, s4]; first | done | (with_reducible exact rfl) | (with_reducible exact ⟨rfl, rfl⟩)) | (simp (disch := omega) only [qa, putC, AV.cells, storable, buildSt, fillA, buildRo, buildOwn, fillE, Nat.reduceLeDiff, Nat.reduceLT, Nat.reduceAdd, ↓reduceIte, r, s1, s2, s3, s4]; first | done | (with_reducible exact rfl) | (with_reducible exact ⟨rfl, rfl⟩))))
      | ((with_reducible apply eR); (simp only [nth_zero, nth_succ]; (with_reducible exact rfl)))
      | ((with_reducible first | refine sEql ?_ ?_ | refine sNeq ?_ ?_ | refine sLss ?_ ?_ | refine sLeq ?_ ?_ | refine sGtr ?_ ?_ | refine sGeq ?_ ?_ | refine sNot ?_ ?_ | refine sPick ?_ ?_ | refine sGd ?_ ?_ | refine eBool ?_ ?_) <;> intro hq <;> try subst hq)
    all_goals first | omega | (refine w1b ?_; first | exact (decide_eq_true (by omega)).symm | exact (decide_eq_false (by omega)).symm)
  · rw [if_neg hs]
    rw [decide_eq_false hs] at r
    repeat' first
      | (with_reducible first | refine eT ?_ | refine eN ?_ | refine eS ?_ | refine eXn ?_ | refine eXr ?_ | refine eX ?_ | refine eI ?_ | refine eK ?_ | refine eV0 ?_ | refine eGr0 ?_ | refine eGtt ?_ | refine eGff ?_ | refine eGtf ?_ | refine eGft ?_ | refine eGno ?_)
      | ((with_reducible apply eCn); (simp only [nth_zero, nth_succ]; first | done | (with_reducible exact rfl)))
      | ((with_reducible apply eJ); (rfl))
      | ((with_reducible apply eGr1); (first | rfl | (simp only [nth_zero, nth_succ]; rfl)))
      | ((with_reducible apply eB); (first | (with_reducible exact rfl) | (simp (disch := omega) only [qf, r, s1, s2, s3, s4]; first | done | (with_reducible exact rfl) | (with_reducible exact ⟨rfl, rfl⟩)) | (simp (disch := omega) only [qa, putC, AV.cells, storable, buildSt, fillA, buildRo, buildOwn, fillE, Nat.reduceLeDiff, Nat.reduceLT, Nat.reduceAdd, ↓reduceIte, r, s1, s2, s3, s4]; first | done | (with_reducible exact rfl) | (with_reducible exact ⟨rfl, rfl⟩))))
      | ((with_reducible apply eR); (simp only [nth_zero, nth_succ]; (with_reducible exact rfl)))
      | ((with_reducible first | refine sEql ?_ ?_ | refine sNeq ?_ ?_ | refine sLss ?_ ?_ | refine sLeq ?_ ?_ | refine sGtr ?_ ?_ | refine sGeq ?_ ?_ | refine sNot ?_ ?_ | refine sPick ?_ ?_ | refine sGd ?_ ?_ | refine eBool ?_ ?_) <;> intro hq <;> try subst hq)
    all_goals first | omega | (refine w1b ?_; first | exact (decide_eq_true (by omega)).symm | exact (decide_eq_false (by omega)).symm)

/-- May an instruction be, in its form? -/
def fairB (i : MI) (f : Form) : Bool :=
  regB i.d f.d && regB i.n f.n && regB i.m f.m && (if f.a = true then extraB i.op i.a else decide (i.a = 0)) && immB i.op i.imm f.b && !stackB i.op i.d i.n
theorem fair_spec (G : Globs) (k : Nat) (op d n m a imm : Int) (f : Form) (hb : f.b = 0 ∨ f.b = 6 ∨ f.b = 12 ∨ f.b = 16 ∨ f.b = 19 ∨ f.b = 26) : isa_fair.f G (k + 3) [mV op d n m a imm, f.v] [] = some (.bool (fairB ⟨op, d, n, m, a, imm⟩ f), []) := by
  obtain ⟨nm, w, fd, fn, fm, fa, fb⟩ := f
  rw [isa_fair.step]
  unfold isa_fair.c fairB Form.v
  have r1 : ∀ r is H, pureCall (isa_register.f G (k + 2)) [I6 r, .bool is] H = _ := fun r is H => pureCall_of (H := H) (register_spec G (k + 1) r is) rfl rfl
  have r2 : ∀ H, pureCall (isa_extra.f G (k + 2)) [mV op d n m a imm] H = _ := fun H => pureCall_of (H := H) (extra_spec G (k + 1) op d n m a imm) rfl rfl
  have r3 : ∀ H, pureCall (isa_imm.f G (k + 2)) [mV op d n m a imm, I6 fb] H = _ := fun H => pureCall_of (H := H) (imm_spec G k op d n m a imm fb hb) rfl rfl
  have r4 : ∀ H, pureCall (isa_stack.f G (k + 2)) [mV op d n m a imm] H = _ := fun H => pureCall_of (H := H) (stack_spec G (k + 1) op d n m a imm) rfl rfl
  simp only
  generalize immB op imm fb = g3 at *
  generalize extraB op a = g2 at *
  generalize stackB op d n = g4 at *
  have c1 := r1 d fd
  have c2 := r1 n fn
  have c3 := r1 m fm
  generalize regB d fd = t1 at *
  generalize regB n fn = t2 at *
  generalize regB m fm = t3 at *
  clear r1
  refine e_in ?_
  cases t1
  · repeat' first
      | (with_reducible first | refine eT ?_ | refine eN ?_ | refine eS ?_ | refine eXn ?_ | refine eXr ?_ | refine eX ?_ | refine eI ?_ | refine eK ?_ | refine eV0 ?_ | refine eGr0 ?_ | refine eGtt ?_ | refine eGff ?_ | refine eGtf ?_ | refine eGft ?_ | refine eGno ?_)
      | ((with_reducible apply eCn); (simp only [nth_zero, nth_succ]; first | done | (with_reducible exact rfl)))
      | ((with_reducible apply eJ); (rfl))
      | ((with_reducible apply eGr1); (first | rfl | (simp only [nth_zero, nth_succ]; rfl)))
      | ((with_reducible apply eB); (first | (with_reducible exact rfl) | (simp (disch := omega) only [qf, c1, c2, c3, r2, r3, r4]; first | done | (with_reducible exact rfl) | (with_reducible exact ⟨rfl, rfl⟩)) | (simp (disch := omega) only [qa, putC, AV.cells, storable, buildSt, fillA, buildRo, buildOwn, fillE, Nat.reduceLeDiff, Nat.reduceLT, Nat.reduceAdd, ↓reduceIte, c1, c2, c3, r2, r3, r4]; first | done | (with_reducible exact rfl) | (with_reducible exact ⟨rfl, rfl⟩))))
      | ((with_reducible apply eR); (simp only [nth_zero, nth_succ]; (with_reducible exact rfl)))
      | ((with_reducible first | refine sEql ?_ ?_ | refine sNeq ?_ ?_ | refine sLss ?_ ?_ | refine sLeq ?_ ?_ | refine sGtr ?_ ?_ | refine sGeq ?_ ?_ | refine sNot ?_ ?_ | refine sPick ?_ ?_ | refine sGd ?_ ?_ | refine eBool ?_ ?_) <;> intro hq <;> try subst hq)
    exact w1b (by simp)
  cases t2
  · repeat' first
      | (with_reducible first | refine eT ?_ | refine eN ?_ | refine eS ?_ | refine eXn ?_ | refine eXr ?_ | refine eX ?_ | refine eI ?_ | refine eK ?_ | refine eV0 ?_ | refine eGr0 ?_ | refine eGtt ?_ | refine eGff ?_ | refine eGtf ?_ | refine eGft ?_ | refine eGno ?_)
      | ((with_reducible apply eCn); (simp only [nth_zero, nth_succ]; first | done | (with_reducible exact rfl)))
      | ((with_reducible apply eJ); (rfl))
      | ((with_reducible apply eGr1); (first | rfl | (simp only [nth_zero, nth_succ]; rfl)))
      | ((with_reducible apply eB); (first | (with_reducible exact rfl) | (simp (disch := omega) only [qf, c1, c2, c3, r2, r3, r4]; first | done | (with_reducible exact rfl) | (with_reducible exact ⟨rfl, rfl⟩)) | (simp (disch := omega) only [qa, putC, AV.cells, storable, buildSt, fillA, buildRo, buildOwn, fillE, Nat.reduceLeDiff, Nat.reduceLT, Nat.reduceAdd, ↓reduceIte, c1, c2, c3, r2, r3, r4]; first | done | (with_reducible exact rfl) | (with_reducible exact ⟨rfl, rfl⟩))))
      | ((with_reducible apply eR); (simp only [nth_zero, nth_succ]; (with_reducible exact rfl)))
      | ((with_reducible first | refine sEql ?_ ?_ | refine sNeq ?_ ?_ | refine sLss ?_ ?_ | refine sLeq ?_ ?_ | refine sGtr ?_ ?_ | refine sGeq ?_ ?_ | refine sNot ?_ ?_ | refine sPick ?_ ?_ | refine sGd ?_ ?_ | refine eBool ?_ ?_) <;> intro hq <;> try subst hq)
    exact w1b (by simp)
  cases t3
  · repeat' first
      | (with_reducible first | refine eT ?_ | refine eN ?_ | refine eS ?_ | refine eXn ?_ | refine eXr ?_ | refine eX ?_ | refine eI ?_ | refine eK ?_ | refine eV0 ?_ | refine eGr0 ?_ | refine eGtt ?_ | refine eGff ?_ | refine eGtf ?_ | refine eGft ?_ | refine eGno ?_)
      | ((with_reducible apply eCn); (simp only [nth_zero, nth_succ]; first | done | (with_reducible exact rfl)))
      | ((with_reducible apply eJ); (rfl))
      | ((with_reducible apply eGr1); (first | rfl | (simp only [nth_zero, nth_succ]; rfl)))
      | ((with_reducible apply eB); (first | (with_reducible exact rfl) | (simp (disch := omega) only [qf, c1, c2, c3, r2, r3, r4]; first | done | (with_reducible exact rfl) | (with_reducible exact ⟨rfl, rfl⟩)) | (simp (disch := omega) only [qa, putC, AV.cells, storable, buildSt, fillA, buildRo, buildOwn, fillE, Nat.reduceLeDiff, Nat.reduceLT, Nat.reduceAdd, ↓reduceIte, c1, c2, c3, r2, r3, r4]; first | done | (with_reducible exact rfl) | (with_reducible exact ⟨rfl, rfl⟩))))
      | ((with_reducible apply eR); (simp only [nth_zero, nth_succ]; (with_reducible exact rfl)))
      | ((with_reducible first | refine sEql ?_ ?_ | refine sNeq ?_ ?_ | refine sLss ?_ ?_ | refine sLeq ?_ ?_ | refine sGtr ?_ ?_ | refine sGeq ?_ ?_ | refine sNot ?_ ?_ | refine sPick ?_ ?_ | refine sGd ?_ ?_ | refine eBool ?_ ?_) <;> intro hq <;> try subst hq)
    exact w1b (by simp)
  cases fa
  · by_cases ha : a = 0
    · subst ha
      cases g3
      · repeat' first
          | (with_reducible first | refine eT ?_ | refine eN ?_ | refine eS ?_ | refine eXn ?_ | refine eXr ?_ | refine eX ?_ | refine eI ?_ | refine eK ?_ | refine eV0 ?_ | refine eGr0 ?_ | refine eGtt ?_ | refine eGff ?_ | refine eGtf ?_ | refine eGft ?_ | refine eGno ?_)
          | ((with_reducible apply eCn); (simp only [nth_zero, nth_succ]; first | done | (with_reducible exact rfl)))
          | ((with_reducible apply eJ); (rfl))
          | ((with_reducible apply eGr1); (first | rfl | (simp only [nth_zero, nth_succ]; rfl)))
          | ((with_reducible apply eB); (first | (with_reducible exact rfl) | (simp (disch := omega) only [qf, c1, c2, c3, r2, r3, r4]; first | done | (with_reducible exact rfl) | (with_reducible exact ⟨rfl, rfl⟩)) | (simp (disch := omega) only [qa, putC, AV.cells, storable, buildSt, fillA, buildRo, buildOwn, fillE, Nat.reduceLeDiff, Nat.reduceLT, Nat.reduceAdd, ↓reduceIte, c1, c2, c3, r2, r3, r4]; first | done | (with_reducible exact rfl) | (with_reducible exact ⟨rfl, rfl⟩))))
          | ((with_reducible apply eR); (simp only [nth_zero, nth_succ]; (with_reducible exact rfl)))
          | ((with_reducible first | refine sEql ?_ ?_ | refine sNeq ?_ ?_ | refine sLss ?_ ?_ | refine sLeq ?_ ?_ | refine sGtr ?_ ?_ | refine sGeq ?_ ?_ | refine sNot ?_ ?_ | refine sPick ?_ ?_ | refine sGd ?_ ?_ | refine eBool ?_ ?_) <;> intro hq <;> try subst hq)
        exact w1b (by simp)
      · cases g4
        · repeat' first
            | (with_reducible first | refine eT ?_ | refine eN ?_ | refine eS ?_ | refine eXn ?_ | refine eXr ?_ | refine eX ?_ | refine eI ?_ | refine eK ?_ | refine eV0 ?_ | refine eGr0 ?_ | refine eGtt ?_ | refine eGff ?_ | refine eGtf ?_ | refine eGft ?_ | refine eGno ?_)
            | ((with_reducible apply eCn); (simp only [nth_zero, nth_succ]; first | done | (with_reducible exact rfl)))
            | ((with_reducible apply eJ); (rfl))
            | ((with_reducible apply eGr1); (first | rfl | (simp only [nth_zero, nth_succ]; rfl)))
            | ((with_reducible apply eB); (first | (with_reducible exact rfl) | (simp (disch := omega) only [qf, c1, c2, c3, r2, r3, r4]; first | done | (with_reducible exact rfl) | (with_reducible exact ⟨rfl, rfl⟩)) | (simp (disch := omega) only [qa, putC, AV.cells, storable, buildSt, fillA, buildRo, buildOwn, fillE, Nat.reduceLeDiff, Nat.reduceLT, Nat.reduceAdd, ↓reduceIte, c1, c2, c3, r2, r3, r4]; first | done | (with_reducible exact rfl) | (with_reducible exact ⟨rfl, rfl⟩))))
            | ((with_reducible apply eR); (simp only [nth_zero, nth_succ]; (with_reducible exact rfl)))
            | ((with_reducible first | refine sEql ?_ ?_ | refine sNeq ?_ ?_ | refine sLss ?_ ?_ | refine sLeq ?_ ?_ | refine sGtr ?_ ?_ | refine sGeq ?_ ?_ | refine sNot ?_ ?_ | refine sPick ?_ ?_ | refine sGd ?_ ?_ | refine eBool ?_ ?_) <;> intro hq <;> try subst hq)
          exact w1b (by simp)
        · repeat' first
            | (with_reducible first | refine eT ?_ | refine eN ?_ | refine eS ?_ | refine eXn ?_ | refine eXr ?_ | refine eX ?_ | refine eI ?_ | refine eK ?_ | refine eV0 ?_ | refine eGr0 ?_ | refine eGtt ?_ | refine eGff ?_ | refine eGtf ?_ | refine eGft ?_ | refine eGno ?_)
            | ((with_reducible apply eCn); (simp only [nth_zero, nth_succ]; first | done | (with_reducible exact rfl)))
            | ((with_reducible apply eJ); (rfl))
            | ((with_reducible apply eGr1); (first | rfl | (simp only [nth_zero, nth_succ]; rfl)))
            | ((with_reducible apply eB); (first | (with_reducible exact rfl) | (simp (disch := omega) only [qf, c1, c2, c3, r2, r3, r4]; first | done | (with_reducible exact rfl) | (with_reducible exact ⟨rfl, rfl⟩)) | (simp (disch := omega) only [qa, putC, AV.cells, storable, buildSt, fillA, buildRo, buildOwn, fillE, Nat.reduceLeDiff, Nat.reduceLT, Nat.reduceAdd, ↓reduceIte, c1, c2, c3, r2, r3, r4]; first | done | (with_reducible exact rfl) | (with_reducible exact ⟨rfl, rfl⟩))))
            | ((with_reducible apply eR); (simp only [nth_zero, nth_succ]; (with_reducible exact rfl)))
            | ((with_reducible first | refine sEql ?_ ?_ | refine sNeq ?_ ?_ | refine sLss ?_ ?_ | refine sLeq ?_ ?_ | refine sGtr ?_ ?_ | refine sGeq ?_ ?_ | refine sNot ?_ ?_ | refine sPick ?_ ?_ | refine sGd ?_ ?_ | refine eBool ?_ ?_) <;> intro hq <;> try subst hq)
          exact w1b (by simp)
    · repeat' first
        | (with_reducible first | refine eT ?_ | refine eN ?_ | refine eS ?_ | refine eXn ?_ | refine eXr ?_ | refine eX ?_ | refine eI ?_ | refine eK ?_ | refine eV0 ?_ | refine eGr0 ?_ | refine eGtt ?_ | refine eGff ?_ | refine eGtf ?_ | refine eGft ?_ | refine eGno ?_)
        | ((with_reducible apply eCn); (simp only [nth_zero, nth_succ]; first | done | (with_reducible exact rfl)))
        | ((with_reducible apply eJ); (rfl))
        | ((with_reducible apply eGr1); (first | rfl | (simp only [nth_zero, nth_succ]; rfl)))
        | ((with_reducible apply eB); (first | (with_reducible exact rfl) | (simp (disch := omega) only [qf, c1, c2, c3, r2, r3, r4]; first | done | (with_reducible exact rfl) | (with_reducible exact ⟨rfl, rfl⟩)) | (simp (disch := omega) only [qa, putC, AV.cells, storable, buildSt, fillA, buildRo, buildOwn, fillE, Nat.reduceLeDiff, Nat.reduceLT, Nat.reduceAdd, ↓reduceIte, c1, c2, c3, r2, r3, r4]; first | done | (with_reducible exact rfl) | (with_reducible exact ⟨rfl, rfl⟩))))
        | ((with_reducible apply eR); (simp only [nth_zero, nth_succ]; (with_reducible exact rfl)))
        | ((with_reducible first | refine sEql ?_ ?_ | refine sNeq ?_ ?_ | refine sLss ?_ ?_ | refine sLeq ?_ ?_ | refine sGtr ?_ ?_ | refine sGeq ?_ ?_ | refine sNot ?_ ?_ | refine sPick ?_ ?_ | refine sGd ?_ ?_ | refine eBool ?_ ?_) <;> intro hq <;> try subst hq)
      exact w1b (by simp [ha])
  · cases g2
    · repeat' first
        | (with_reducible first | refine eT ?_ | refine eN ?_ | refine eS ?_ | refine eXn ?_ | refine eXr ?_ | refine eX ?_ | refine eI ?_ | refine eK ?_ | refine eV0 ?_ | refine eGr0 ?_ | refine eGtt ?_ | refine eGff ?_ | refine eGtf ?_ | refine eGft ?_ | refine eGno ?_)
        | ((with_reducible apply eCn); (simp only [nth_zero, nth_succ]; first | done | (with_reducible exact rfl)))
        | ((with_reducible apply eJ); (rfl))
        | ((with_reducible apply eGr1); (first | rfl | (simp only [nth_zero, nth_succ]; rfl)))
        | ((with_reducible apply eB); (first | (with_reducible exact rfl) | (simp (disch := omega) only [qf, c1, c2, c3, r2, r3, r4]; first | done | (with_reducible exact rfl) | (with_reducible exact ⟨rfl, rfl⟩)) | (simp (disch := omega) only [qa, putC, AV.cells, storable, buildSt, fillA, buildRo, buildOwn, fillE, Nat.reduceLeDiff, Nat.reduceLT, Nat.reduceAdd, ↓reduceIte, c1, c2, c3, r2, r3, r4]; first | done | (with_reducible exact rfl) | (with_reducible exact ⟨rfl, rfl⟩))))
        | ((with_reducible apply eR); (simp only [nth_zero, nth_succ]; (with_reducible exact rfl)))
        | ((with_reducible first | refine sEql ?_ ?_ | refine sNeq ?_ ?_ | refine sLss ?_ ?_ | refine sLeq ?_ ?_ | refine sGtr ?_ ?_ | refine sGeq ?_ ?_ | refine sNot ?_ ?_ | refine sPick ?_ ?_ | refine sGd ?_ ?_ | refine eBool ?_ ?_) <;> intro hq <;> try subst hq)
      exact w1b (by simp)
    · cases g3
      · repeat' first
          | (with_reducible first | refine eT ?_ | refine eN ?_ | refine eS ?_ | refine eXn ?_ | refine eXr ?_ | refine eX ?_ | refine eI ?_ | refine eK ?_ | refine eV0 ?_ | refine eGr0 ?_ | refine eGtt ?_ | refine eGff ?_ | refine eGtf ?_ | refine eGft ?_ | refine eGno ?_)
          | ((with_reducible apply eCn); (simp only [nth_zero, nth_succ]; first | done | (with_reducible exact rfl)))
          | ((with_reducible apply eJ); (rfl))
          | ((with_reducible apply eGr1); (first | rfl | (simp only [nth_zero, nth_succ]; rfl)))
          | ((with_reducible apply eB); (first | (with_reducible exact rfl) | (simp (disch := omega) only [qf, c1, c2, c3, r2, r3, r4]; first | done | (with_reducible exact rfl) | (with_reducible exact ⟨rfl, rfl⟩)) | (simp (disch := omega) only [qa, putC, AV.cells, storable, buildSt, fillA, buildRo, buildOwn, fillE, Nat.reduceLeDiff, Nat.reduceLT, Nat.reduceAdd, ↓reduceIte, c1, c2, c3, r2, r3, r4]; first | done | (with_reducible exact rfl) | (with_reducible exact ⟨rfl, rfl⟩))))
          | ((with_reducible apply eR); (simp only [nth_zero, nth_succ]; (with_reducible exact rfl)))
          | ((with_reducible first | refine sEql ?_ ?_ | refine sNeq ?_ ?_ | refine sLss ?_ ?_ | refine sLeq ?_ ?_ | refine sGtr ?_ ?_ | refine sGeq ?_ ?_ | refine sNot ?_ ?_ | refine sPick ?_ ?_ | refine sGd ?_ ?_ | refine eBool ?_ ?_) <;> intro hq <;> try subst hq)
        exact w1b (by simp)
      · cases g4
        · repeat' first
            | (with_reducible first | refine eT ?_ | refine eN ?_ | refine eS ?_ | refine eXn ?_ | refine eXr ?_ | refine eX ?_ | refine eI ?_ | refine eK ?_ | refine eV0 ?_ | refine eGr0 ?_ | refine eGtt ?_ | refine eGff ?_ | refine eGtf ?_ | refine eGft ?_ | refine eGno ?_)
            | ((with_reducible apply eCn); (simp only [nth_zero, nth_succ]; first | done | (with_reducible exact rfl)))
            | ((with_reducible apply eJ); (rfl))
            | ((with_reducible apply eGr1); (first | rfl | (simp only [nth_zero, nth_succ]; rfl)))
            | ((with_reducible apply eB); (first | (with_reducible exact rfl) | (simp (disch := omega) only [qf, c1, c2, c3, r2, r3, r4]; first | done | (with_reducible exact rfl) | (with_reducible exact ⟨rfl, rfl⟩)) | (simp (disch := omega) only [qa, putC, AV.cells, storable, buildSt, fillA, buildRo, buildOwn, fillE, Nat.reduceLeDiff, Nat.reduceLT, Nat.reduceAdd, ↓reduceIte, c1, c2, c3, r2, r3, r4]; first | done | (with_reducible exact rfl) | (with_reducible exact ⟨rfl, rfl⟩))))
            | ((with_reducible apply eR); (simp only [nth_zero, nth_succ]; (with_reducible exact rfl)))
            | ((with_reducible first | refine sEql ?_ ?_ | refine sNeq ?_ ?_ | refine sLss ?_ ?_ | refine sLeq ?_ ?_ | refine sGtr ?_ ?_ | refine sGeq ?_ ?_ | refine sNot ?_ ?_ | refine sPick ?_ ?_ | refine sGd ?_ ?_ | refine eBool ?_ ?_) <;> intro hq <;> try subst hq)
          exact w1b (by simp)
        · repeat' first
            | (with_reducible first | refine eT ?_ | refine eN ?_ | refine eS ?_ | refine eXn ?_ | refine eXr ?_ | refine eX ?_ | refine eI ?_ | refine eK ?_ | refine eV0 ?_ | refine eGr0 ?_ | refine eGtt ?_ | refine eGff ?_ | refine eGtf ?_ | refine eGft ?_ | refine eGno ?_)
            | ((with_reducible apply eCn); (simp only [nth_zero, nth_succ]; first | done | (with_reducible exact rfl)))
            | ((with_reducible apply eJ); (rfl))
            | ((with_reducible apply eGr1); (first | rfl | (simp only [nth_zero, nth_succ]; rfl)))
            | ((with_reducible apply eB); (first | (with_reducible exact rfl) | (simp (disch := omega) only [qf, c1, c2, c3, r2, r3, r4]; first | done | (with_reducible exact rfl) | (with_reducible exact ⟨rfl, rfl⟩)) | (simp (disch := omega) only [qa, putC, AV.cells, storable, buildSt, fillA, buildRo, buildOwn, fillE, Nat.reduceLeDiff, Nat.reduceLT, Nat.reduceAdd, ↓reduceIte, c1, c2, c3, r2, r3, r4]; first | done | (with_reducible exact rfl) | (with_reducible exact ⟨rfl, rfl⟩))))
            | ((with_reducible apply eR); (simp only [nth_zero, nth_succ]; (with_reducible exact rfl)))
            | ((with_reducible first | refine sEql ?_ ?_ | refine sNeq ?_ ?_ | refine sLss ?_ ?_ | refine sLeq ?_ ?_ | refine sGtr ?_ ?_ | refine sGeq ?_ ?_ | refine sNot ?_ ?_ | refine sPick ?_ ?_ | refine sGd ?_ ?_ | refine eBool ?_ ?_) <;> intro hq <;> try subst hq)
          exact w1b (by simp)

def rightB (i : MI) : Bool := isOp i.op && fairB i (formF i.op)

theorem cv32 (x : Int) : convInt .u32 (I6 x) = some (W32 (IntKind.u32.wrap x)) := convInt_int ..
theorem number_some (G : Globs) (k : Nat) (op d n m a imm : Int) : ∃ x, isa_number.f G (k + 1) [mV op d n m a imm] [] = some (W32 x, []) := by
  have s5 := fun a : Int => bin_shl Tryd.prog 71 true .u32 .u64 a 5 (by decide)
  have s10 := fun a : Int => bin_shl Tryd.prog 71 true .u32 .u64 a 10 (by decide)
  have s12 := fun a : Int => bin_shl Tryd.prog 71 true .u32 .u64 a 12 (by decide)
  have s16 := fun a : Int => bin_shl Tryd.prog 71 true .u32 .u64 a 16 (by decide)
  have s21 := fun a : Int => bin_shl Tryd.prog 71 true .u32 .u64 a 21 (by decide)
  have o1 := fun a b : Int => bin_or Tryd.prog 71 false .u32 a b
  have o2 := fun a b : Int => bin_or Tryd.prog 71 true .u32 a b
  have x1 := fun a b : Int => bin_xor Tryd.prog 71 true .u32 a b
  have x2 := fun a b : Int => bin_and Tryd.prog 71 true .u32 a b
  have x3 := fun a b : Int => bin_sub Tryd.prog 71 true .u32 a b
  have x4 := fun a : Int => bin_rem Tryd.prog 71 true .u32 a 64 (by decide)
  have go : ∀ P : Prop, P → P := fun _ h => h
  by_cases h : 1 ≤ op ∧ op ≤ 24
  · rcases op24 h with rfl | rfl | rfl | rfl | rfl | rfl | rfl | rfl | rfl | rfl | rfl | rfl | rfl | rfl | rfl | rfl | rfl | rfl | rfl | rfl | rfl | rfl | rfl | rfl
    all_goals (
      apply Exists.intro
      rw [isa_number.step]
      unfold isa_number.c
      refine e_in ?_
      repeat first
        | (with_reducible first | refine eT ?_ | refine eN ?_ | refine eS ?_ | refine eXn ?_ | refine eXr ?_ | refine eX ?_ | refine eI ?_ | refine eK ?_ | refine eV0 ?_ | refine eGr0 ?_ | refine eGtt ?_ | refine eGff ?_ | refine eGtf ?_ | refine eGft ?_ | refine eGno ?_)
        | ((with_reducible apply eCn); (simp only [nth_zero, nth_succ]; first | done | (with_reducible exact rfl)))
        | ((with_reducible apply eJ); (rfl))
        | ((with_reducible apply eGr1); (first | rfl | (simp only [nth_zero, nth_succ]; rfl)))
        | ((with_reducible apply eB); (first | (with_reducible exact rfl) | (simp (disch := omega) only [qf, cv32, s5, s10, s12, s16, s21, o1, o2, x1, x2, x3, x4]; first | done | (with_reducible exact rfl) | (with_reducible exact ⟨rfl, rfl⟩)) | (simp (disch := omega) only [qa, putC, AV.cells, storable, buildSt, fillA, buildRo, buildOwn, fillE, Nat.reduceLeDiff, Nat.reduceLT, Nat.reduceAdd, ↓reduceIte, cv32, s5, s10, s12, s16, s21, o1, o2, x1, x2, x3, x4]; first | done | (with_reducible exact rfl) | (with_reducible exact ⟨rfl, rfl⟩))))
        | ((with_reducible apply eR); (simp only [nth_zero, nth_succ]; (with_reducible exact rfl)))
      exact w1 rfl rfl)
  · refine ⟨0, ?_⟩
    rw [isa_number.step]
    unfold isa_number.c
    refine e_in ?_
    repeat' first
      | (with_reducible first | refine eT ?_ | refine eN ?_ | refine eS ?_ | refine eXn ?_ | refine eXr ?_ | refine eX ?_ | refine eI ?_ | refine eK ?_ | refine eV0 ?_ | refine eGr0 ?_ | refine eGtt ?_ | refine eGff ?_ | refine eGtf ?_ | refine eGft ?_ | refine eGno ?_)
      | ((with_reducible apply eCn); (simp only [nth_zero, nth_succ]; first | done | (with_reducible exact rfl)))
      | ((with_reducible apply eJ); (rfl))
      | ((with_reducible apply eGr1); (first | rfl | (simp only [nth_zero, nth_succ]; rfl)))
      | ((with_reducible apply eB); (first | (with_reducible exact rfl) | (simp (disch := omega) only [qf, cv32]; first | done | (with_reducible exact rfl) | (with_reducible exact ⟨rfl, rfl⟩)) | (simp (disch := omega) only [qa, putC, AV.cells, storable, buildSt, fillA, buildRo, buildOwn, fillE, Nat.reduceLeDiff, Nat.reduceLT, Nat.reduceAdd, ↓reduceIte, cv32]; first | done | (with_reducible exact rfl) | (with_reducible exact ⟨rfl, rfl⟩))))
      | ((with_reducible apply eR); (simp only [nth_zero, nth_succ]; (with_reducible exact rfl)))
      | ((with_reducible first | refine sEql ?_ ?_ | refine sNeq ?_ ?_ | refine sLss ?_ ?_ | refine sLeq ?_ ?_ | refine sGtr ?_ ?_ | refine sGeq ?_ ?_ | refine sNot ?_ ?_ | refine sPick ?_ ?_ | refine sGd ?_ ?_ | refine eBool ?_ ?_) <;> intro hq <;> try subst hq)
    all_goals first | omega | exact w1 rfl rfl

/-- A word, and whether it may be. -/
theorem word_some (G : Globs) (k : Nat) (i : MI) : ∃ w, isa_Word.f G (k + 5) [i.v] [] = some (.tup [W32 w, .bool (rightB i)], []) := by
  obtain ⟨op, d, n, m, a, imm⟩ := i
  show ∃ w, isa_Word.f G (k + 5) [mV op d n m a imm] [] = _
  rw [isa_Word.step]
  unfold isa_Word.c rightB
  have r1 : ∀ H, pureCall (isa_of.f G (k + 4)) [I6 op] H = _ := fun H => pureCall_of (H := H) (of_spec G k op) rfl rfl
  have r2 : ∀ H, pureCall (isa_fair.f G (k + 4)) [mV op d n m a imm, (formF op).v] H = _ := fun H => pureCall_of (H := H) (fair_spec G (k + 1) op d n m a imm (formF op) (form_bits op)) rfl rfl
  obtain ⟨x, hx⟩ := number_some G (k + 3) op d n m a imm
  have r3 : ∀ H, pureCall (isa_number.f G (k + 4)) [mV op d n m a imm] H = _ := fun H => pureCall_of (H := H) hx rfl rfl
  have s5 := fun a : Int => bin_shl Tryd.prog 71 true .u32 .u64 a 5 (by decide)
  have s16 := fun a : Int => bin_shl Tryd.prog 71 true .u32 .u64 a 16 (by decide)
  have o := fun a b : Int => bin_or Tryd.prog 71 false .u32 a b
  simp only
  generalize fairB ⟨op, d, n, m, a, imm⟩ (formF op) = g2 at *
  generalize isOp op = g1 at *
  obtain ⟨nm, w, fd, fn, fm, fa, fb⟩ := formF op
  unfold Form.v at *
  cases g1
  · refine ⟨0, ?_⟩
    refine e_in ?_
    repeat' first
      | (with_reducible first | refine eT ?_ | refine eN ?_ | refine eS ?_ | refine eXn ?_ | refine eXr ?_ | refine eX ?_ | refine eI ?_ | refine eK ?_ | refine eV0 ?_ | refine eGr0 ?_ | refine eGtt ?_ | refine eGff ?_ | refine eGtf ?_ | refine eGft ?_ | refine eGno ?_)
      | ((with_reducible apply eCn); (simp only [nth_zero, nth_succ]; first | done | (with_reducible exact rfl)))
      | ((with_reducible apply eJ); (rfl))
      | ((with_reducible apply eGr1); (first | rfl | (simp only [nth_zero, nth_succ]; rfl)))
      | ((with_reducible apply eB); (first | (with_reducible exact rfl) | (simp (disch := omega) only [qf, r1, r2, r3]; first | done | (with_reducible exact rfl) | (with_reducible exact ⟨rfl, rfl⟩)) | (simp (disch := omega) only [qa, putC, AV.cells, storable, buildSt, fillA, buildRo, buildOwn, fillE, Nat.reduceLeDiff, Nat.reduceLT, Nat.reduceAdd, ↓reduceIte, r1, r2, r3]; first | done | (with_reducible exact rfl) | (with_reducible exact ⟨rfl, rfl⟩))))
      | ((with_reducible apply eR); (simp only [nth_zero, nth_succ]; (with_reducible exact rfl)))
      | ((with_reducible first | refine sEql ?_ ?_ | refine sNeq ?_ ?_ | refine sLss ?_ ?_ | refine sLeq ?_ ?_ | refine sGtr ?_ ?_ | refine sGeq ?_ ?_ | refine sNot ?_ ?_ | refine sPick ?_ ?_ | refine sGd ?_ ?_ | refine eBool ?_ ?_) <;> intro hq <;> try subst hq)
    exact w2 rfl rfl rfl
  · cases g2
    · refine ⟨0, ?_⟩
      refine e_in ?_
      repeat' first
        | (with_reducible first | refine eT ?_ | refine eN ?_ | refine eS ?_ | refine eXn ?_ | refine eXr ?_ | refine eX ?_ | refine eI ?_ | refine eK ?_ | refine eV0 ?_ | refine eGr0 ?_ | refine eGtt ?_ | refine eGff ?_ | refine eGtf ?_ | refine eGft ?_ | refine eGno ?_)
        | ((with_reducible apply eCn); (simp only [nth_zero, nth_succ]; first | done | (with_reducible exact rfl)))
        | ((with_reducible apply eJ); (rfl))
        | ((with_reducible apply eGr1); (first | rfl | (simp only [nth_zero, nth_succ]; rfl)))
        | ((with_reducible apply eB); (first | (with_reducible exact rfl) | (simp (disch := omega) only [qf, r1, r2, r3]; first | done | (with_reducible exact rfl) | (with_reducible exact ⟨rfl, rfl⟩)) | (simp (disch := omega) only [qa, putC, AV.cells, storable, buildSt, fillA, buildRo, buildOwn, fillE, Nat.reduceLeDiff, Nat.reduceLT, Nat.reduceAdd, ↓reduceIte, r1, r2, r3]; first | done | (with_reducible exact rfl) | (with_reducible exact ⟨rfl, rfl⟩))))
        | ((with_reducible apply eR); (simp only [nth_zero, nth_succ]; (with_reducible exact rfl)))
        | ((with_reducible first | refine sEql ?_ ?_ | refine sNeq ?_ ?_ | refine sLss ?_ ?_ | refine sLeq ?_ ?_ | refine sGtr ?_ ?_ | refine sGeq ?_ ?_ | refine sNot ?_ ?_ | refine sPick ?_ ?_ | refine sGd ?_ ?_ | refine eBool ?_ ?_) <;> intro hq <;> try subst hq)
      exact w2 rfl rfl rfl
    · apply Exists.intro
      refine e_in ?_
      repeat first
        | (with_reducible first | refine eT ?_ | refine eN ?_ | refine eS ?_ | refine eXn ?_ | refine eXr ?_ | refine eX ?_ | refine eI ?_ | refine eK ?_ | refine eV0 ?_ | refine eGr0 ?_ | refine eGtt ?_ | refine eGff ?_ | refine eGtf ?_ | refine eGft ?_ | refine eGno ?_)
        | ((with_reducible apply eCn); (simp only [nth_zero, nth_succ]; first | done | (with_reducible exact rfl)))
        | ((with_reducible apply eJ); (rfl))
        | ((with_reducible apply eGr1); (first | rfl | (simp only [nth_zero, nth_succ]; rfl)))
        | ((with_reducible apply eB); (first | (with_reducible exact rfl) | (simp (disch := omega) only [qf, r1, r2, r3, cv32, s5, s16, o]; first | done | (with_reducible exact rfl) | (with_reducible exact ⟨rfl, rfl⟩)) | (simp (disch := omega) only [qa, putC, AV.cells, storable, buildSt, fillA, buildRo, buildOwn, fillE, Nat.reduceLeDiff, Nat.reduceLT, Nat.reduceAdd, ↓reduceIte, r1, r2, r3, cv32, s5, s16, o]; first | done | (with_reducible exact rfl) | (with_reducible exact ⟨rfl, rfl⟩))))
        | ((with_reducible apply eR); (simp only [nth_zero, nth_succ]; (with_reducible exact rfl)))
      exact w2 rfl rfl rfl
end Go.Proofs.YtdfglgnflldkpaaDoor.Mir
