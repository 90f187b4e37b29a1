/- Which programs of words may be. -/
import Derived.Test.YtcmblhedhgiofaaDoorWe
namespace Go.Proofs.YtcmblhedhgiofaaDoor.Mir
open Go
set_option linter.unusedVariables false
set_option linter.unusedSimpArgs false
set_option maxHeartbeats 4000000

/-- What an instruction has. -/
structure Frm where
  d : Bool
  a : Bool
  b : Bool
  c : Bool
  k : Bool

def formF (op : Int) : Option Frm :=
  if op = 1 then some ⟨true, false, false, false, true⟩
  else if op = 2 then some ⟨true, true, false, false, false⟩
  else if (3 ≤ op ∧ op ≤ 9) ∨ op = 13 then some ⟨true, true, true, false, false⟩
  else if (10 ≤ op ∧ op ≤ 12) ∨ op = 15 then some ⟨true, true, false, false, true⟩
  else if op = 14 then some ⟨true, true, true, true, false⟩
  else if op = 16 then some ⟨false, true, true, false, true⟩
  else if op = 17 ∨ op = 20 then some ⟨false, false, false, false, true⟩
  else if op = 18 ∨ op = 19 then some ⟨false, true, false, false, true⟩
  else none

/-- Its word. -/
def wordF (op : Int) : ByteArray :=
  if op = 1 then ⟨#[99, 111, 110, 115, 116]⟩ else if op = 2 then ⟨#[109, 111, 118]⟩ else if op = 3 then ⟨#[97, 100, 100]⟩ else if op = 4 then ⟨#[115, 117, 98]⟩ else if op = 5 then ⟨#[109, 117, 108]⟩
  else if op = 6 then ⟨#[104, 105, 103, 104]⟩ else if op = 7 then ⟨#[97, 110, 100]⟩ else if op = 8 then ⟨#[111, 114]⟩ else if op = 9 then ⟨#[120, 111, 114]⟩ else if op = 10 then ⟨#[115, 104, 108]⟩
  else if op = 11 then ⟨#[115, 104, 114]⟩ else if op = 12 then ⟨#[115, 97, 114]⟩ else if op = 13 then ⟨#[108, 101, 115, 115]⟩ else if op = 14 then ⟨#[115, 101, 108]⟩ else if op = 15 then ⟨#[108, 100]⟩
  else if op = 16 then ⟨#[115, 116]⟩ else if op = 17 then ⟨#[98, 114]⟩ else if op = 18 then ⟨#[98, 122]⟩ else if op = 19 then ⟨#[98, 110, 122]⟩ else if op = 20 then ⟨#[104, 97, 108, 116]⟩ else ⟨#[110, 111, 110, 101]⟩

def frmV (w : ByteArray) (f : Frm) : AV := .agg [.str w, .bool f.d, .bool f.a, .bool f.b, .bool f.c, .bool f.k]
def frmD (op : Int) : Frm := match formF op with | some f => f | none => ⟨false, false, false, false, false⟩

theorem op20 {op : Int} (h : 1 ≤ op ∧ op ≤ 20) : op = 1 ∨ op = 2 ∨ op = 3 ∨ op = 4 ∨ op = 5 ∨ op = 6 ∨ op = 7 ∨ op = 8 ∨ op = 9 ∨ op = 10 ∨ op = 11 ∨ op = 12 ∨ op = 13 ∨ op = 14 ∨ op = 15 ∨ op = 16 ∨ op = 17 ∨ op = 18 ∨ op = 19 ∨ op = 20 := by omega
theorem formF_none {op : Int} (h : ¬ (1 ≤ op ∧ op ≤ 20)) : formF op = none := by
  unfold formF
  repeat rw [if_neg (by omega)]
theorem wordF_none {op : Int} (h : ¬ (1 ≤ op ∧ op ≤ 20)) : wordF op = ⟨#[110, 111, 110, 101]⟩ := by
  unfold wordF
  repeat rw [if_neg (by omega)]

theorem of_spec (G : Globs) (k : Nat) (op : Int) : words_Of.f G (k + 4) [I6 op] [] = some (.tup [frmV (wordF op) (frmD op), .bool (formF op).isSome], []) := by
  by_cases h : 1 ≤ op ∧ op ≤ 20
  · rcases op20 h with rfl | rfl | rfl | rfl | rfl | rfl | rfl | rfl | rfl | rfl | rfl | rfl | rfl | rfl | rfl | rfl | rfl | rfl | rfl | rfl <;> kernel_rfl
  · rw [words_Of.step]
    unfold words_Of.c
    unfold frmD
    rw [formF_none h, wordF_none h]
    refine e_in ?_
    repeat' first
      | (with_reducible first | refine eT ?_ | refine eN ?_ | refine eS ?_ | refine eXn ?_ | refine eXr ?_ | refine eX ?_ | refine eI ?_ | refine eK ?_ | refine eV0 ?_ | refine eGtt ?_ | refine eGff ?_ | refine eGtf ?_ | refine eGft ?_ | refine eGno ?_)
      | ((with_reducible apply eCn); (simp only [nth_zero, nth_succ]; first | done | (with_reducible exact rfl)))
      | ((with_reducible apply eJ); (rfl))
      | ((with_reducible apply eB); (first | (with_reducible exact rfl) | (simp (disch := omega) only [qa, putC, AV.cells, storable, buildSt, fillA, buildRo, buildOwn, fillE, Nat.reduceLeDiff, Nat.reduceLT, Nat.reduceAdd, ↓reduceIte]; first | done | (with_reducible exact rfl) | (with_reducible exact ⟨rfl, rfl⟩))))
      | ((with_reducible apply eR); (simp only [nth_zero, nth_succ]; (with_reducible exact rfl)))
      | ((with_reducible first | refine sEql ?_ ?_ | refine sNeq ?_ ?_ | refine sLss ?_ ?_ | refine sLeq ?_ ?_ | refine sGtr ?_ ?_ | refine sGeq ?_ ?_ | refine sNot ?_ ?_ | refine sPick ?_ ?_ | refine sGd ?_ ?_ | refine eBool ?_ ?_) <;> intro hq <;> try subst hq)
    refine e_out ?_
    rfl

def bsV (f : Frm) : AV := .ro false [.bool f.d, .bool f.a, .bool f.b, .bool f.c, .bool f.k]
def isV (i : Ins) : AV := .ro false [I6 i.d, I6 i.a, I6 i.b, I6 i.c, I6 i.k]
theorem has_spec (G : Globs) (k : Nat) (i : Ins) (w : ByteArray) (f : Frm) : words_has.f G (k + 1) [i.v, frmV w f] [] = some (.tup [bsV f, isV i], []) := by kernel_rfl

/-- The errors. -/
abbrev eV (g : Nat) : AV := .iface 154 (.gp g)

/-- Is a register none, where there is one? -/
def outR (is : Bool) (r R : Int) : Bool := is && (decide (r < 0) || decide (R ≤ r))

section
variable (G : Globs) (k : Nat) (self : Den) (c1 : AV) (R : Int) (hR0 : 0 ≤ R)
/-- The code of a box. -/
abbrev bxC (cv : AV) (R M : Int) : AV := .rp false (.agg [cv, I6 R, I6 M]) 0
abbrev xs6 (cv : AV) (R M : Int) (i : Ins) (f : Frm) (j : Int) : List AV := [bxC cv R M, .rp false i.v 0, .nili, bsV f, isV i, I6 j]

theorem idxRo1 {bor : Bool} {xs : List AV} {k' : IntKind} {j : Nat} {y : AV} (h : xs[j]? = some y) (h1 : y.cells.length = 1) : idxAddrSl 1 (.ro bor xs) (.int k' (j : Int)) = some (.rp bor y 0) := by
  unfold idxAddrSl
  simp [h, h1]
theorem ldRpB {b bor : Bool} {H : AHeap} : loadV G false 1 (.rp bor (.bool b) 0) H = some (.bool b) := rfl
theorem ldRpI {n : Int} {bor : Bool} {H : AHeap} : loadV G false 1 (.rp bor (I6 n) 0) H = some (I6 n) := rfl

theorem l6_round (cv : AV) (M : Int) (i : Ins) (f : Frm) (j : Nat) (hj : j < 4) (t : Bool) (p : Int) (ht : [AV.bool f.d, .bool f.a, .bool f.b, .bool f.c, .bool f.k][j]? = some (.bool t)) (hp : [I6 i.d, I6 i.a, I6 i.b, I6 i.c, I6 i.k][j]? = some (I6 p))
    (hG : G 2 = some (eV 2)) (hcl : belowB 0 cv = true) (n : Nat) :
    loopN (words_one.l6 G k 1 self) (n + 1) (xs6 cv R M i f j) [⟨113, 6, [frmV (wordF i.op) f]⟩] =
      if outR t p R = true then some (.ret, [bxC cv R M, .rp false i.v 0, eV 2, bsV f, isV i, I6 j], [⟨113, 6, [frmV (wordF i.op) f]⟩])
      else loopN (words_one.l6 G k 1 self) n (xs6 cv R M i f (j + 1 : Nat)) [⟨113, 6, [frmV (wordF i.op) f]⟩] := by
  rw [loopN_succ, words_one.l6]
  have hc : cutH 1 (xs6 cv R M i f j) [⟨113, 6, [frmV (wordF i.op) f]⟩] = some [⟨113, 6, [frmV (wordF i.op) f]⟩] := by
    have := belowB_mono (Nat.zero_le 1) hcl
    simp [cutH, belowL, belowB, heapBelow, this, bsV, isV, Ins.v, instV, frmV]
  have d1 : idxAddrSl 1 (bsV f) (I6 j) = some (.rp false (.bool t) 0) := idxRo1 ht rfl
  have d2 : idxAddrSl 1 (isV i) (I6 j) = some (.rp false (I6 p) 0) := idxRo1 hp rfl
  have l1 := @ldRpB G
  have l2 := @ldRpI G
  have l3 : ∀ H, loadV G false 1 (.gl 2) H = some (eV 2) := fun H => hG
  refine e_id ?_
  refine eC hc ?_
  cases t
  · rw [show outR false p R = false from rfl, if_neg (by simp)]
    repeat' first
      | (with_reducible first | refine eT ?_ | refine eN ?_ | refine eS ?_ | refine eXn ?_ | refine eXr ?_ | refine eX ?_ | refine eI ?_ | refine eK ?_ | refine eV0 ?_ | refine eGtt ?_ | refine eGff ?_ | refine eGtf ?_ | refine eGft ?_ | refine eGno ?_)
      | ((with_reducible apply eCn); (simp only [nth_zero, nth_succ]; first | done | (with_reducible exact rfl)))
      | ((with_reducible apply eJ); (rfl))
      | ((with_reducible apply eB); (first | (with_reducible exact rfl) | (simp (disch := omega) only [qf, d1, d2, l1, l2]; first | done | (with_reducible exact rfl) | (with_reducible exact ⟨rfl, rfl⟩)) | (simp (disch := omega) only [qa, putC, AV.cells, storable, buildSt, fillA, buildRo, buildOwn, fillE, Nat.reduceLeDiff, Nat.reduceLT, Nat.reduceAdd, ↓reduceIte, d1, d2, l1, l2]; first | done | (with_reducible exact rfl) | (with_reducible exact ⟨rfl, rfl⟩))))
      | ((with_reducible apply eR); (simp only [nth_zero, nth_succ]; (with_reducible exact rfl)))
      | ((with_reducible first | refine sEql ?_ ?_ | refine sNeq ?_ ?_ | refine sLss ?_ ?_ | refine sLeq ?_ ?_ | refine sGtr ?_ ?_ | refine sGeq ?_ ?_ | refine sNot ?_ ?_ | refine sPick ?_ ?_ | refine sGd ?_ ?_ | refine eBool ?_ ?_) <;> intro hq <;> try subst hq)
    rfl
  · by_cases ho : p < 0 ∨ R ≤ p
    · have e : outR true p R = true := by unfold outR; rcases ho with h | h <;> simp [h]
      rw [if_pos e]
      repeat' first
        | (with_reducible first | refine eT ?_ | refine eN ?_ | refine eS ?_ | refine eXn ?_ | refine eXr ?_ | refine eX ?_ | refine eI ?_ | refine eK ?_ | refine eV0 ?_ | refine eGtt ?_ | refine eGff ?_ | refine eGtf ?_ | refine eGft ?_ | refine eGno ?_)
        | ((with_reducible apply eCn); (simp only [nth_zero, nth_succ]; first | done | (with_reducible exact rfl)))
        | ((with_reducible apply eJ); (rfl))
        | ((with_reducible apply eB); (first | (with_reducible exact rfl) | (simp (disch := omega) only [qf, d1, d2, l1, l2, l3]; first | done | (with_reducible exact rfl) | (with_reducible exact ⟨rfl, rfl⟩)) | (simp (disch := omega) only [qa, putC, AV.cells, storable, buildSt, fillA, buildRo, buildOwn, fillE, Nat.reduceLeDiff, Nat.reduceLT, Nat.reduceAdd, ↓reduceIte, d1, d2, l1, l2, l3]; first | done | (with_reducible exact rfl) | (with_reducible exact ⟨rfl, rfl⟩))))
        | ((with_reducible apply eR); (simp only [nth_zero, nth_succ]; (with_reducible exact rfl)))
        | ((with_reducible first | refine sEql ?_ ?_ | refine sNeq ?_ ?_ | refine sLss ?_ ?_ | refine sLeq ?_ ?_ | refine sGtr ?_ ?_ | refine sGeq ?_ ?_ | refine sNot ?_ ?_ | refine sPick ?_ ?_ | refine sGd ?_ ?_ | refine eBool ?_ ?_) <;> intro hq <;> try subst hq)
      all_goals first | rfl | omega
    · have e : outR true p R = false := by unfold outR; simp; omega
      rw [if_neg (by simp [e])]
      repeat' first
        | (with_reducible first | refine eT ?_ | refine eN ?_ | refine eS ?_ | refine eXn ?_ | refine eXr ?_ | refine eX ?_ | refine eI ?_ | refine eK ?_ | refine eV0 ?_ | refine eGtt ?_ | refine eGff ?_ | refine eGtf ?_ | refine eGft ?_ | refine eGno ?_)
        | ((with_reducible apply eCn); (simp only [nth_zero, nth_succ]; first | done | (with_reducible exact rfl)))
        | ((with_reducible apply eJ); (rfl))
        | ((with_reducible apply eB); (first | (with_reducible exact rfl) | (simp (disch := omega) only [qf, d1, d2, l1, l2, l3]; first | done | (with_reducible exact rfl) | (with_reducible exact ⟨rfl, rfl⟩)) | (simp (disch := omega) only [qa, putC, AV.cells, storable, buildSt, fillA, buildRo, buildOwn, fillE, Nat.reduceLeDiff, Nat.reduceLT, Nat.reduceAdd, ↓reduceIte, d1, d2, l1, l2, l3]; first | done | (with_reducible exact rfl) | (with_reducible exact ⟨rfl, rfl⟩))))
        | ((with_reducible apply eR); (simp only [nth_zero, nth_succ]; (with_reducible exact rfl)))
        | ((with_reducible first | refine sEql ?_ ?_ | refine sNeq ?_ ?_ | refine sLss ?_ ?_ | refine sLeq ?_ ?_ | refine sGtr ?_ ?_ | refine sGeq ?_ ?_ | refine sNot ?_ ?_ | refine sPick ?_ ?_ | refine sGd ?_ ?_ | refine eBool ?_ ?_) <;> intro hq <;> try subst hq)
      all_goals first | rfl | omega

theorem l6_end (cv : AV) (M : Int) (i : Ins) (f : Frm) (hcl : belowB 0 cv = true) (n : Nat) :
    loopN (words_one.l6 G k 1 self) (n + 1) (xs6 cv R M i f (4 : Nat)) [⟨113, 6, [frmV (wordF i.op) f]⟩] = some (.exit 0, xs6 cv R M i f (4 : Nat), [⟨113, 6, [frmV (wordF i.op) f]⟩]) := by
  rw [loopN_succ, words_one.l6]
  have hc : cutH 1 (xs6 cv R M i f (4 : Nat)) [⟨113, 6, [frmV (wordF i.op) f]⟩] = some [⟨113, 6, [frmV (wordF i.op) f]⟩] := by
    have := belowB_mono (Nat.zero_le 1) hcl
    simp [cutH, belowL, belowB, heapBelow, this, bsV, isV, Ins.v, instV, frmV]
  refine e_id ?_
  refine eC hc ?_
  repeat' first
    | (with_reducible first | refine eT ?_ | refine eN ?_ | refine eS ?_ | refine eXn ?_ | refine eXr ?_ | refine eX ?_ | refine eI ?_ | refine eK ?_ | refine eV0 ?_ | refine eGtt ?_ | refine eGff ?_ | refine eGtf ?_ | refine eGft ?_ | refine eGno ?_)
    | ((with_reducible apply eCn); (simp only [nth_zero, nth_succ]; first | done | (with_reducible exact rfl)))
    | ((with_reducible apply eJ); (rfl))
    | ((with_reducible apply eB); (first | (with_reducible exact rfl) | (simp (disch := omega) only [qa, putC, AV.cells, storable, buildSt, fillA, buildRo, buildOwn, fillE, Nat.reduceLeDiff, Nat.reduceLT, Nat.reduceAdd, ↓reduceIte]; first | done | (with_reducible exact rfl) | (with_reducible exact ⟨rfl, rfl⟩))))
    | ((with_reducible apply eR); (simp only [nth_zero, nth_succ]; (with_reducible exact rfl)))
    | ((with_reducible first | refine sEql ?_ ?_ | refine sNeq ?_ ?_ | refine sLss ?_ ?_ | refine sLeq ?_ ?_ | refine sGtr ?_ ?_ | refine sGeq ?_ ?_ | refine sNot ?_ ?_ | refine sPick ?_ ?_ | refine sGd ?_ ?_ | refine eBool ?_ ?_) <;> intro hq <;> try subst hq)
  rfl

/-- Is a register outside? -/
def out4 (f : Frm) (i : Ins) (R : Int) : Bool := outR f.d i.d R || outR f.a i.a R || outR f.b i.b R || outR f.c i.c R
/-- Is there what should not be? -/
def off5 (f : Frm) (i : Ins) : Bool := (!f.d && decide (i.d ≠ 0)) || (!f.a && decide (i.a ≠ 0)) || (!f.b && decide (i.b ≠ 0)) || (!f.c && decide (i.c ≠ 0)) || (!f.k && decide (i.k ≠ 0))

theorem l6_all (cv : AV) (M : Int) (i : Ins) (f : Frm) (hG : G 2 = some (eV 2)) (hcl : belowB 0 cv = true) (n : Nat) :
    (out4 f i R = true → ∃ j, loopN (words_one.l6 G k 1 self) (n + 5) (xs6 cv R M i f (0 : Nat)) [⟨113, 6, [frmV (wordF i.op) f]⟩] = some (.ret, [bxC cv R M, .rp false i.v 0, eV 2, bsV f, isV i, j], [⟨113, 6, [frmV (wordF i.op) f]⟩])) ∧
    (out4 f i R = false → loopN (words_one.l6 G k 1 self) (n + 5) (xs6 cv R M i f (0 : Nat)) [⟨113, 6, [frmV (wordF i.op) f]⟩] = some (.exit 0, xs6 cv R M i f (4 : Nat), [⟨113, 6, [frmV (wordF i.op) f]⟩])) := by
  rw [l6_round G k self R cv M i f 0 (by omega) f.d i.d rfl rfl hG hcl]
  rw [l6_round G k self R cv M i f 1 (by omega) f.a i.a rfl rfl hG hcl]
  rw [l6_round G k self R cv M i f 2 (by omega) f.b i.b rfl rfl hG hcl]
  rw [l6_round G k self R cv M i f 3 (by omega) f.c i.c rfl rfl hG hcl]
  rw [l6_end G k self R cv M i f hcl]
  unfold out4
  generalize outR f.d i.d R = o1
  generalize outR f.a i.a R = o2
  generalize outR f.b i.b R = o3
  generalize outR f.c i.c R = o4
  cases o1 <;> cases o2 <;> cases o3 <;> cases o4 <;> simp

abbrev xs12 (cv : AV) (R M : Int) (i : Ins) (f : Frm) (j : Int) : List AV := [bxC cv R M, .rp false i.v 0, .nili, isV i, bsV f, .int .i64 5, I6 j]
theorem l12_round (cv : AV) (M : Int) (i : Ins) (f : Frm) (j : Nat) (hj : j < 5) (t : Bool) (p : Int) (ht : [AV.bool f.d, .bool f.a, .bool f.b, .bool f.c, .bool f.k][j]? = some (.bool t)) (hp : [I6 i.d, I6 i.a, I6 i.b, I6 i.c, I6 i.k][j]? = some (I6 p))
    (hG : G 3 = some (eV 3)) (hcl : belowB 0 cv = true) (n : Nat) :
    loopN (words_one.l12 G k 1 self) (n + 1) (xs12 cv R M i f j) [⟨113, 6, [frmV (wordF i.op) f]⟩] =
      if (!t && decide (p ≠ 0)) = true then some (.ret, [bxC cv R M, .rp false i.v 0, eV 3, isV i, bsV f, .int .i64 5, I6 j], [⟨113, 6, [frmV (wordF i.op) f]⟩])
      else loopN (words_one.l12 G k 1 self) n (xs12 cv R M i f (j + 1 : Nat)) [⟨113, 6, [frmV (wordF i.op) f]⟩] := by
  rw [loopN_succ, words_one.l12]
  have hc : cutH 1 (xs12 cv R M i f j) [⟨113, 6, [frmV (wordF i.op) f]⟩] = some [⟨113, 6, [frmV (wordF i.op) f]⟩] := by
    have := belowB_mono (Nat.zero_le 1) hcl
    simp [cutH, belowL, belowB, heapBelow, this, bsV, isV, Ins.v, instV, frmV]
  have d1 : idxAddrSl 1 (bsV f) (I6 j) = some (.rp false (.bool t) 0) := idxRo1 ht rfl
  have d2 : idxAddrSl 1 (isV i) (I6 j) = some (.rp false (I6 p) 0) := idxRo1 hp rfl
  have l1 := @ldRpB G
  have l2 := @ldRpI G
  have l3 : ∀ H, loadV G false 1 (.gl 3) H = some (eV 3) := fun H => hG
  refine e_id ?_
  refine eC hc ?_
  cases t
  · by_cases ho : p ≠ 0
    · rw [if_pos (by simp [ho])]
      repeat' first
        | (with_reducible first | refine eT ?_ | refine eN ?_ | refine eS ?_ | refine eXn ?_ | refine eXr ?_ | refine eX ?_ | refine eI ?_ | refine eK ?_ | refine eV0 ?_ | refine eGtt ?_ | refine eGff ?_ | refine eGtf ?_ | refine eGft ?_ | refine eGno ?_)
        | ((with_reducible apply eCn); (simp only [nth_zero, nth_succ]; first | done | (with_reducible exact rfl)))
        | ((with_reducible apply eJ); (rfl))
        | ((with_reducible apply eB); (first | (with_reducible exact rfl) | (simp (disch := omega) only [qf, d1, d2, l1, l2, l3]; first | done | (with_reducible exact rfl) | (with_reducible exact ⟨rfl, rfl⟩)) | (simp (disch := omega) only [qa, putC, AV.cells, storable, buildSt, fillA, buildRo, buildOwn, fillE, Nat.reduceLeDiff, Nat.reduceLT, Nat.reduceAdd, ↓reduceIte, d1, d2, l1, l2, l3]; first | done | (with_reducible exact rfl) | (with_reducible exact ⟨rfl, rfl⟩))))
        | ((with_reducible apply eR); (simp only [nth_zero, nth_succ]; (with_reducible exact rfl)))
        | ((with_reducible first | refine sEql ?_ ?_ | refine sNeq ?_ ?_ | refine sLss ?_ ?_ | refine sLeq ?_ ?_ | refine sGtr ?_ ?_ | refine sGeq ?_ ?_ | refine sNot ?_ ?_ | refine sPick ?_ ?_ | refine sGd ?_ ?_ | refine eBool ?_ ?_) <;> intro hq <;> try subst hq)
      all_goals first | rfl | omega
    · rw [if_neg (by simp [ho])]
      repeat' first
        | (with_reducible first | refine eT ?_ | refine eN ?_ | refine eS ?_ | refine eXn ?_ | refine eXr ?_ | refine eX ?_ | refine eI ?_ | refine eK ?_ | refine eV0 ?_ | refine eGtt ?_ | refine eGff ?_ | refine eGtf ?_ | refine eGft ?_ | refine eGno ?_)
        | ((with_reducible apply eCn); (simp only [nth_zero, nth_succ]; first | done | (with_reducible exact rfl)))
        | ((with_reducible apply eJ); (rfl))
        | ((with_reducible apply eB); (first | (with_reducible exact rfl) | (simp (disch := omega) only [qf, d1, d2, l1, l2, l3]; first | done | (with_reducible exact rfl) | (with_reducible exact ⟨rfl, rfl⟩)) | (simp (disch := omega) only [qa, putC, AV.cells, storable, buildSt, fillA, buildRo, buildOwn, fillE, Nat.reduceLeDiff, Nat.reduceLT, Nat.reduceAdd, ↓reduceIte, d1, d2, l1, l2, l3]; first | done | (with_reducible exact rfl) | (with_reducible exact ⟨rfl, rfl⟩))))
        | ((with_reducible apply eR); (simp only [nth_zero, nth_succ]; (with_reducible exact rfl)))
        | ((with_reducible first | refine sEql ?_ ?_ | refine sNeq ?_ ?_ | refine sLss ?_ ?_ | refine sLeq ?_ ?_ | refine sGtr ?_ ?_ | refine sGeq ?_ ?_ | refine sNot ?_ ?_ | refine sPick ?_ ?_ | refine sGd ?_ ?_ | refine eBool ?_ ?_) <;> intro hq <;> try subst hq)
      all_goals first | rfl | omega
  · rw [if_neg (by simp)]
    repeat' first
      | (with_reducible first | refine eT ?_ | refine eN ?_ | refine eS ?_ | refine eXn ?_ | refine eXr ?_ | refine eX ?_ | refine eI ?_ | refine eK ?_ | refine eV0 ?_ | refine eGtt ?_ | refine eGff ?_ | refine eGtf ?_ | refine eGft ?_ | refine eGno ?_)
      | ((with_reducible apply eCn); (simp only [nth_zero, nth_succ]; first | done | (with_reducible exact rfl)))
      | ((with_reducible apply eJ); (rfl))
      | ((with_reducible apply eB); (first | (with_reducible exact rfl) | (simp (disch := omega) only [qf, d1, d2, l1, l2]; first | done | (with_reducible exact rfl) | (with_reducible exact ⟨rfl, rfl⟩)) | (simp (disch := omega) only [qa, putC, AV.cells, storable, buildSt, fillA, buildRo, buildOwn, fillE, Nat.reduceLeDiff, Nat.reduceLT, Nat.reduceAdd, ↓reduceIte, d1, d2, l1, l2]; first | done | (with_reducible exact rfl) | (with_reducible exact ⟨rfl, rfl⟩))))
      | ((with_reducible apply eR); (simp only [nth_zero, nth_succ]; (with_reducible exact rfl)))
      | ((with_reducible first | refine sEql ?_ ?_ | refine sNeq ?_ ?_ | refine sLss ?_ ?_ | refine sLeq ?_ ?_ | refine sGtr ?_ ?_ | refine sGeq ?_ ?_ | refine sNot ?_ ?_ | refine sPick ?_ ?_ | refine sGd ?_ ?_ | refine eBool ?_ ?_) <;> intro hq <;> try subst hq)
    rfl
theorem l12_end (cv : AV) (M : Int) (i : Ins) (f : Frm) (hcl : belowB 0 cv = true) (n : Nat) :
    loopN (words_one.l12 G k 1 self) (n + 1) (xs12 cv R M i f (5 : Nat)) [⟨113, 6, [frmV (wordF i.op) f]⟩] = some (.exit 2, xs12 cv R M i f (5 : Nat), [⟨113, 6, [frmV (wordF i.op) f]⟩]) := by
  rw [loopN_succ, words_one.l12]
  have hc : cutH 1 (xs12 cv R M i f (5 : Nat)) [⟨113, 6, [frmV (wordF i.op) f]⟩] = some [⟨113, 6, [frmV (wordF i.op) f]⟩] := by
    have := belowB_mono (Nat.zero_le 1) hcl
    simp [cutH, belowL, belowB, heapBelow, this, bsV, isV, Ins.v, instV, frmV]
  refine e_id ?_
  refine eC hc ?_
  repeat' first
    | (with_reducible first | refine eT ?_ | refine eN ?_ | refine eS ?_ | refine eXn ?_ | refine eXr ?_ | refine eX ?_ | refine eI ?_ | refine eK ?_ | refine eV0 ?_ | refine eGtt ?_ | refine eGff ?_ | refine eGtf ?_ | refine eGft ?_ | refine eGno ?_)
    | ((with_reducible apply eCn); (simp only [nth_zero, nth_succ]; first | done | (with_reducible exact rfl)))
    | ((with_reducible apply eJ); (rfl))
    | ((with_reducible apply eB); (first | (with_reducible exact rfl) | (simp (disch := omega) only [qa, putC, AV.cells, storable, buildSt, fillA, buildRo, buildOwn, fillE, Nat.reduceLeDiff, Nat.reduceLT, Nat.reduceAdd, ↓reduceIte]; first | done | (with_reducible exact rfl) | (with_reducible exact ⟨rfl, rfl⟩))))
    | ((with_reducible apply eR); (simp only [nth_zero, nth_succ]; (with_reducible exact rfl)))
    | ((with_reducible first | refine sEql ?_ ?_ | refine sNeq ?_ ?_ | refine sLss ?_ ?_ | refine sLeq ?_ ?_ | refine sGtr ?_ ?_ | refine sGeq ?_ ?_ | refine sNot ?_ ?_ | refine sPick ?_ ?_ | refine sGd ?_ ?_ | refine eBool ?_ ?_) <;> intro hq <;> try subst hq)
  rfl
theorem l12_all (cv : AV) (M : Int) (i : Ins) (f : Frm) (hG : G 3 = some (eV 3)) (hcl : belowB 0 cv = true) (n : Nat) :
    (off5 f i = true → ∃ j, loopN (words_one.l12 G k 1 self) (n + 6) (xs12 cv R M i f (0 : Nat)) [⟨113, 6, [frmV (wordF i.op) f]⟩] = some (.ret, [bxC cv R M, .rp false i.v 0, eV 3, isV i, bsV f, .int .i64 5, j], [⟨113, 6, [frmV (wordF i.op) f]⟩])) ∧
    (off5 f i = false → loopN (words_one.l12 G k 1 self) (n + 6) (xs12 cv R M i f (0 : Nat)) [⟨113, 6, [frmV (wordF i.op) f]⟩] = some (.exit 2, xs12 cv R M i f (5 : Nat), [⟨113, 6, [frmV (wordF i.op) f]⟩])) := by
  rw [l12_round G k self R cv M i f 0 (by omega) f.d i.d rfl rfl hG hcl]
  rw [l12_round G k self R cv M i f 1 (by omega) f.a i.a rfl rfl hG hcl]
  rw [l12_round G k self R cv M i f 2 (by omega) f.b i.b rfl rfl hG hcl]
  rw [l12_round G k self R cv M i f 3 (by omega) f.c i.c rfl rfl hG hcl]
  rw [l12_round G k self R cv M i f 4 (by omega) f.k i.k rfl rfl hG hcl]
  rw [l12_end G k self R cv M i f hcl]
  unfold off5
  generalize (!f.d && decide (i.d ≠ 0)) = o1
  generalize (!f.a && decide (i.a ≠ 0)) = o2
  generalize (!f.b && decide (i.b ≠ 0)) = o3
  generalize (!f.c && decide (i.c ≠ 0)) = o4
  generalize (!f.k && decide (i.k ≠ 0)) = o5
  cases o1 <;> cases o2 <;> cases o3 <;> cases o4 <;> cases o5 <;> simp
end

/-- What is amiss with an instruction: the error's number. -/
def oneF (i : Ins) (R n : Int) : Option Nat :=
  if (formF i.op).isSome = false then some 4
  else if out4 (frmD i.op) i R = true then some 2
  else if off5 (frmD i.op) i = true then some 3
  else if i.op = 10 ∨ i.op = 11 ∨ i.op = 12 then (if i.k < 0 ∨ 63 < i.k then some 2 else none)
  else if i.op = 20 then (if i.k < 0 ∨ 2 < i.k then some 2 else none)
  else if i.op = 15 ∨ i.op = 16 then (if i.k < 0 ∨ 65535 < i.k then some 2 else none)
  else if i.op = 17 ∨ i.op = 18 ∨ i.op = 19 then (if i.k < 0 ∨ n < i.k then some 5 else none)
  else none

def errA (o : Option Nat) : AV := match o with | some g => eV g | none => .nili

structure GOk (G : Globs) : Prop where
  g0 : G 0 = some (eV 0)
  g1 : G 1 = some (eV 1)
  g2 : G 2 = some (eV 2)
  g3 : G 3 = some (eV 3)
  g4 : G 4 = some (eV 4)
  g5 : G 5 = some (eV 5)

theorem w1e {x : AV} {o : Option Nat} {H : AHeap} (e : errA o = x) (hx : belowB 0 x = true) : E outV [] (finV [x] 0 H) (some (errA o, [])) := by subst e; exact oF (finV_zero hx H)
theorem eV_low (g n : Nat) : belowB n (eV g) = true := rfl

theorem one_spec {bor : Bool} (G : Globs) (hg : GOk G) (k : Nat) (cs : List Ins) (R M : Int) (i : Ins) :
    words_one.f G (k + 7) [cdV bor cs R M, i.v] [] = some (errA (oneF i R cs.length), []) := by
  rw [words_one.step]
  unfold words_one.c cdV
  have r1 : ∀ H, pureCall (words_Of.f G (k + 6)) [I6 i.op] H = _ := fun H => pureCall_of (H := H) (of_spec G (k + 2) i.op) rfl rfl
  have r2 : ∀ H, pureCall (words_has.f G (k + 6)) [i.v, frmV (wordF i.op) (frmD i.op)] H = _ := fun H => pureCall_of (H := H) (has_spec G (k + 5) i _ _) rfl rfl
  have b1 : ∀ H, boxRoA i.v H = some (.rp false i.v 0, H) := fun H => rfl
  have g0 : fieldAddrV 0 (.rp false i.v 0) = some (.rp false i.v 0) := rfl
  have g5 : fieldAddrV 5 (.rp false i.v 0) = some (.rp false i.v 5) := rfl
  have l0 : ∀ H, loadV G false 1 (.rp false i.v 0) H = some (I6 i.op) := fun H => rfl
  have l5 : ∀ H, loadV G false 1 (.rp false i.v 5) H = some (I6 i.k) := fun H => rfl
  have l6 : ∀ H, loadV G true 6 (.rp false i.v 0) H = some i.v := fun H => rfl
  have e2 : ∀ H, loadV G false 1 (.gl 2) H = some (eV 2) := fun H => hg.g2
  have e4 : ∀ H, loadV G false 1 (.gl 4) H = some (eV 4) := fun H => hg.g4
  have e5 : ∀ H, loadV G false 1 (.gl 5) H = some (eV 5) := fun H => hg.g5
  have st : stS (storeV 6 (.ptr 0 1 0 0) (frmV (wordF i.op) (frmD i.op)) [⟨113, 6, [.agg [(.str ⟨#[]⟩), (.bool false), (.bool false), (.bool false), (.bool false), (.bool false)]]⟩]) = some (.tup [], [⟨113, 6, [frmV (wordF i.op) (frmD i.op)]⟩]) := rfl
  have ld : loadV G true 6 (.ptr 0 1 0 0) [⟨113, 6, [frmV (wordF i.op) (frmD i.op)]⟩] = some (frmV (wordF i.op) (frmD i.op)) := rfl
  have lc : lenSl (.ro bor (codeV cs)) = some (I6 cs.length) := by simp [lenSl, codeV_len]
  have lb : lenSl (bsV (frmD i.op)) = some (.int .i64 5) := rfl
  have hcl : belowB 0 (.ro bor (codeV cs)) = true := by simp [belowB, codeV_below]
  obtain ⟨p1, p2⟩ := l6_all G (k + 6) (words_one.f G (k + 6)) R (.ro bor (codeV cs)) M i (frmD i.op) hg.g2 hcl (k + 1)
  obtain ⟨p3, p4⟩ := l12_all G (k + 6) (words_one.f G (k + 6)) R (.ro bor (codeV cs)) M i (frmD i.op) hg.g3 hcl k
  refine e_in ?_
  by_cases h0 : (formF i.op).isSome = false
  · have e : oneF i R cs.length = some 4 := by unfold oneF; rw [if_pos h0]
    rw [e]
    rw [h0] at r1
    repeat' first
      | (with_reducible first | refine eT ?_ | refine eN ?_ | refine eS ?_ | refine eXn ?_ | refine eXr ?_ | refine eX ?_ | refine eI ?_ | refine eK ?_ | refine eV0 ?_ | refine eGtt ?_ | refine eGff ?_ | refine eGtf ?_ | refine eGft ?_ | refine eGno ?_)
      | ((with_reducible apply eCn); (simp only [nth_zero, nth_succ]; first | done | (with_reducible exact rfl)))
      | ((with_reducible apply eJ); (rfl))
      | ((with_reducible apply eB); (first | (with_reducible exact rfl) | (simp (disch := omega) only [qf, r1, b1, g0, l0, st, e4]; first | done | (with_reducible exact rfl) | (with_reducible exact ⟨rfl, rfl⟩)) | (simp (disch := omega) only [qa, putC, AV.cells, storable, buildSt, fillA, buildRo, buildOwn, fillE, Nat.reduceLeDiff, Nat.reduceLT, Nat.reduceAdd, ↓reduceIte, r1, b1, g0, l0, st, e4]; first | done | (with_reducible exact rfl) | (with_reducible exact ⟨rfl, rfl⟩))))
      | ((with_reducible apply eR); (simp only [nth_zero, nth_succ]; (with_reducible exact rfl)))
      | ((with_reducible first | refine sEql ?_ ?_ | refine sNeq ?_ ?_ | refine sLss ?_ ?_ | refine sLeq ?_ ?_ | refine sGtr ?_ ?_ | refine sGeq ?_ ?_ | refine sNot ?_ ?_ | refine sPick ?_ ?_ | refine sGd ?_ ?_ | refine eBool ?_ ?_) <;> intro hq <;> try subst hq)
    exact w1e (by rfl) (by rfl)
  have h0' : (formF i.op).isSome = true := by
    cases hh : (formF i.op).isSome
    · exact absurd hh h0
    · rfl
  rw [h0'] at r1
  by_cases h1 : out4 (frmD i.op) i R = true
  · have e : oneF i R cs.length = some 2 := by unfold oneF; rw [if_neg h0, if_pos h1]
    rw [e]
    obtain ⟨j, p1⟩ := p1 h1
    clear p2 p3 p4
    unfold bxC at p1
    repeat' first
      | (with_reducible first | refine eT ?_ | refine eN ?_ | refine eS ?_ | refine eXn ?_ | refine eXr ?_ | refine eX ?_ | refine eI ?_ | refine eK ?_ | refine eV0 ?_ | refine eGtt ?_ | refine eGff ?_ | refine eGtf ?_ | refine eGft ?_ | refine eGno ?_)
      | ((with_reducible apply eCn); (simp only [nth_zero, nth_succ]; first | done | (with_reducible exact rfl)))
      | ((with_reducible apply eJ); (rfl))
      | ((with_reducible apply eL); (first | exact p1))
      | ((with_reducible apply eB); (first | (with_reducible exact rfl) | (simp (disch := omega) only [qf, r1, r2, b1, g0, l0, l6, st, ld, e2]; first | done | (with_reducible exact rfl) | (with_reducible exact ⟨rfl, rfl⟩)) | (simp (disch := omega) only [qa, putC, AV.cells, storable, buildSt, fillA, buildRo, buildOwn, fillE, Nat.reduceLeDiff, Nat.reduceLT, Nat.reduceAdd, ↓reduceIte, r1, r2, b1, g0, l0, l6, st, ld, e2]; first | done | (with_reducible exact rfl) | (with_reducible exact ⟨rfl, rfl⟩))))
      | ((with_reducible apply eR); (simp only [nth_zero, nth_succ]; (with_reducible exact rfl)))
      | ((with_reducible first | refine sEql ?_ ?_ | refine sNeq ?_ ?_ | refine sLss ?_ ?_ | refine sLeq ?_ ?_ | refine sGtr ?_ ?_ | refine sGeq ?_ ?_ | refine sNot ?_ ?_ | refine sPick ?_ ?_ | refine sGd ?_ ?_ | refine eBool ?_ ?_) <;> intro hq <;> try subst hq)
    exact w1e (by rfl) (by rfl)
  replace p2 := p2 (by simpa using h1)
  clear p1
  by_cases h2 : off5 (frmD i.op) i = true
  · have e : oneF i R cs.length = some 3 := by unfold oneF; rw [if_neg h0, if_neg h1, if_pos h2]
    rw [e]
    obtain ⟨j, p3⟩ := p3 h2
    clear p4
    repeat' first
      | (with_reducible first | refine eT ?_ | refine eN ?_ | refine eS ?_ | refine eXn ?_ | refine eXr ?_ | refine eX ?_ | refine eI ?_ | refine eK ?_ | refine eV0 ?_ | refine eGtt ?_ | refine eGff ?_ | refine eGtf ?_ | refine eGft ?_ | refine eGno ?_)
      | ((with_reducible apply eCn); (simp only [nth_zero, nth_succ]; first | done | (with_reducible exact rfl)))
      | ((with_reducible apply eJ); (rfl))
      | ((with_reducible apply eL); (first | exact p2 | exact p3))
      | ((with_reducible apply eB); (first | (with_reducible exact rfl) | (simp (disch := omega) only [qf, r1, r2, b1, g0, l0, l6, st, ld, e2, lb]; first | done | (with_reducible exact rfl) | (with_reducible exact ⟨rfl, rfl⟩)) | (simp (disch := omega) only [qa, putC, AV.cells, storable, buildSt, fillA, buildRo, buildOwn, fillE, Nat.reduceLeDiff, Nat.reduceLT, Nat.reduceAdd, ↓reduceIte, r1, r2, b1, g0, l0, l6, st, ld, e2, lb]; first | done | (with_reducible exact rfl) | (with_reducible exact ⟨rfl, rfl⟩))))
      | ((with_reducible apply eR); (simp only [nth_zero, nth_succ]; (with_reducible exact rfl)))
      | ((with_reducible first | refine sEql ?_ ?_ | refine sNeq ?_ ?_ | refine sLss ?_ ?_ | refine sLeq ?_ ?_ | refine sGtr ?_ ?_ | refine sGeq ?_ ?_ | refine sNot ?_ ?_ | refine sPick ?_ ?_ | refine sGd ?_ ?_ | refine eBool ?_ ?_) <;> intro hq <;> try subst hq)
    exact w1e (by rfl) (by rfl)
  replace p4 := p4 (by simpa using h2)
  clear p3
  have e : oneF i R cs.length = (if i.op = 10 ∨ i.op = 11 ∨ i.op = 12 then (if i.k < 0 ∨ 63 < i.k then some 2 else none)
  else if i.op = 20 then (if i.k < 0 ∨ 2 < i.k then some 2 else none)
  else if i.op = 15 ∨ i.op = 16 then (if i.k < 0 ∨ 65535 < i.k then some 2 else none)
  else if i.op = 17 ∨ i.op = 18 ∨ i.op = 19 then (if i.k < 0 ∨ (cs.length : Int) < i.k then some 5 else none)
  else none) := by unfold oneF; rw [if_neg h0, if_neg h1, if_neg h2]
  rw [e]
  clear e
  repeat' first
    | (with_reducible first | refine eT ?_ | refine eN ?_ | refine eS ?_ | refine eXn ?_ | refine eXr ?_ | refine eX ?_ | refine eI ?_ | refine eK ?_ | refine eV0 ?_ | refine eGtt ?_ | refine eGff ?_ | refine eGtf ?_ | refine eGft ?_ | refine eGno ?_)
    | ((with_reducible apply eCn); (simp only [nth_zero, nth_succ]; first | done | (with_reducible exact rfl)))
    | ((with_reducible apply eJ); (rfl))
    | ((with_reducible apply eL); (first | exact p2 | exact p4))
    | ((with_reducible apply eB); (first | (with_reducible exact rfl) | (simp (disch := omega) only [qf, r1, r2, b1, g0, g5, l0, l5, l6, st, ld, e2, e5, lb, lc]; first | done | (with_reducible exact rfl) | (with_reducible exact ⟨rfl, rfl⟩)) | (simp (disch := omega) only [qa, putC, AV.cells, storable, buildSt, fillA, buildRo, buildOwn, fillE, Nat.reduceLeDiff, Nat.reduceLT, Nat.reduceAdd, ↓reduceIte, r1, r2, b1, g0, g5, l0, l5, l6, st, ld, e2, e5, lb, lc]; first | done | (with_reducible exact rfl) | (with_reducible exact ⟨rfl, rfl⟩))))
    | ((with_reducible apply eR); (simp only [nth_zero, nth_succ]; (with_reducible exact rfl)))
    | ((with_reducible first | refine sEql ?_ ?_ | refine sNeq ?_ ?_ | refine sLss ?_ ?_ | refine sLeq ?_ ?_ | refine sGtr ?_ ?_ | refine sGeq ?_ ?_ | refine sNot ?_ ?_ | refine sPick ?_ ?_ | refine sGd ?_ ?_ | refine eBool ?_ ?_) <;> intro hq <;> try subst hq)
  all_goals (refine w1e ?_ (by rfl); (first | (with_reducible rfl) | ((try simp (disch := omega) only [if_pos, if_neg, if_true, if_false, ↓reduceIte, errA]) <;> first | done | rfl | omega)))
end Go.Proofs.YtcmblhedhgiofaaDoor.Mir
