/- Which programs of words may be: the document's. -/
import Derived.Test.YtcmblhedhgiofaaDoorWh
namespace Go.Proofs.YtcmblhedhgiofaaDoor.Mir
open Go
set_option linter.unusedVariables false
set_option linter.unusedSimpArgs false
set_option maxHeartbeats 4000000
set_option maxRecDepth 20000

/-- What kind of number an instruction has. -/
def kindF (op : Int) : Int :=
  if op = 1 then 1 else if 10 ≤ op ∧ op ≤ 12 then 2 else if op = 15 ∨ op = 16 then 3 else if op = 17 ∨ op = 18 ∨ op = 19 then 4 else if op = 20 then 5 else 0
def hvV (f : Frm) (n : Int) : AV := .agg [.bool f.d, .bool f.a, .bool f.b, .bool f.c, I6 n]

theorem kindF_none {op : Int} (h : ¬ (1 ≤ op ∧ op ≤ 20)) : kindF op = 0 := by
  unfold kindF
  repeat rw [if_neg (by omega)]
theorem rof_spec (G : Globs) (k : Nat) (op : Int) : alembicref17_of.f G (k + 1) [I6 op] [] = some (.tup [hvV (frmD op) (kindF op), .bool (formF op).isSome], []) := by
  by_cases h : 1 ≤ op ∧ op ≤ 20
  · rcases op20 h with rfl | rfl | rfl | rfl | rfl | rfl | rfl | rfl | rfl | rfl | rfl | rfl | rfl | rfl | rfl | rfl | rfl | rfl | rfl | rfl <;> kernel_rfl
  · rw [alembicref17_of.step]
    unfold alembicref17_of.c
    unfold frmD
    rw [formF_none h, kindF_none h]
    refine e_in ?_
    repeat' first
      | (with_reducible first | refine eT ?_ | refine eN ?_ | refine eS ?_ | refine eXn ?_ | refine eXr ?_ | refine eX ?_ | refine eI ?_ | refine eK ?_ | refine eV0 ?_ | refine eGtt ?_ | refine eGff ?_ | refine eGtf ?_ | refine eGft ?_ | refine eGno ?_)
      | ((with_reducible apply eCn); (simp only [nth_zero, nth_succ]; first | done | (with_reducible exact rfl)))
      | ((with_reducible apply eJ); (rfl))
      | ((with_reducible apply eB); (first | (with_reducible exact rfl) | (simp (disch := omega) only [qa, putC, AV.cells, storable, buildSt, fillA, buildRo, buildOwn, fillE, Nat.reduceLeDiff, Nat.reduceLT, Nat.reduceAdd, ↓reduceIte]; first | done | (with_reducible exact rfl) | (with_reducible exact ⟨rfl, rfl⟩))))
      | ((with_reducible apply eR); (simp only [nth_zero, nth_succ]; (with_reducible exact rfl)))
      | ((with_reducible first | refine sEql ?_ ?_ | refine sNeq ?_ ?_ | refine sLss ?_ ?_ | refine sLeq ?_ ?_ | refine sGtr ?_ ?_ | refine sGeq ?_ ?_ | refine sNot ?_ ?_ | refine sPick ?_ ?_ | refine sGd ?_ ?_ | refine eBool ?_ ?_) <;> intro hq <;> try subst hq)
    all_goals first | omega | (refine e_out ?_; rfl)

theorem outside_spec (G : Globs) (k : Nat) (t : Bool) (r R : Int) : alembicref17_outside.f G (k + 1) [.bool t, I6 r, I6 R] [] = some (.bool (outR t r R), []) := by
  rw [alembicref17_outside.step]
  unfold alembicref17_outside.c
  refine e_in ?_
  cases t
  · repeat' first
      | (with_reducible first | refine eT ?_ | refine eN ?_ | refine eS ?_ | refine eXn ?_ | refine eXr ?_ | refine eX ?_ | refine eI ?_ | refine eK ?_ | refine eV0 ?_ | refine eGtt ?_ | refine eGff ?_ | refine eGtf ?_ | refine eGft ?_ | refine eGno ?_)
      | ((with_reducible apply eCn); (simp only [nth_zero, nth_succ]; first | done | (with_reducible exact rfl)))
      | ((with_reducible apply eJ); (rfl))
      | ((with_reducible apply eB); (first | (with_reducible exact rfl) | (simp (disch := omega) only [qa, putC, AV.cells, storable, buildSt, fillA, buildRo, buildOwn, fillE, Nat.reduceLeDiff, Nat.reduceLT, Nat.reduceAdd, ↓reduceIte]; first | done | (with_reducible exact rfl) | (with_reducible exact ⟨rfl, rfl⟩))))
      | ((with_reducible apply eR); (simp only [nth_zero, nth_succ]; (with_reducible exact rfl)))
      | ((with_reducible first | refine sEql ?_ ?_ | refine sNeq ?_ ?_ | refine sLss ?_ ?_ | refine sLeq ?_ ?_ | refine sGtr ?_ ?_ | refine sGeq ?_ ?_ | refine sNot ?_ ?_ | refine sPick ?_ ?_ | refine sGd ?_ ?_ | refine eBool ?_ ?_) <;> intro hq <;> try subst hq)
    exact w1b rfl
  · repeat' first
      | (with_reducible first | refine eT ?_ | refine eN ?_ | refine eS ?_ | refine eXn ?_ | refine eXr ?_ | refine eX ?_ | refine eI ?_ | refine eK ?_ | refine eV0 ?_ | refine eGtt ?_ | refine eGff ?_ | refine eGtf ?_ | refine eGft ?_ | refine eGno ?_)
      | ((with_reducible apply eCn); (simp only [nth_zero, nth_succ]; first | done | (with_reducible exact rfl)))
      | ((with_reducible apply eJ); (rfl))
      | ((with_reducible apply eB); (first | (with_reducible exact rfl) | (simp (disch := omega) only [qa, putC, AV.cells, storable, buildSt, fillA, buildRo, buildOwn, fillE, Nat.reduceLeDiff, Nat.reduceLT, Nat.reduceAdd, ↓reduceIte]; first | done | (with_reducible exact rfl) | (with_reducible exact ⟨rfl, rfl⟩))))
      | ((with_reducible apply eR); (simp only [nth_zero, nth_succ]; (with_reducible exact rfl)))
      | ((with_reducible first | refine sEql ?_ ?_ | refine sNeq ?_ ?_ | refine sLss ?_ ?_ | refine sLeq ?_ ?_ | refine sGtr ?_ ?_ | refine sGeq ?_ ?_ | refine sNot ?_ ?_ | refine sPick ?_ ?_ | refine sGd ?_ ?_ | refine eBool ?_ ?_) <;> intro hq <;> try subst hq)
    all_goals (refine w1b ?_; unfold outR; simp; omega)

def inK (n m : Int) : Bool := decide (0 ≤ n) && decide (n < m)
theorem within_spec (G : Globs) (k : Nat) (n m : Int) : alembicref17_within.f G (k + 1) [I6 n, I6 m] [] = some (.bool (inK n m), []) := by
  rw [alembicref17_within.step]
  unfold alembicref17_within.c
  refine e_in ?_
  repeat' first
    | (with_reducible first | refine eT ?_ | refine eN ?_ | refine eS ?_ | refine eXn ?_ | refine eXr ?_ | refine eX ?_ | refine eI ?_ | refine eK ?_ | refine eV0 ?_ | refine eGtt ?_ | refine eGff ?_ | refine eGtf ?_ | refine eGft ?_ | refine eGno ?_)
    | ((with_reducible apply eCn); (simp only [nth_zero, nth_succ]; first | done | (with_reducible exact rfl)))
    | ((with_reducible apply eJ); (rfl))
    | ((with_reducible apply eB); (first | (with_reducible exact rfl) | (simp (disch := omega) only [qa, putC, AV.cells, storable, buildSt, fillA, buildRo, buildOwn, fillE, Nat.reduceLeDiff, Nat.reduceLT, Nat.reduceAdd, ↓reduceIte]; first | done | (with_reducible exact rfl) | (with_reducible exact ⟨rfl, rfl⟩))))
    | ((with_reducible apply eR); (simp only [nth_zero, nth_succ]; (with_reducible exact rfl)))
    | ((with_reducible first | refine sEql ?_ ?_ | refine sNeq ?_ ?_ | refine sLss ?_ ?_ | refine sLeq ?_ ?_ | refine sGtr ?_ ?_ | refine sGeq ?_ ?_ | refine sNot ?_ ?_ | refine sPick ?_ ?_ | refine sGd ?_ ?_ | refine eBool ?_ ?_) <;> intro hq <;> try subst hq)
  all_goals (refine w1b ?_; unfold inK; simp; omega)

/-- A fault. -/
def ftV (c : Int) (p : Bool) (j : Int) : AV := .agg [I6 c, .bool p, I6 j]
theorem Bare_spec (G : Globs) (k : Nat) (c : Int) : alembicref_Bare.f G (k + 1) [I6 c] [] = some (ftV c false 0, []) := by kernel_rfl
theorem None_spec (G : Globs) (k : Nat) : alembicref_None.f G (k + 1) [] [] = some (ftV 0 false 0, []) := by kernel_rfl
theorem Placed_spec (G : Globs) (k : Nat) (c j : Int) (hc : c ≠ 0) : alembicref_Placed.f G (k + 2) [I6 c, I6 j] [] = some (ftV c true j, []) := by
  rw [alembicref_Placed.step]
  unfold alembicref_Placed.c
  refine e_in ?_
  repeat' first
    | (with_reducible first | refine eT ?_ | refine eN ?_ | refine eS ?_ | refine eXn ?_ | refine eXr ?_ | refine eX ?_ | refine eI ?_ | refine eK ?_ | refine eV0 ?_ | refine eGtt ?_ | refine eGff ?_ | refine eGtf ?_ | refine eGft ?_ | refine eGno ?_)
    | ((with_reducible apply eCn); (simp only [nth_zero, nth_succ]; first | done | (with_reducible exact rfl)))
    | ((with_reducible apply eJ); (rfl))
    | ((with_reducible apply eB); (first | (with_reducible exact rfl) | (simp (disch := omega) only [qa, putC, AV.cells, storable, buildSt, fillA, buildRo, buildOwn, fillE, Nat.reduceLeDiff, Nat.reduceLT, Nat.reduceAdd, ↓reduceIte]; first | done | (with_reducible exact rfl) | (with_reducible exact ⟨rfl, rfl⟩))))
    | ((with_reducible apply eR); (simp only [nth_zero, nth_succ]; (with_reducible exact rfl)))
    | ((with_reducible first | refine sEql ?_ ?_ | refine sNeq ?_ ?_ | refine sLss ?_ ?_ | refine sLeq ?_ ?_ | refine sGtr ?_ ?_ | refine sGeq ?_ ?_ | refine sNot ?_ ?_ | refine sPick ?_ ?_ | refine sGd ?_ ?_ | refine eBool ?_ ?_) <;> intro hq <;> try subst hq)
  refine e_out ?_
  rfl

/-- The document's number of an error. -/
def codE (e : Nat) : Int := if e = 0 then 103 else if e = 1 then 102 else if e = 2 then 101 else if e = 3 then 104 else if e = 4 then 106 else 109
def codO (o : Option Nat) : Int := match o with | some e => codE e | none => 0

/-- What is amiss, by what it has, and by its kind of number. -/
def oneK (f : Frm) (kd : Int) (i : Ins) (R n : Int) : Option Nat :=
  if out4 f i R = true then some 2
  else if off5 f i = true then some 3
  else if kd = 2 then (if inK i.k 64 = true then none else some 2)
  else if kd = 5 then (if inK i.k 3 = true then none else some 2)
  else if kd = 3 then (if inK i.k 65536 = true then none else some 2)
  else if kd = 4 then (if inK i.k (n + 1) = true then none else some 5)
  else none

theorem oneF_kind (i : Ins) (R n : Int) (h : 1 ≤ i.op ∧ i.op ≤ 20) : oneF i R n = oneK (frmD i.op) (kindF i.op) i R n := by
  have e : ∀ m : Int, inK i.k m = true ↔ ¬ (i.k < 0 ∨ m - 1 < i.k) := fun m => by unfold inK; simp; omega
  unfold oneF oneK
  have hs : (formF i.op).isSome = true := by
    rcases op20 h with h | h | h | h | h | h | h | h | h | h | h | h | h | h | h | h | h | h | h | h <;> rw [h] <;> rfl
  rw [hs]
  simp only [Bool.true_eq_false, if_false]
  by_cases h1 : out4 (frmD i.op) i R = true
  · rw [if_pos h1, if_pos h1]
  rw [if_neg h1, if_neg h1]
  by_cases h2 : off5 (frmD i.op) i = true
  · rw [if_pos h2, if_pos h2]
  rw [if_neg h2, if_neg h2]
  simp only [e]
  clear hs h1 h2 e
  rcases op20 h with h | h | h | h | h | h | h | h | h | h | h | h | h | h | h | h | h | h | h | h <;> rw [h] <;> simp [kindF] <;> (split <;> (try split) <;> first | rfl | omega)

inductive Cls : Frm → Int → Prop
  | c1 : Cls ⟨true, false, false, false, true⟩ 1
  | c2 : Cls ⟨true, true, false, false, false⟩ 0
  | c3 : Cls ⟨true, true, true, false, false⟩ 0
  | c4 : Cls ⟨true, true, false, false, true⟩ 2
  | c5 : Cls ⟨true, true, true, true, false⟩ 0
  | c6 : Cls ⟨true, true, false, false, true⟩ 3
  | c7 : Cls ⟨false, true, true, false, true⟩ 3
  | c8 : Cls ⟨false, false, false, false, true⟩ 4
  | c9 : Cls ⟨false, true, false, false, true⟩ 4
  | c10 : Cls ⟨false, false, false, false, true⟩ 5

theorem cls_of {op : Int} (h : 1 ≤ op ∧ op ≤ 20) : Cls (frmD op) (kindF op) ∧ (formF op).isSome = true := by
  rcases op20 h with h | h | h | h | h | h | h | h | h | h | h | h | h | h | h | h | h | h | h | h <;> rw [h] <;> exact ⟨by constructor, rfl⟩

section
variable (G : Globs) (k : Nat) (self : Den) (cs : List Ins) (R M : Int)
abbrev f0 : AV := ftV 0 false 0
abbrev xsR (cs : List Ins) (R M : Int) (j : Int) : List AV := [bxC (.ro false (codeV cs)) R M, .ptr 0 1 0 0, I6 j]
abbrev hp3 (x : AV) (i : Ins) (f : Frm) (kd : Int) : AHeap := [⟨29, 3, [x]⟩, ⟨52, 6, [i.v]⟩, ⟨79, 5, [hvV f kd]⟩]

theorem rv_round (lp : LoopF) (i : Ins) (j : Nat) (hj : j < cs.length) (hl : cs.length ≤ 1000000) (hi : cs.getD j default = i) (H : AHeap) (hH : H.take 1 = [⟨29, 3, [f0]⟩]) :
    alembicref17_Valid.l4 G (k + 2) 1 self lp (xsR cs R M j) H =
      match oneF i R cs.length with
      | some e => some (.ret, xsR cs R M j, hp3 (ftV (codE e) true j) i (frmD i.op) (kindF i.op))
      | none => lp (xsR cs R M (j + 1 : Nat)) (hp3 f0 i (frmD i.op) (kindF i.op)) := by
  rw [alembicref17_Valid.l4]
  have hc : cutH 1 (xsR cs R M j) H = some [⟨29, 3, [f0]⟩] := by
    unfold cutH
    rw [hH]
    simp [belowL, belowB, heapBelow, codeV_below, ftV]
  have q : bin Tryd.prog .lss 3 false (Nn j) (Nn cs.length) = some (.bool true) := by rw [bin_lss, decide_eq_true (by omega)]
  have q1 : bin Tryd.prog .add 3 true (Nn j) (.int .i64 1) = some (Nn (j + 1)) := by
    rw [bin_add, wrap_of_i64 (by omega) (by omega)]; congr 2
  have d1 := insAt false cs j hj
  rw [hi] at d1
  have lc : lenSl (.ro false (codeV cs)) = some (I6 cs.length) := by simp [lenSl, codeV_len]
  have r1 : ∀ H, pureCall (alembicref17_of.f G (k + 2)) [I6 i.op] H = _ := fun H => pureCall_of (H := H) (rof_spec G (k + 1) i.op) rfl rfl
  have r2 : ∀ t r R H, pureCall (alembicref17_outside.f G (k + 2)) [.bool t, I6 r, I6 R] H = _ := fun t r R H => pureCall_of (H := H) (outside_spec G (k + 1) t r R) rfl rfl
  have r3 : ∀ n m H, pureCall (alembicref17_within.f G (k + 2)) [I6 n, I6 m] H = _ := fun n m H => pureCall_of (H := H) (within_spec G (k + 1) n m) rfl rfl
  have r4 : ∀ c H, c ≠ 0 → pureCall (alembicref_Placed.f G (k + 2)) [I6 c, Nn j] H = _ := fun c H hc => pureCall_of (H := H) (Placed_spec G k c j hc) rfl rfl
  refine e_id ?_
  refine eC hc ?_
  have b2 : ∀ b y, stS (storeV 5 (.ptr 2 1 0 0) (hvV b y) [⟨29, 3, [f0]⟩, ⟨52, 6, [i.v]⟩, ⟨79, 5, [.agg [(.bool false), (.bool false), (.bool false), (.bool false), (.int .i64 0)]]⟩]) = some (.tup [], [⟨29, 3, [f0]⟩, ⟨52, 6, [i.v]⟩, ⟨79, 5, [hvV b y]⟩]) := fun b y => rfl
  have b1 : stS (storeV 6 (.ptr 1 1 0 0) i.v [⟨29, 3, [f0]⟩, ⟨52, 6, [.agg [.int .i64 0, .int .i64 0, .int .i64 0, .int .i64 0, .int .i64 0, .int .i64 0]]⟩]) = some (.tup [], [⟨29, 3, [f0]⟩, ⟨52, 6, [i.v]⟩]) := rfl
  have b3 : ∀ y l, stS (storeV 3 (.ptr 0 1 0 0) (ftV y true j) (⟨29, 3, [f0]⟩ :: l)) = some (.tup [], ⟨29, 3, [ftV y true j]⟩ :: l) := fun y l => rfl
  have d2 : ∀ H, loadV G true 6 (.rp false i.v 0) H = some i.v := fun H => rfl
  have i0 : ∀ l, loadV G false 1 (.ptr 1 1 0 0) (⟨29, 3, [f0]⟩ :: ⟨52, 6, [i.v]⟩ :: l) = some (I6 i.op) := fun l => rfl
  have i1 : ∀ l, loadV G false 1 (.ptr 1 1 0 1) (⟨29, 3, [f0]⟩ :: ⟨52, 6, [i.v]⟩ :: l) = some (I6 i.d) := fun l => rfl
  have i2 : ∀ l, loadV G false 1 (.ptr 1 1 0 2) (⟨29, 3, [f0]⟩ :: ⟨52, 6, [i.v]⟩ :: l) = some (I6 i.a) := fun l => rfl
  have i3 : ∀ l, loadV G false 1 (.ptr 1 1 0 3) (⟨29, 3, [f0]⟩ :: ⟨52, 6, [i.v]⟩ :: l) = some (I6 i.b) := fun l => rfl
  have i4 : ∀ l, loadV G false 1 (.ptr 1 1 0 4) (⟨29, 3, [f0]⟩ :: ⟨52, 6, [i.v]⟩ :: l) = some (I6 i.c) := fun l => rfl
  have i5 : ∀ l, loadV G false 1 (.ptr 1 1 0 5) (⟨29, 3, [f0]⟩ :: ⟨52, 6, [i.v]⟩ :: l) = some (I6 i.k) := fun l => rfl
  have h0 : ∀ f kd l, loadV G false 1 (.ptr 2 1 0 0) (⟨29, 3, [f0]⟩ :: ⟨52, 6, [i.v]⟩ :: ⟨79, 5, [hvV f kd]⟩ :: l) = some (.bool f.d) := fun f kd l => rfl
  have h1 : ∀ f kd l, loadV G false 1 (.ptr 2 1 0 1) (⟨29, 3, [f0]⟩ :: ⟨52, 6, [i.v]⟩ :: ⟨79, 5, [hvV f kd]⟩ :: l) = some (.bool f.a) := fun f kd l => rfl
  have h2 : ∀ f kd l, loadV G false 1 (.ptr 2 1 0 2) (⟨29, 3, [f0]⟩ :: ⟨52, 6, [i.v]⟩ :: ⟨79, 5, [hvV f kd]⟩ :: l) = some (.bool f.b) := fun f kd l => rfl
  have h3 : ∀ f kd l, loadV G false 1 (.ptr 2 1 0 3) (⟨29, 3, [f0]⟩ :: ⟨52, 6, [i.v]⟩ :: ⟨79, 5, [hvV f kd]⟩ :: l) = some (.bool f.c) := fun f kd l => rfl
  have h4 : ∀ f kd l, loadV G false 1 (.ptr 2 1 0 4) (⟨29, 3, [f0]⟩ :: ⟨52, 6, [i.v]⟩ :: ⟨79, 5, [hvV f kd]⟩ :: l) = some (I6 kd) := fun f kd l => rfl
  by_cases h20 : 1 ≤ i.op ∧ i.op ≤ 20
  · rw [oneF_kind i R cs.length h20]
    obtain ⟨hcl, hs⟩ := cls_of h20
    rw [hs] at r1
    generalize hfd : frmD i.op = f at *
    generalize hkd : kindF i.op = kd at *
    have o0 : ∀ r R, outR false r R = false := fun r R => rfl
    have o1 := r2 true i.d R
    have o2 := r2 true i.a R
    have o3 := r2 true i.b R
    have o4 := r2 true i.c R
    have n0 := r2 false
    simp only [o0] at n0
    have w1 := r3 i.k 64
    have w2 := r3 i.k 3
    have w3 := r3 i.k 65536
    have w4 := r3 i.k (cs.length + 1)
    unfold oneK out4 off5
    clear r2 r3
    cases hcl
    all_goals (
      simp only [o0]
      generalize outR true i.d R = z1 at *
      generalize outR true i.a R = z2 at *
      generalize outR true i.b R = z3 at *
      generalize outR true i.c R = z4 at *
      generalize inK i.k 64 = z5 at *
      generalize inK i.k 3 = z6 at *
      generalize inK i.k 65536 = z7 at *
      generalize inK i.k (cs.length + 1) = z8 at *
      clear hfd hkd hs h20)
    all_goals (
      repeat' first
        | (with_reducible first | refine eT ?_ | refine eN ?_ | refine eS ?_ | refine eXn ?_ | refine eXr ?_ | refine eX ?_ | refine eI ?_ | refine eK ?_ | refine eV0 ?_ | refine eGtt ?_ | refine eGff ?_ | refine eGtf ?_ | refine eGft ?_ | refine eGno ?_)
        | ((with_reducible apply eCn); (simp only [nth_zero, nth_succ]; first | done | (with_reducible exact rfl)))
        | ((with_reducible apply eJ); (rfl))
        | ((with_reducible apply eB); (first | (with_reducible exact rfl) | (simp (disch := omega) only [qf, q, q1, d1, lc, r1, r4, b1, b2, b3, d2, i0, i1, i2, i3, i4, i5, h0, h1, h2, h3, h4, o1, o2, o3, o4, n0, w1, w2, w3, w4]; first | done | (with_reducible exact rfl) | (with_reducible exact ⟨rfl, rfl⟩)) | (simp (disch := omega) only [qa, putC, AV.cells, storable, buildSt, fillA, buildRo, buildOwn, fillE, Nat.reduceLeDiff, Nat.reduceLT, Nat.reduceAdd, ↓reduceIte, q, q1, d1, lc, r1, r4, b1, b2, b3, d2, i0, i1, i2, i3, i4, i5, h0, h1, h2, h3, h4, o1, o2, o3, o4, n0, w1, w2, w3, w4]; first | done | (with_reducible exact rfl) | (with_reducible exact ⟨rfl, rfl⟩))))
        | ((with_reducible apply eR); (simp only [nth_zero, nth_succ]; (with_reducible exact rfl)))
        | ((with_reducible first | refine sEql ?_ ?_ | refine sNeq ?_ ?_ | refine sLss ?_ ?_ | refine sLeq ?_ ?_ | refine sGtr ?_ ?_ | refine sGeq ?_ ?_ | refine sNot ?_ ?_ | refine sPick ?_ ?_ | refine sGd ?_ ?_ | refine eBool ?_ ?_) <;> intro hq <;> try subst hq)
      all_goals (refine e_out ?_; (try simp (disch := omega) only [Bool.not_true, Bool.not_false, Bool.true_and, Bool.false_and, Bool.false_or, Bool.or_false, Bool.or_true, Bool.true_or, Bool.or_eq_true, decide_eq_true_eq, ne_eq, Bool.false_eq_true, Bool.true_eq_false, false_or, or_false, true_or, or_true, if_pos, if_neg, if_true, if_false, ↓reduceIte]); first | rfl | omega))
  · have hs : formF i.op = none := formF_none h20
    have e : oneF i R cs.length = some 4 := by unfold oneF; rw [hs]; rfl
    rw [e]
    rw [hs] at r1
    simp only [Option.isSome_none] at r1
    repeat' first
      | (with_reducible first | refine eT ?_ | refine eN ?_ | refine eS ?_ | refine eXn ?_ | refine eXr ?_ | refine eX ?_ | refine eI ?_ | refine eK ?_ | refine eV0 ?_ | refine eGtt ?_ | refine eGff ?_ | refine eGtf ?_ | refine eGft ?_ | refine eGno ?_)
      | ((with_reducible apply eCn); (simp only [nth_zero, nth_succ]; first | done | (with_reducible exact rfl)))
      | ((with_reducible apply eJ); (rfl))
      | ((with_reducible apply eB); (first | (with_reducible exact rfl) | (simp (disch := omega) only [qf, q, q1, d1, lc, r1, r4, b1, b2, b3, d2, i0]; first | done | (with_reducible exact rfl) | (with_reducible exact ⟨rfl, rfl⟩)) | (simp (disch := omega) only [qa, putC, AV.cells, storable, buildSt, fillA, buildRo, buildOwn, fillE, Nat.reduceLeDiff, Nat.reduceLT, Nat.reduceAdd, ↓reduceIte, q, q1, d1, lc, r1, r4, b1, b2, b3, d2, i0]; first | done | (with_reducible exact rfl) | (with_reducible exact ⟨rfl, rfl⟩))))
      | ((with_reducible apply eR); (simp only [nth_zero, nth_succ]; (with_reducible exact rfl)))
      | ((with_reducible first | refine sEql ?_ ?_ | refine sNeq ?_ ?_ | refine sLss ?_ ?_ | refine sLeq ?_ ?_ | refine sGtr ?_ ?_ | refine sGeq ?_ ?_ | refine sNot ?_ ?_ | refine sPick ?_ ?_ | refine sGd ?_ ?_ | refine eBool ?_ ?_) <;> intro hq <;> try subst hq)
    refine e_out ?_
    rfl
end
end Go.Proofs.YtcmblhedhgiofaaDoor.Mir
