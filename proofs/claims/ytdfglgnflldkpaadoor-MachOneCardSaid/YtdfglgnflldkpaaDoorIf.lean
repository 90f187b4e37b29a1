/- The document's: which instructions may be. -/
import Derived.Test.YtdfglgnflldkpaaDoorIe
namespace Go.Proofs.YtdfglgnflldkpaaDoor.Mir
open Go
set_option linter.unusedVariables false
set_option linter.unusedSimpArgs false
set_option maxHeartbeats 8000000
set_option maxRecDepth 20000

theorem finL_one {x : AV} {H : AHeap} (hx : belowB 0 x = true) {m : Option AV} (hm : m = some x) : finL [m] 0 H = some (.ret, [x], []) := by
  subst hm
  unfold finL
  exact finV_zero hx H
def partsV (f : Form) : AV := .agg [.bool f.d, .bool f.n, .bool f.m, .bool f.a, I6 f.b]
theorem parts_spec (G : Globs) (k : Nat) (op : Int) : alembicref17_partsOf.f G (k + 4) [I6 op] [] = some (partsV (formF op), []) := by
  by_cases h : 1 ≤ op ∧ op ≤ 24
  · rcases op24 h with rfl | rfl | rfl | rfl | rfl | rfl | rfl | rfl | rfl | rfl | rfl | rfl | rfl | rfl | rfl | rfl | rfl | rfl | rfl | rfl | rfl | rfl | rfl | rfl <;> (clear h; show _ = _; kernel_rfl)
  · rw [formF_none h, alembicref17_partsOf.step]
    unfold alembicref17_partsOf.c
    refine e_in ?_
    repeat' first
      | (with_reducible first | refine eT ?_ | refine eN ?_ | refine eS ?_ | refine eXn ?_ | refine eXr ?_ | refine eX ?_ | refine eI ?_ | refine eK ?_ | refine eV0 ?_ | refine eGr0 ?_ | refine eGtt ?_ | refine eGff ?_ | refine eGtf ?_ | refine eGft ?_ | refine eGno ?_)
      | ((with_reducible apply eCn); (simp only [nth_zero, nth_succ]; first | done | (with_reducible exact rfl)))
      | ((with_reducible apply eJ); (rfl))
      | ((with_reducible apply eGr1); (first | rfl | (simp only [nth_zero, nth_succ]; rfl)))
      | ((with_reducible apply eB); (first | (with_reducible exact rfl) | (simp (disch := omega) only [qa, putC, AV.cells, storable, buildSt, fillA, buildRo, buildOwn, fillE, Nat.reduceLeDiff, Nat.reduceLT, Nat.reduceAdd, ↓reduceIte]; first | done | (with_reducible exact rfl) | (with_reducible exact ⟨rfl, rfl⟩))))
      | ((with_reducible apply eR); (simp only [nth_zero, nth_succ]; (with_reducible exact rfl)))
      | ((with_reducible first | refine sEql ?_ ?_ | refine sNeq ?_ ?_ | refine sLss ?_ ?_ | refine sLeq ?_ ?_ | refine sGtr ?_ ?_ | refine sGeq ?_ ?_ | refine sNot ?_ ?_ | refine sPick ?_ ?_ | refine sGd ?_ ?_ | refine eBool ?_ ?_) <;> intro hq <;> try subst hq)
    all_goals first | omega | exact oF (finL_one (x := partsV ⟨⟨#[]⟩, 0, false, false, false, false, 0⟩) rfl rfl)

theorem rreg_spec (G : Globs) (k : Nat) (r : Int) (is : Bool) : alembicref17_reg.f G (k + 1) [I6 r, .bool is] [] = some (.bool (regB r is), []) := by
  rw [alembicref17_reg.step]
  unfold alembicref17_reg.c regB
  refine e_in ?_
  cases is
  all_goals (
    repeat' first
      | (with_reducible first | refine eT ?_ | refine eN ?_ | refine eS ?_ | refine eXn ?_ | refine eXr ?_ | refine eX ?_ | refine eI ?_ | refine eK ?_ | refine eV0 ?_ | refine eGr0 ?_ | refine eGtt ?_ | refine eGff ?_ | refine eGtf ?_ | refine eGft ?_ | refine eGno ?_)
      | ((with_reducible apply eCn); (simp only [nth_zero, nth_succ]; first | done | (with_reducible exact rfl)))
      | ((with_reducible apply eJ); (rfl))
      | ((with_reducible apply eGr1); (first | rfl | (simp only [nth_zero, nth_succ]; rfl)))
      | ((with_reducible apply eB); (first | (with_reducible exact rfl) | (simp (disch := omega) only [qa, putC, AV.cells, storable, buildSt, fillA, buildRo, buildOwn, fillE, Nat.reduceLeDiff, Nat.reduceLT, Nat.reduceAdd, ↓reduceIte]; first | done | (with_reducible exact rfl) | (with_reducible exact ⟨rfl, rfl⟩))))
      | ((with_reducible apply eR); (simp only [nth_zero, nth_succ]; (with_reducible exact rfl)))
      | ((with_reducible first | refine sEql ?_ ?_ | refine sNeq ?_ ?_ | refine sLss ?_ ?_ | refine sLeq ?_ ?_ | refine sGtr ?_ ?_ | refine sGeq ?_ ?_ | refine sNot ?_ ?_ | refine sPick ?_ ?_ | refine sGd ?_ ?_ | refine eBool ?_ ?_) <;> intro hq <;> try subst hq)
    all_goals (refine w1b ?_; simp; try omega))

theorem rcond_spec (G : Globs) (k : Nat) (n : Int) : alembicref17_cond.f G (k + 1) [I6 n] [] = some (.bool (decide ((0 ≤ n ∧ n ≤ 3) ∨ n = 8 ∨ n = 9)), []) := by
  rw [alembicref17_cond.step]
  unfold alembicref17_cond.c
  refine e_in ?_
  repeat' first
    | (with_reducible first | refine eT ?_ | refine eN ?_ | refine eS ?_ | refine eXn ?_ | refine eXr ?_ | refine eX ?_ | refine eI ?_ | refine eK ?_ | refine eV0 ?_ | refine eGr0 ?_ | refine eGtt ?_ | refine eGff ?_ | refine eGtf ?_ | refine eGft ?_ | refine eGno ?_)
    | ((with_reducible apply eCn); (simp only [nth_zero, nth_succ]; first | done | (with_reducible exact rfl)))
    | ((with_reducible apply eJ); (rfl))
    | ((with_reducible apply eGr1); (first | rfl | (simp only [nth_zero, nth_succ]; rfl)))
    | ((with_reducible apply eB); (first | (with_reducible exact rfl) | (simp (disch := omega) only [qa, putC, AV.cells, storable, buildSt, fillA, buildRo, buildOwn, fillE, Nat.reduceLeDiff, Nat.reduceLT, Nat.reduceAdd, ↓reduceIte]; first | done | (with_reducible exact rfl) | (with_reducible exact ⟨rfl, rfl⟩))))
    | ((with_reducible apply eR); (simp only [nth_zero, nth_succ]; (with_reducible exact rfl)))
    | ((with_reducible first | refine sEql ?_ ?_ | refine sNeq ?_ ?_ | refine sLss ?_ ?_ | refine sLeq ?_ ?_ | refine sGtr ?_ ?_ | refine sGeq ?_ ?_ | refine sNot ?_ ?_ | refine sPick ?_ ?_ | refine sGd ?_ ?_ | refine eBool ?_ ?_) <;> intro hq <;> try subst hq)
  all_goals first | omega | (refine w1b ?_; first | exact (decide_eq_true (by omega)).symm | exact (decide_eq_false (by omega)).symm)

theorem rfar_spec (G : Globs) (k : Nat) (n b h : Int) (hb : (b = 19 ∧ h = 262144) ∨ (b = 26 ∧ h = 33554432)) : alembicref17_far.f G (k + 1) [I6 n, I6 b] [] = some (.bool (decide (-h ≤ n ∧ n < h)), []) := by
  rw [alembicref17_far.step]
  unfold alembicref17_far.c
  obtain ⟨s1, s2, s3, s4⟩ : bin Tryd.prog .sub 3 true (I6 b) (.int .i64 1) = some (I6 (b - 1)) ∧ convInt .u64 (I6 (b - 1)) = some (.int .u64 (b - 1)) ∧ bin Tryd.prog .shl 3 true (.int .i64 1) (.int .u64 (b - 1)) = some (I6 h) ∧ bin Tryd.prog .shl 3 true (.int .i64 (-1)) (.int .u64 (b - 1)) = some (I6 (-h)) := by
    rcases hb with ⟨rfl, rfl⟩ | ⟨rfl, rfl⟩
    · exact ⟨by kernel_rfl, by kernel_rfl, by kernel_rfl, by kernel_rfl⟩
    · exact ⟨by kernel_rfl, by kernel_rfl, by kernel_rfl, by kernel_rfl⟩
  clear hb
  refine e_in ?_
  repeat' first
    | (with_reducible first | refine eT ?_ | refine eN ?_ | refine eS ?_ | refine eXn ?_ | refine eXr ?_ | refine eX ?_ | refine eI ?_ | refine eK ?_ | refine eV0 ?_ | refine eGr0 ?_ | refine eGtt ?_ | refine eGff ?_ | refine eGtf ?_ | refine eGft ?_ | refine eGno ?_)
    | ((with_reducible apply eCn); (simp only [nth_zero, nth_succ]; first | done | (with_reducible exact rfl)))
    | ((with_reducible apply eJ); (rfl))
    | ((with_reducible apply eGr1); (first | rfl | (simp only [nth_zero, nth_succ]; rfl)))
    | ((with_reducible apply eB); (first | (with_reducible exact rfl) | (simp (disch := omega) only [qf, s1, s2, s3, s4]; first | done | (with_reducible exact rfl) | (with_reducible exact ⟨rfl, rfl⟩)) | (simp (disch := omega) only [qa, putC, AV.cells, storable, buildSt, fillA, buildRo, buildOwn, fillE, Nat.reduceLeDiff, Nat.reduceLT, Nat.reduceAdd, ↓reduceIte, s1, s2, s3, s4]; first | done | (with_reducible exact rfl) | (with_reducible exact ⟨rfl, rfl⟩))))
    | ((with_reducible apply eR); (simp only [nth_zero, nth_succ]; (with_reducible exact rfl)))
    | ((with_reducible first | refine sEql ?_ ?_ | refine sNeq ?_ ?_ | refine sLss ?_ ?_ | refine sLeq ?_ ?_ | refine sGtr ?_ ?_ | refine sGeq ?_ ?_ | refine sNot ?_ ?_ | refine sPick ?_ ?_ | refine sGd ?_ ?_ | refine eBool ?_ ?_) <;> intro hq <;> try subst hq)
  all_goals first | omega | (refine w1b ?_; first | exact (decide_eq_true (by omega)).symm | exact (decide_eq_false (by omega)).symm)

theorem rbase_spec (G : Globs) (k : Nat) (op : Int) (h : 1 ≤ op ∧ op ≤ 24) : alembicref17_base.f G (k + 1) [I6 op] [] = some (W32 (formF op).w, []) := by
  rcases op24 h with rfl | rfl | rfl | rfl | rfl | rfl | rfl | rfl | rfl | rfl | rfl | rfl | rfl | rfl | rfl | rfl | rfl | rfl | rfl | rfl | rfl | rfl | rfl | rfl <;> (clear h; show _ = _; kernel_rfl)

theorem rright_spec (G : Globs) (k : Nat) (op d n m a imm : Int) : alembicref17_right.f G (k + 5) [mV op d n m a imm] [] = some (.bool (rightB ⟨op, d, n, m, a, imm⟩), []) := by
  rw [alembicref17_right.step]
  unfold alembicref17_right.c
  have r1 : ∀ H, pureCall (alembicref17_partsOf.f G (k + 4)) [I6 op] H = _ := fun H => pureCall_of (H := H) (parts_spec G k op) rfl rfl
  have r2 : ∀ r is H, pureCall (alembicref17_reg.f G (k + 4)) [I6 r, .bool is] H = _ := fun r is H => pureCall_of (H := H) (rreg_spec G (k + 3) r is) rfl rfl
  have r3 : ∀ H, pureCall (alembicref17_cond.f G (k + 4)) [I6 a] H = _ := fun H => pureCall_of (H := H) (rcond_spec G (k + 3) a) rfl rfl
  have r4 : ∀ H, pureCall (alembicref17_far.f G (k + 4)) [I6 imm, .int .i64 19] H = _ := fun H => pureCall_of (H := H) (rfar_spec G (k + 3) imm 19 262144 (.inl ⟨rfl, rfl⟩)) rfl rfl
  have r5 : ∀ H, pureCall (alembicref17_far.f G (k + 4)) [I6 imm, .int .i64 26] H = _ := fun H => pureCall_of (H := H) (rfar_spec G (k + 3) imm 26 33554432 (.inr ⟨rfl, rfl⟩)) rfl rfl
  have s12 : bin Tryd.prog .shl 3 true (.int .i64 1) (.int .u64 12) = some (.int .i64 4096) := by kernel_rfl
  have s16 : bin Tryd.prog .shl 3 true (.int .i64 1) (.int .u64 16) = some (.int .i64 65536) := by kernel_rfl
  have s6 : bin Tryd.prog .shl 3 true (.int .i64 1) (.int .u64 6) = some (.int .i64 64) := by kernel_rfl
  have s0 : bin Tryd.prog .shl 3 true (.int .i64 1) (.int .u64 0) = some (.int .i64 1) := by kernel_rfl
  by_cases h : 1 ≤ op ∧ op ≤ 24
  · refine e_in ?_
    rcases op24 h with rfl | rfl | rfl | rfl | rfl | rfl | rfl | rfl | rfl | rfl | rfl | rfl | rfl | rfl | rfl | rfl | rfl | rfl | rfl | rfl | rfl | rfl | rfl | rfl
    all_goals (
      clear h
      simp only [partsV, formF, Int.reduceEq, if_true, if_false, ↓reduceIte] at r1
      repeat' first
        | (with_reducible first | refine eT ?_ | refine eN ?_ | refine eS ?_ | refine eXn ?_ | refine eXr ?_ | refine eX ?_ | refine eI ?_ | refine eK ?_ | refine eV0 ?_ | refine eGr0 ?_ | refine eGtt ?_ | refine eGff ?_ | refine eGtf ?_ | refine eGft ?_ | refine eGno ?_)
        | ((with_reducible apply eCn); (simp only [nth_zero, nth_succ]; first | done | (with_reducible exact rfl)))
        | ((with_reducible apply eJ); (rfl))
        | ((with_reducible apply eGr1); (first | rfl | (simp only [nth_zero, nth_succ]; rfl)))
        | ((with_reducible apply eB); (first | (with_reducible exact rfl) | (simp (disch := omega) only [qf, r1, r2, r3, r4, r5, s0, s6, s12, s16]; first | done | (with_reducible exact rfl) | (with_reducible exact ⟨rfl, rfl⟩)) | (simp (disch := omega) only [qa, putC, AV.cells, storable, buildSt, fillA, buildRo, buildOwn, fillE, Nat.reduceLeDiff, Nat.reduceLT, Nat.reduceAdd, ↓reduceIte, r1, r2, r3, r4, r5, s0, s6, s12, s16]; first | done | (with_reducible exact rfl) | (with_reducible exact ⟨rfl, rfl⟩))))
        | ((with_reducible apply eR); (simp only [nth_zero, nth_succ]; (with_reducible exact rfl)))
        | ((with_reducible first | refine sEql ?_ ?_ | refine sNeq ?_ ?_ | refine sLss ?_ ?_ | refine sLeq ?_ ?_ | refine sGtr ?_ ?_ | refine sGeq ?_ ?_ | refine sNot ?_ ?_ | refine sPick ?_ ?_ | refine sGd ?_ ?_ | refine eBool ?_ ?_) <;> intro hq <;> try subst hq)
      all_goals (refine w1b ?_; simp [rightB, isOp, fairB, formF, regB, extraB, immB, halfI, stackB] at *; try omega))
  · have e : rightB ⟨op, d, n, m, a, imm⟩ = false := by
      unfold rightB isOp
      simp only
      rw [decide_eq_false h, Bool.false_and]
    rw [e]
    rw [formF_none h] at r1
    unfold partsV at r1
    refine e_in ?_
    repeat' first
      | (with_reducible first | refine eT ?_ | refine eN ?_ | refine eS ?_ | refine eXn ?_ | refine eXr ?_ | refine eX ?_ | refine eI ?_ | refine eK ?_ | refine eV0 ?_ | refine eGr0 ?_ | refine eGtt ?_ | refine eGff ?_ | refine eGtf ?_ | refine eGft ?_ | refine eGno ?_)
      | ((with_reducible apply eCn); (simp only [nth_zero, nth_succ]; first | done | (with_reducible exact rfl)))
      | ((with_reducible apply eJ); (rfl))
      | ((with_reducible apply eGr1); (first | rfl | (simp only [nth_zero, nth_succ]; rfl)))
      | ((with_reducible apply eB); (first | (with_reducible exact rfl) | (simp (disch := omega) only [qf, r1]; first | done | (with_reducible exact rfl) | (with_reducible exact ⟨rfl, rfl⟩)) | (simp (disch := omega) only [qa, putC, AV.cells, storable, buildSt, fillA, buildRo, buildOwn, fillE, Nat.reduceLeDiff, Nat.reduceLT, Nat.reduceAdd, ↓reduceIte, r1]; first | done | (with_reducible exact rfl) | (with_reducible exact ⟨rfl, rfl⟩))))
      | ((with_reducible apply eR); (simp only [nth_zero, nth_succ]; (with_reducible exact rfl)))
      | ((with_reducible first | refine sEql ?_ ?_ | refine sNeq ?_ ?_ | refine sLss ?_ ?_ | refine sLeq ?_ ?_ | refine sGtr ?_ ?_ | refine sGeq ?_ ?_ | refine sNot ?_ ?_ | refine sPick ?_ ?_ | refine sGd ?_ ?_ | refine eBool ?_ ?_) <;> intro hq <;> try subst hq)
    exact w1b rfl
end Go.Proofs.YtdfglgnflldkpaaDoor.Mir
