/- The document's: a word's instruction: the same. -/
import Derived.Test.YtdfglgnflldkpaaDoorIh
namespace Go.Proofs.YtdfglgnflldkpaaDoor.Mir
open Go
set_option linter.unusedVariables false
set_option linter.unusedSimpArgs false
set_option maxHeartbeats 8000000
set_option maxRecDepth 20000

def rfindF : Nat → Int → Int → Option MI
  | 0, _, _ => none
  | d + 1, op, w => if op ≠ 12 ∧ rasB op w = true then some (rasF op w) else rfindF d (op + 1) w
def rofF (w : Int) : Option MI := match rfindF 24 1 w with
  | some i => some i
  | none => if rasB 12 w = true then some (rasF 12 w) else none

theorem ras_ne {op w : Int} (h : op ≠ 12) : rasF op w = asF op w := by unfold rasF; rw [if_neg h]
theorem rasB_ok {op w : Int} (h : op ≠ 12) : rasB op w = okB op w := by
  unfold rasB okB asB
  rw [ras_ne h, decide_eq_true h]
  simp
theorem rfind_some : ∀ {d : Nat} {op w : Int} {i : MI}, rfindF d op w = some i → ∃ o, o ≠ 12 ∧ okB o w = true ∧ i = asF o w ∧ op ≤ o ∧ o < op + d
  | 0, op, w, i, h => by cases h
  | d + 1, op, w, i, h => by
    unfold rfindF at h
    by_cases hk : op ≠ 12 ∧ rasB op w = true
    · rw [if_pos hk] at h
      simp at h
      exact ⟨op, hk.1, by rw [← rasB_ok hk.1]; exact hk.2, by rw [← ras_ne hk.1]; exact h.symm, by omega, by omega⟩
    · rw [if_neg hk] at h
      obtain ⟨o, h0, h1, h2, h3, h4⟩ := rfind_some h
      exact ⟨o, h0, h1, h2, by omega, by omega⟩
theorem rfind_none : ∀ {d : Nat} {op w : Int}, rfindF d op w = none → ∀ o : Int, o ≠ 12 → op ≤ o → o < op + d → okB o w = false
  | 0, op, w, _, o, _, h1, h2 => by omega
  | d + 1, op, w, h, o, h0, h1, h2 => by
    unfold rfindF at h
    by_cases hk : op ≠ 12 ∧ rasB op w = true
    · rw [if_pos hk] at h; cases h
    · rw [if_neg hk] at h
      by_cases ho : o = op
      · subst ho
        rw [rasB_ok h0] at hk
        simpa [h0] using hk
      · exact rfind_none h o h0 (by omega) (by omega)

theorem find_of {d : Nat} {w : Int} {i : MI} (h : rfindF d 1 w = some i) : ofF w = some i := by
  obtain ⟨o, h0, h1, rfl, _, _⟩ := rfind_some h
  obtain ⟨⟨h2, h3⟩, h4⟩ := okB_iff.1 h1
  exact of_iff.2 ⟨h2, h3, h4⟩

theorem rofF_eq (w : Int) : rofF w = ofF w := by
  unfold rofF
  cases hr : rfindF 24 1 w with
  | some i => exact (find_of hr).symm
  | none =>
    simp only
    have hn := rfind_none hr
    cases hq : ofF w with
    | some i =>
      obtain ⟨h1, h2, h3⟩ := of_some hq
      have h24 := right24 h1
      have hop : i.op = 12 := by
        apply Classical.byContradiction
        intro hne
        have h4 := hn i.op hne h24.1 (by omega)
        have hk : okB i.op w = true := by
          subst h2
          rw [okB_iff, (word_all h1).2.2.1]
          exact ⟨⟨h1, rfl⟩, h3⟩
        rw [hk] at h4; cases h4
      have e : rasF 12 w = i := by
        obtain ⟨op, d, n, m, a, imm⟩ := i
        simp only at hop; subst hop
        unfold rightB at h1
        rw [Bool.and_eq_true] at h1
        obtain ⟨_, h1⟩ := h1
        simp [formF, fairB, regB, extraB, immB, halfI, stackB] at h1
        have h2' : w = 3544186880 + d + n * 32 + m * 65536 + ((64 - imm) % 64 * 65536 + (63 - imm) * 1024) := h2.symm
        have hi : imm ≠ 0 := fun h => h3 ⟨rfl, h⟩
        have e64 : (64 - imm) % 64 = 64 - imm := by omega
        rw [e64] at h2'
        clear h2
        have e65 : w / 65536 = 54144 - imm := by omega
        simp [rasF]
        refine ⟨?_, ?_, ?_, ?_, ?_⟩ <;> omega
      have hb : rasB 12 w = true := by
        unfold rasB
        rw [e, h1, h2]; simp
      rw [if_pos hb, e]
    | none =>
      by_cases hb : rasB 12 w = true
      · exfalso
        have hb' := hb
        unfold rasB at hb'
        rw [Bool.and_eq_true] at hb'
        obtain ⟨h1, h2⟩ := hb'
        have h2 := of_decide_eq_true h2
        by_cases hs : (rasF 12 w).imm = 0
        · obtain ⟨i, hi⟩ : ∃ i, i = rasF 12 w := ⟨_, rfl⟩
          rw [← hi] at h1 h2 hs
          have ho : i.op = 12 := by rw [hi]; rfl
          obtain ⟨op, d, n, m, a, imm⟩ := i
          simp only at ho hs; subst ho; subst hs
          have e1 : rightB ⟨13, d, n, m, a, 0⟩ = true := by
            have : rightB ⟨13, d, n, m, a, 0⟩ = rightB ⟨12, d, n, m, a, 0⟩ := rfl
            rw [this]; exact h1
          have e2 : wordF ⟨13, d, n, m, a, 0⟩ = w := by
            rw [← h2]; rfl
          have := of_iff.2 ⟨e1, e2, by simp⟩
          rw [hq] at this; cases this
        · have := of_iff.2 ⟨h1, h2, fun h => hs h.2⟩
          rw [hq] at this; cases this
      · rw [if_neg hb]

theorem rof_loop (G : Globs) (k : Nat) (self : Den) (w : Int) (h0 : 0 ≤ w) (h1 : w < 4294967296) : ∀ (d f : Nat) (op : Int) (T : AHeap), op + (d : Int) = 25 → 1 ≤ op → d < f →
    ∃ T', loopN (alembicref17_Of.l2 G (k + 7) 1 self) f [W32 w, .ptr 0 1 0 0, .bool false, I6 op] (⟨57, 6, [mV 0 0 0 0 0 0]⟩ :: T) = some (ofStep (rfindF d op w) w T')
  | d, 0, op, T, h, _, hf => by omega
  | 0, f + 1, op, T, h, _, hf => by
    rw [loopN_succ, alembicref17_Of.l2]
    have hc : cutH 1 [W32 w, .ptr 0 1 0 0, .bool false, I6 op] (⟨57, 6, [mV 0 0 0 0 0 0]⟩ :: T) = some [⟨57, 6, [mV 0 0 0 0 0 0]⟩] := rfl
    have e : op = 25 := by omega
    subst e
    refine ⟨[], ?_⟩
    refine e_id ?_
    refine eC hc ?_
    repeat' first
      | (with_reducible first | refine eT ?_ | refine eN ?_ | refine eS ?_ | refine eXn ?_ | refine eXr ?_ | refine eX ?_ | refine eI ?_ | refine eK ?_ | refine eV0 ?_ | refine eGr0 ?_ | refine eGtt ?_ | refine eGff ?_ | refine eGtf ?_ | refine eGft ?_ | refine eGno ?_)
      | ((with_reducible apply eCn); (simp only [nth_zero, nth_succ]; first | done | (with_reducible exact rfl)))
      | ((with_reducible apply eJ); (rfl))
      | ((with_reducible apply eGr1); (first | rfl | (simp only [nth_zero, nth_succ]; rfl)))
      | ((with_reducible apply eB); (first | (with_reducible exact rfl) | (simp (disch := omega) only [qa, putC, AV.cells, storable, buildSt, fillA, buildRo, buildOwn, fillE, Nat.reduceLeDiff, Nat.reduceLT, Nat.reduceAdd, ↓reduceIte]; first | done | (with_reducible exact rfl) | (with_reducible exact ⟨rfl, rfl⟩))))
      | ((with_reducible apply eR); (simp only [nth_zero, nth_succ]; (with_reducible exact rfl)))
      | ((with_reducible first | refine sEql ?_ ?_ | refine sNeq ?_ ?_ | refine sLss ?_ ?_ | refine sLeq ?_ ?_ | refine sGtr ?_ ?_ | refine sGeq ?_ ?_ | refine sNot ?_ ?_ | refine sPick ?_ ?_ | refine sGd ?_ ?_ | refine eBool ?_ ?_) <;> intro hq <;> try subst hq)
    refine e_out ?_; rfl
  | d + 1, f + 1, op, T, h, hop, hf => by
    rw [loopN_succ, alembicref17_Of.l2]
    have hc : cutH 1 [W32 w, .ptr 0 1 0 0, .bool false, I6 op] (⟨57, 6, [mV 0 0 0 0 0 0]⟩ :: T) = some [⟨57, 6, [mV 0 0 0 0 0 0]⟩] := rfl
    have ih := fun T => rof_loop G k self w h0 h1 d f (op + 1) T (by omega) (by omega) (by omega)
    have q1 : bin Tryd.prog .leq 3 true (I6 op) (.int .i64 24) = some (.bool true) := q_leq_t (by omega)
    have q2 : bin Tryd.prog .add 3 true (I6 op) (.int .i64 1) = some (I6 (op + 1)) := q_add (by omega) (by omega)
    unfold rfindF
    by_cases h12 : op = 12
    · rw [if_neg (by simp [h12])]
      subst h12
      obtain ⟨T', ih⟩ := ih []
      refine ⟨T', ?_⟩
      refine e_id ?_
      refine eC hc ?_
      repeat' first
        | (with_reducible first | refine eT ?_ | refine eN ?_ | refine eS ?_ | refine eXn ?_ | refine eXr ?_ | refine eX ?_ | refine eI ?_ | refine eK ?_ | refine eV0 ?_ | refine eGr0 ?_ | refine eGtt ?_ | refine eGff ?_ | refine eGtf ?_ | refine eGft ?_ | refine eGno ?_)
        | ((with_reducible apply eCn); (simp only [nth_zero, nth_succ]; first | done | (with_reducible exact rfl)))
        | ((with_reducible apply eJ); (rfl))
        | ((with_reducible apply eGr1); (first | rfl | (simp only [nth_zero, nth_succ]; rfl)))
        | ((with_reducible apply eB); (first | (with_reducible exact rfl) | (simp (disch := omega) only [qf, q1, q2]; first | done | (with_reducible exact rfl) | (with_reducible exact ⟨rfl, rfl⟩)) | (simp (disch := omega) only [qa, putC, AV.cells, storable, buildSt, fillA, buildRo, buildOwn, fillE, Nat.reduceLeDiff, Nat.reduceLT, Nat.reduceAdd, ↓reduceIte, q1, q2]; first | done | (with_reducible exact rfl) | (with_reducible exact ⟨rfl, rfl⟩))))
        | ((with_reducible apply eR); (simp only [nth_zero, nth_succ]; (with_reducible exact rfl)))
        | ((with_reducible first | refine sEql ?_ ?_ | refine sNeq ?_ ?_ | refine sLss ?_ ?_ | refine sLeq ?_ ?_ | refine sGtr ?_ ?_ | refine sGeq ?_ ?_ | refine sNot ?_ ?_ | refine sPick ?_ ?_ | refine sGd ?_ ?_ | refine eBool ?_ ?_) <;> intro hq <;> try subst hq)
      exact ih
    · have r1 : ∀ H, pureCall (alembicref17_as.f G (k + 7)) [I6 op, W32 w] H = some (rasV op w, H) := fun H => pureCall_of (H := H) (ras_spec G k op w (by omega) h0 h1) rfl (by unfold rasV; split <;> rfl)
      have q3 : bin Tryd.prog .eql 3 true (I6 op) (.int .i64 12) = some (.bool false) := q_eql_f h12
      have e0 : (rasF op w).op = op := by rw [ras_ne h12]; rfl
      unfold rasV at r1
      generalize rasB op w = b at *
      generalize rasF op w = i at *
      obtain ⟨op', xd, xn, xm, xa, xi⟩ := i
      simp only at e0
      subst e0
      unfold MI.v at *
      simp only at *
      clear h1 h hf hop h0
      cases b
      · rw [if_neg (by simp)]
        simp only [Bool.false_eq_true, if_false] at r1
        obtain ⟨T', ih⟩ := ih [⟨57, 6, [mV 0 0 0 0 0 0]⟩]
        refine ⟨T', ?_⟩
        refine e_id ?_
        refine eC hc ?_
        repeat' first
          | (with_reducible first | refine eT ?_ | refine eN ?_ | refine eS ?_ | refine eXn ?_ | refine eXr ?_ | refine eX ?_ | refine eI ?_ | refine eK ?_ | refine eV0 ?_ | refine eGr0 ?_ | refine eGtt ?_ | refine eGff ?_ | refine eGtf ?_ | refine eGft ?_ | refine eGno ?_)
          | ((with_reducible apply eCn); (simp only [nth_zero, nth_succ]; first | done | (with_reducible exact rfl)))
          | ((with_reducible apply eJ); (rfl))
          | ((with_reducible apply eGr1); (first | rfl | (simp only [nth_zero, nth_succ]; rfl)))
          | ((with_reducible apply eB); (first | (with_reducible exact rfl) | (simp (disch := omega) only [qf, r1, q1, q2, q3]; first | done | (with_reducible exact rfl) | (with_reducible exact ⟨rfl, rfl⟩)) | (simp (disch := omega) only [qa, putC, AV.cells, storable, buildSt, fillA, buildRo, buildOwn, fillE, Nat.reduceLeDiff, Nat.reduceLT, Nat.reduceAdd, ↓reduceIte, r1, q1, q2, q3]; first | done | (with_reducible exact rfl) | (with_reducible exact ⟨rfl, rfl⟩))))
          | ((with_reducible apply eR); (simp only [nth_zero, nth_succ]; (with_reducible exact rfl)))
          | ((with_reducible first | refine sEql ?_ ?_ | refine sNeq ?_ ?_ | refine sLss ?_ ?_ | refine sLeq ?_ ?_ | refine sGtr ?_ ?_ | refine sGeq ?_ ?_ | refine sNot ?_ ?_ | refine sPick ?_ ?_ | refine sGd ?_ ?_ | refine eBool ?_ ?_) <;> intro hq <;> try subst hq)
        exact ih
      · rw [if_pos (by simp [h12])]
        simp only [if_true] at r1
        refine ⟨[⟨57, 6, [.agg [I6 op', I6 xd, I6 xn, I6 xm, I6 xa, I6 xi]]⟩], ?_⟩
        refine e_id ?_
        refine eC hc ?_
        repeat' first
          | (with_reducible first | refine eT ?_ | refine eN ?_ | refine eS ?_ | refine eXn ?_ | refine eXr ?_ | refine eX ?_ | refine eI ?_ | refine eK ?_ | refine eV0 ?_ | refine eGr0 ?_ | refine eGtt ?_ | refine eGff ?_ | refine eGtf ?_ | refine eGft ?_ | refine eGno ?_)
          | ((with_reducible apply eCn); (simp only [nth_zero, nth_succ]; first | done | (with_reducible exact rfl)))
          | ((with_reducible apply eJ); (rfl))
          | ((with_reducible apply eGr1); (first | rfl | (simp only [nth_zero, nth_succ]; rfl)))
          | ((with_reducible apply eB); (first | (with_reducible exact rfl) | (simp (disch := omega) only [qf, r1, q1, q2, q3]; first | done | (with_reducible exact rfl) | (with_reducible exact ⟨rfl, rfl⟩)) | (simp (disch := omega) only [qa, putC, AV.cells, storable, buildSt, fillA, buildRo, buildOwn, fillE, Nat.reduceLeDiff, Nat.reduceLT, Nat.reduceAdd, ↓reduceIte, r1, q1, q2, q3]; first | done | (with_reducible exact rfl) | (with_reducible exact ⟨rfl, rfl⟩))))
          | ((with_reducible apply eR); (simp only [nth_zero, nth_succ]; (with_reducible exact rfl)))
          | ((with_reducible first | refine sEql ?_ ?_ | refine sNeq ?_ ?_ | refine sLss ?_ ?_ | refine sLeq ?_ ?_ | refine sGtr ?_ ?_ | refine sGeq ?_ ?_ | refine sNot ?_ ?_ | refine sPick ?_ ?_ | refine sGd ?_ ?_ | refine eBool ?_ ?_) <;> intro hq <;> try subst hq)
        refine e_out ?_; rfl

theorem rOf_spec (G : Globs) (k : Nat) (w : Int) (h0 : 0 ≤ w) (h1 : w < 4294967296) : alembicref17_Of.f G (k + 40) [W32 w] [] = some (ofV (ofF w), []) := by
  rw [← rofF_eq]
  rw [alembicref17_Of.step]
  unfold alembicref17_Of.c
  obtain ⟨T', lp⟩ : ∃ T', loopN (alembicref17_Of.l2 G (k + 39) 1 (alembicref17_Of.f G (k + 39))) (k + 39) [W32 w, .ptr 0 1 0 0, .bool false, .int .i64 1] [⟨57, 6, [mV 0 0 0 0 0 0]⟩] = some (ofStep (rfindF 24 1 w) w T') := rof_loop G (k + 32) (alembicref17_Of.f G (k + 39)) w h0 h1 24 (k + 39) 1 [] (by decide) (by decide) (by omega)
  have r1 : ∀ H, pureCall (alembicref17_as.f G (k + 39)) [.int .i64 12, W32 w] H = some (rasV 12 w, H) := fun H => pureCall_of (H := H) (ras_spec G (k + 32) 12 w (by decide) h0 h1) rfl (by unfold rasV; split <;> rfl)
  unfold rofF
  unfold rasV at r1
  have e0 : (rasF 12 w).op = 12 := rfl
  generalize rfindF 24 1 w = q at *
  generalize rasB 12 w = b at *
  generalize rasF 12 w = i at *
  obtain ⟨op', xd, xn, xm, xa, xi⟩ := i
  refine e_in ?_
  cases q with
  | none =>
    unfold ofStep at lp
    simp only at lp
    cases b
    · simp only [Bool.false_eq_true, if_false] at r1 ⊢
      repeat' first
        | (with_reducible first | refine eT ?_ | refine eN ?_ | refine eS ?_ | refine eXn ?_ | refine eXr ?_ | refine eX ?_ | refine eI ?_ | refine eK ?_ | refine eV0 ?_ | refine eGr0 ?_ | refine eGtt ?_ | refine eGff ?_ | refine eGtf ?_ | refine eGft ?_ | refine eGno ?_)
        | ((with_reducible apply eCn); (simp only [nth_zero, nth_succ]; first | done | (with_reducible exact rfl)))
        | ((with_reducible apply eJ); (rfl))
        | ((with_reducible apply eGr1); (first | rfl | (simp only [nth_zero, nth_succ]; rfl)))
        | ((with_reducible apply eL); (first | exact lp))
        | ((with_reducible apply eB); (first | (with_reducible exact rfl) | (simp (disch := omega) only [qf, r1]; first | done | (with_reducible exact rfl) | (with_reducible exact ⟨rfl, rfl⟩)) | (simp (disch := omega) only [qa, putC, AV.cells, storable, buildSt, fillA, buildRo, buildOwn, fillE, Nat.reduceLeDiff, Nat.reduceLT, Nat.reduceAdd, ↓reduceIte, r1]; first | done | (with_reducible exact rfl) | (with_reducible exact ⟨rfl, rfl⟩))))
        | ((with_reducible apply eR); (simp only [nth_zero, nth_succ]; (with_reducible exact rfl)))
        | ((with_reducible first | refine sEql ?_ ?_ | refine sNeq ?_ ?_ | refine sLss ?_ ?_ | refine sLeq ?_ ?_ | refine sGtr ?_ ?_ | refine sGeq ?_ ?_ | refine sNot ?_ ?_ | refine sPick ?_ ?_ | refine sGd ?_ ?_ | refine eBool ?_ ?_) <;> intro hq <;> try subst hq)
      exact oF (finL_two rfl rfl rfl)
    · simp only [if_true] at r1 ⊢
      unfold MI.v at *
      repeat' first
        | (with_reducible first | refine eT ?_ | refine eN ?_ | refine eS ?_ | refine eXn ?_ | refine eXr ?_ | refine eX ?_ | refine eI ?_ | refine eK ?_ | refine eV0 ?_ | refine eGr0 ?_ | refine eGtt ?_ | refine eGff ?_ | refine eGtf ?_ | refine eGft ?_ | refine eGno ?_)
        | ((with_reducible apply eCn); (simp only [nth_zero, nth_succ]; first | done | (with_reducible exact rfl)))
        | ((with_reducible apply eJ); (rfl))
        | ((with_reducible apply eGr1); (first | rfl | (simp only [nth_zero, nth_succ]; rfl)))
        | ((with_reducible apply eL); (first | exact lp))
        | ((with_reducible apply eB); (first | (with_reducible exact rfl) | (simp (disch := omega) only [qf, r1]; first | done | (with_reducible exact rfl) | (with_reducible exact ⟨rfl, rfl⟩)) | (simp (disch := omega) only [qa, putC, AV.cells, storable, buildSt, fillA, buildRo, buildOwn, fillE, Nat.reduceLeDiff, Nat.reduceLT, Nat.reduceAdd, ↓reduceIte, r1]; first | done | (with_reducible exact rfl) | (with_reducible exact ⟨rfl, rfl⟩))))
        | ((with_reducible apply eR); (simp only [nth_zero, nth_succ]; (with_reducible exact rfl)))
        | ((with_reducible first | refine sEql ?_ ?_ | refine sNeq ?_ ?_ | refine sLss ?_ ?_ | refine sLeq ?_ ?_ | refine sGtr ?_ ?_ | refine sGeq ?_ ?_ | refine sNot ?_ ?_ | refine sPick ?_ ?_ | refine sGd ?_ ?_ | refine eBool ?_ ?_) <;> intro hq <;> try subst hq)
      exact oF (finL_two rfl rfl rfl)
  | some i =>
    unfold ofStep at lp
    simp only at lp
    repeat' first
      | (with_reducible first | refine eT ?_ | refine eN ?_ | refine eS ?_ | refine eXn ?_ | refine eXr ?_ | refine eX ?_ | refine eI ?_ | refine eK ?_ | refine eV0 ?_ | refine eGr0 ?_ | refine eGtt ?_ | refine eGff ?_ | refine eGtf ?_ | refine eGft ?_ | refine eGno ?_)
      | ((with_reducible apply eCn); (simp only [nth_zero, nth_succ]; first | done | (with_reducible exact rfl)))
      | ((with_reducible apply eJ); (rfl))
      | ((with_reducible apply eGr1); (first | rfl | (simp only [nth_zero, nth_succ]; rfl)))
      | ((with_reducible apply eL); (first | exact lp))
      | ((with_reducible apply eB); (first | (with_reducible exact rfl) | (simp (disch := omega) only [qa, putC, AV.cells, storable, buildSt, fillA, buildRo, buildOwn, fillE, Nat.reduceLeDiff, Nat.reduceLT, Nat.reduceAdd, ↓reduceIte]; first | done | (with_reducible exact rfl) | (with_reducible exact ⟨rfl, rfl⟩))))
      | ((with_reducible apply eR); (simp only [nth_zero, nth_succ]; (with_reducible exact rfl)))
      | ((with_reducible first | refine sEql ?_ ?_ | refine sNeq ?_ ?_ | refine sLss ?_ ?_ | refine sLeq ?_ ?_ | refine sGtr ?_ ?_ | refine sGeq ?_ ?_ | refine sNot ?_ ?_ | refine sPick ?_ ?_ | refine sGd ?_ ?_ | refine eBool ?_ ?_) <;> intro hq <;> try subst hq)
    exact oF (finL_two rfl rfl rfl)
end Go.Proofs.YtdfglgnflldkpaaDoor.Mir
