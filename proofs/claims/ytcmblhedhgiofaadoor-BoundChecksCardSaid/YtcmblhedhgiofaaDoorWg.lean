/- Which programs of words may be: whole ones; a run with its checks. -/
import Derived.Test.YtcmblhedhgiofaaDoorWf
namespace Go.Proofs.YtcmblhedhgiofaaDoor.Mir
open Go
set_option linter.unusedVariables false
set_option linter.unusedSimpArgs false
set_option maxHeartbeats 4000000

/-- What is amiss: an error's number, with a place or without one. -/
inductive VE where
  | ok
  | bare (e : Nat)
  | at_ (j e : Nat)

def veV : VE → AV
  | .ok => .nili
  | .bare e => eV e
  | .at_ j e => .iface 89 (.rp false (.agg [Nn j, eV e]) 0)

/-- The first instruction that may not be. -/
def badF (R n : Int) : List Ins → Nat → VE
  | [], _ => .ok
  | i :: l, j => match oneF i R n with
    | some e => .at_ j e
    | none => badF R n l (j + 1)

def validF (cs : List Ins) (R M : Int) : VE :=
  if 262144 < cs.length then .bare 0
  else if R < 0 ∨ 65536 < R ∨ M < 0 ∨ 65536 < M then .bare 0
  else badF R cs.length cs 0

theorem veV_clean (v : VE) : cleanB (veV v) = true := by cases v <;> rfl
theorem veV_plain (v : VE) : plainB (veV v) = true := by cases v <;> rfl
theorem veV_low (v : VE) : belowB 0 (veV v) = true := by cases v <;> rfl

section
variable {bor : Bool} (G : Globs) (hg : GOk G) (k : Nat) (self : Den) (cs : List Ins) (R M : Int)
abbrev xsV (bor : Bool) (cs : List Ins) (R M : Int) (x : AV) (j : Nat) : List AV := [bxC (.ro bor (codeV cs)) R M, x, .ro bor (codeV cs), I6 cs.length, Nn j]

include hg in
theorem Valid_loop (hcl : cs.length ≤ 1000000) : ∀ (l pre : List Ins) (f : Nat) (H : AHeap), cs = pre ++ l → l.length < f →
    ∃ o, loopN (words_Valid.l6 G (k + 7) 0 self) f (xsV bor cs R M .nili pre.length) H = some o ∧
      (match badF R cs.length l pre.length with
        | .ok => o = (.exit 1, xsV bor cs R M .nili cs.length, [])
        | v => ∃ j H', o = (.ret, xsV bor cs R M (veV v) j, H'))
  | l, pre, 0, H, hcs, hf => by omega
  | [], pre, f + 1, H, hcs, hf => by
    rw [loopN_succ, words_Valid.l6]
    have hl : cs.length = pre.length := by rw [hcs]; simp
    refine ⟨_, ?_, rfl⟩
    have hc : cutH 0 (xsV bor cs R M .nili pre.length) H = some [] := by simp [cutH, belowL, belowB, heapBelow, codeV_below]
    refine lC hc ?_
    refine e_id ?_
    have hge : ¬ (pre.length : Int) < (cs.length : Int) := by omega
    have q : bin Tryd.prog .lss 3 false (Nn pre.length) (Nn cs.length) = some (.bool false) := by rw [bin_lss, decide_eq_false hge]
    repeat' first
      | (with_reducible first | refine eT ?_ | refine eN ?_ | refine eS ?_ | refine eXn ?_ | refine eXr ?_ | refine eX ?_ | refine eI ?_ | refine eK ?_ | refine eV0 ?_ | refine eGtt ?_ | refine eGff ?_ | refine eGtf ?_ | refine eGft ?_ | refine eGno ?_)
      | ((with_reducible apply eCn); (simp only [nth_zero, nth_succ]; first | done | (with_reducible exact rfl)))
      | ((with_reducible apply eJ); (rfl))
      | ((with_reducible apply eB); (first | (with_reducible exact rfl) | (simp (disch := omega) only [qf, q]; first | done | (with_reducible exact rfl) | (with_reducible exact ⟨rfl, rfl⟩)) | (simp (disch := omega) only [qa, putC, AV.cells, storable, buildSt, fillA, buildRo, buildOwn, fillE, Nat.reduceLeDiff, Nat.reduceLT, Nat.reduceAdd, ↓reduceIte, q]; first | done | (with_reducible exact rfl) | (with_reducible exact ⟨rfl, rfl⟩))))
      | ((with_reducible apply eR); (simp only [nth_zero, nth_succ]; (with_reducible exact rfl)))
      | ((with_reducible first | refine sEql ?_ ?_ | refine sNeq ?_ ?_ | refine sLss ?_ ?_ | refine sLeq ?_ ?_ | refine sGtr ?_ ?_ | refine sGeq ?_ ?_ | refine sNot ?_ ?_ | refine sPick ?_ ?_ | refine sGd ?_ ?_ | refine eBool ?_ ?_) <;> intro hq <;> try subst hq)
    rw [hl]
    rfl
  | i :: l, pre, f + 1, H, hcs, hf => by
    rw [loopN_succ, words_Valid.l6]
    have hl : cs.length = pre.length + (l.length + 1) := by rw [hcs]; simp
    have hc : cutH 0 (xsV bor cs R M .nili pre.length) H = some [] := by simp [cutH, belowL, belowB, heapBelow, codeV_below]
    have hi : cs.getD pre.length default = i := by rw [hcs]; simp [List.getD]
    have q : bin Tryd.prog .lss 3 false (Nn pre.length) (Nn cs.length) = some (.bool true) := by rw [bin_lss, decide_eq_true (by omega)]
    have d1 := insAt bor cs pre.length (by omega)
    rw [hi] at d1
    have d2 : ∀ H, loadV G true 6 (.rp bor i.v 0) H = some i.v := fun H => rfl
    have d3 : stS (storeV 6 (.ptr 0 1 0 0) i.v [⟨52, 6, [.agg [.int .i64 0, .int .i64 0, .int .i64 0, .int .i64 0, .int .i64 0, .int .i64 0]]⟩]) = some (.tup [], [⟨52, 6, [i.v]⟩]) := rfl
    have d4 : loadV G true 6 (.ptr 0 1 0 0) [⟨52, 6, [i.v]⟩] = some i.v := rfl
    have d5 : ∀ H, pureCall (words_one.f G (k + 7)) [.agg [.ro bor (codeV cs), I6 R, I6 M], i.v] H = _ := fun H => pureCall_of (H := H) (one_spec G hg k cs R M i) (by simp [plainL, plainB, plainC, Ins.v, instV]) (by cases oneF i R cs.length <;> rfl)
    cases ho : oneF i R cs.length with
    | some e =>
      have hb : badF R cs.length (i :: l) pre.length = .at_ pre.length e := by simp only [badF, ho]
      rw [hb]
      rw [ho] at d5
      have q2 : bin Tryd.prog .neq 35 true (eV e) .nili = some (.bool true) := by kernel_rfl
      refine ⟨_, ?_, pre.length, [⟨52, 6, [i.v]⟩], rfl⟩
      refine lC hc ?_
      refine e_id ?_
      simp only [errA] at d5
      repeat' first
        | (with_reducible first | refine eT ?_ | refine eN ?_ | refine eS ?_ | refine eXn ?_ | refine eXr ?_ | refine eX ?_ | refine eI ?_ | refine eK ?_ | refine eV0 ?_ | refine eGtt ?_ | refine eGff ?_ | refine eGtf ?_ | refine eGft ?_ | refine eGno ?_)
        | ((with_reducible apply eCn); (simp only [nth_zero, nth_succ]; first | done | (with_reducible exact rfl)))
        | ((with_reducible apply eJ); (rfl))
        | ((with_reducible apply eB); (first | (with_reducible exact rfl) | (simp (disch := omega) only [qf, q, d1, d2, d3, d4, d5, q2]; first | done | (with_reducible exact rfl) | (with_reducible exact ⟨rfl, rfl⟩)) | (simp (disch := omega) only [qa, putC, AV.cells, storable, buildSt, fillA, buildRo, buildOwn, fillE, Nat.reduceLeDiff, Nat.reduceLT, Nat.reduceAdd, ↓reduceIte, q, d1, d2, d3, d4, d5, q2]; first | done | (with_reducible exact rfl) | (with_reducible exact ⟨rfl, rfl⟩))))
        | ((with_reducible apply eR); (simp only [nth_zero, nth_succ]; (with_reducible exact rfl)))
        | ((with_reducible first | refine sEql ?_ ?_ | refine sNeq ?_ ?_ | refine sLss ?_ ?_ | refine sLeq ?_ ?_ | refine sGtr ?_ ?_ | refine sGeq ?_ ?_ | refine sNot ?_ ?_ | refine sPick ?_ ?_ | refine sGd ?_ ?_ | refine eBool ?_ ?_) <;> intro hq <;> try subst hq)
      rfl
    | none =>
      rw [ho] at d5
      have q2 : bin Tryd.prog .neq 35 true .nili .nili = some (.bool false) := by kernel_rfl
      obtain ⟨o, h1, h2⟩ := Valid_loop hcl l (pre ++ [i]) f [⟨52, 6, [i.v]⟩] (by rw [hcs]; simp) (by simp at hf; omega)
      have hlen : (pre ++ [i]).length = pre.length + 1 := by simp
      rw [hlen] at h1 h2
      have hb : badF R cs.length (i :: l) pre.length = badF R cs.length l (pre.length + 1) := by simp only [badF, ho]
      rw [hb]
      refine ⟨o, ?_, h2⟩
      refine lC hc ?_
      refine e_id ?_
      simp only [errA] at d5
      have q3 : bin Tryd.prog .add 3 true (Nn pre.length) (.int .i64 1) = some (Nn (pre.length + 1)) := by
        rw [bin_add, wrap_of_i64 (by omega) (by omega)]; congr 2
      repeat' first
        | (with_reducible first | refine eT ?_ | refine eN ?_ | refine eS ?_ | refine eXn ?_ | refine eXr ?_ | refine eX ?_ | refine eI ?_ | refine eK ?_ | refine eV0 ?_ | refine eGtt ?_ | refine eGff ?_ | refine eGtf ?_ | refine eGft ?_ | refine eGno ?_)
        | ((with_reducible apply eCn); (simp only [nth_zero, nth_succ]; first | done | (with_reducible exact rfl)))
        | ((with_reducible apply eJ); (rfl))
        | ((with_reducible apply eB); (first | (with_reducible exact rfl) | (simp (disch := omega) only [qf, q, d1, d2, d3, d4, d5, q2, q3]; first | done | (with_reducible exact rfl) | (with_reducible exact ⟨rfl, rfl⟩)) | (simp (disch := omega) only [qa, putC, AV.cells, storable, buildSt, fillA, buildRo, buildOwn, fillE, Nat.reduceLeDiff, Nat.reduceLT, Nat.reduceAdd, ↓reduceIte, q, d1, d2, d3, d4, d5, q2, q3]; first | done | (with_reducible exact rfl) | (with_reducible exact ⟨rfl, rfl⟩))))
        | ((with_reducible apply eR); (simp only [nth_zero, nth_succ]; (with_reducible exact rfl)))
        | ((with_reducible first | refine sEql ?_ ?_ | refine sNeq ?_ ?_ | refine sLss ?_ ?_ | refine sLeq ?_ ?_ | refine sGtr ?_ ?_ | refine sGeq ?_ ?_ | refine sNot ?_ ?_ | refine sPick ?_ ?_ | refine sGd ?_ ?_ | refine eBool ?_ ?_) <;> intro hq <;> try subst hq)
      exact h1

include hg in
theorem Valid_spec (hk : cs.length < k + 7) (hcl : cs.length ≤ 1000000) : words_Valid.f G (k + 8) [cdV bor cs R M] [] = some (veV (validF cs R M), []) := by
  rw [words_Valid.step]
  unfold words_Valid.c cdV
  obtain ⟨o, h1, h2⟩ := Valid_loop (bor := bor) G hg k (words_Valid.f G (k + 7)) cs R M hcl cs [] (k + 7) [] rfl hk
  have e0 : ∀ H, loadV G false 1 (.gl 0) H = some (eV 0) := fun H => hg.g0
  have lc : lenSl (.ro bor (codeV cs)) = some (I6 cs.length) := by simp [lenSl, codeV_len]
  refine e_in ?_
  unfold validF
  by_cases hb : 262144 < cs.length
  · rw [if_pos hb]
    repeat' first
      | (with_reducible first | refine eT ?_ | refine eN ?_ | refine eS ?_ | refine eXn ?_ | refine eXr ?_ | refine eX ?_ | refine eI ?_ | refine eK ?_ | refine eV0 ?_ | refine eGtt ?_ | refine eGff ?_ | refine eGtf ?_ | refine eGft ?_ | refine eGno ?_)
      | ((with_reducible apply eCn); (simp only [nth_zero, nth_succ]; first | done | (with_reducible exact rfl)))
      | ((with_reducible apply eJ); (rfl))
      | ((with_reducible apply eB); (first | (with_reducible exact rfl) | (simp (disch := omega) only [qf, lc, e0]; first | done | (with_reducible exact rfl) | (with_reducible exact ⟨rfl, rfl⟩)) | (simp (disch := omega) only [qa, putC, AV.cells, storable, buildSt, fillA, buildRo, buildOwn, fillE, Nat.reduceLeDiff, Nat.reduceLT, Nat.reduceAdd, ↓reduceIte, lc, e0]; first | done | (with_reducible exact rfl) | (with_reducible exact ⟨rfl, rfl⟩))))
      | ((with_reducible apply eR); (simp only [nth_zero, nth_succ]; (with_reducible exact rfl)))
      | ((with_reducible first | refine sEql ?_ ?_ | refine sNeq ?_ ?_ | refine sLss ?_ ?_ | refine sLeq ?_ ?_ | refine sGtr ?_ ?_ | refine sGeq ?_ ?_ | refine sNot ?_ ?_ | refine sPick ?_ ?_ | refine sGd ?_ ?_ | refine eBool ?_ ?_) <;> intro hq <;> try subst hq)
    exact w1 rfl rfl
  rw [if_neg hb]
  by_cases hr : R < 0 ∨ 65536 < R ∨ M < 0 ∨ 65536 < M
  · rw [if_pos hr]
    repeat' first
      | (with_reducible first | refine eT ?_ | refine eN ?_ | refine eS ?_ | refine eXn ?_ | refine eXr ?_ | refine eX ?_ | refine eI ?_ | refine eK ?_ | refine eV0 ?_ | refine eGtt ?_ | refine eGff ?_ | refine eGtf ?_ | refine eGft ?_ | refine eGno ?_)
      | ((with_reducible apply eCn); (simp only [nth_zero, nth_succ]; first | done | (with_reducible exact rfl)))
      | ((with_reducible apply eJ); (rfl))
      | ((with_reducible apply eB); (first | (with_reducible exact rfl) | (simp (disch := omega) only [qf, lc, e0]; first | done | (with_reducible exact rfl) | (with_reducible exact ⟨rfl, rfl⟩)) | (simp (disch := omega) only [qa, putC, AV.cells, storable, buildSt, fillA, buildRo, buildOwn, fillE, Nat.reduceLeDiff, Nat.reduceLT, Nat.reduceAdd, ↓reduceIte, lc, e0]; first | done | (with_reducible exact rfl) | (with_reducible exact ⟨rfl, rfl⟩))))
      | ((with_reducible apply eR); (simp only [nth_zero, nth_succ]; (with_reducible exact rfl)))
      | ((with_reducible first | refine sEql ?_ ?_ | refine sNeq ?_ ?_ | refine sLss ?_ ?_ | refine sLeq ?_ ?_ | refine sGtr ?_ ?_ | refine sGeq ?_ ?_ | refine sNot ?_ ?_ | refine sPick ?_ ?_ | refine sGd ?_ ?_ | refine eBool ?_ ?_) <;> intro hq <;> try subst hq)
    all_goals first | omega | exact w1 rfl rfl
  rw [if_neg hr]
  cases hv : badF R cs.length cs 0 with
  | ok =>
    simp only [List.length_nil, hv] at h2
    rw [h2] at h1
    repeat' first
      | (with_reducible first | refine eT ?_ | refine eN ?_ | refine eS ?_ | refine eXn ?_ | refine eXr ?_ | refine eX ?_ | refine eI ?_ | refine eK ?_ | refine eV0 ?_ | refine eGtt ?_ | refine eGff ?_ | refine eGtf ?_ | refine eGft ?_ | refine eGno ?_)
      | ((with_reducible apply eCn); (simp only [nth_zero, nth_succ]; first | done | (with_reducible exact rfl)))
      | ((with_reducible apply eJ); (rfl))
      | ((with_reducible apply eL); (first | exact h1))
      | ((with_reducible apply eB); (first | (with_reducible exact rfl) | (simp (disch := omega) only [qf, lc, e0]; first | done | (with_reducible exact rfl) | (with_reducible exact ⟨rfl, rfl⟩)) | (simp (disch := omega) only [qa, putC, AV.cells, storable, buildSt, fillA, buildRo, buildOwn, fillE, Nat.reduceLeDiff, Nat.reduceLT, Nat.reduceAdd, ↓reduceIte, lc, e0]; first | done | (with_reducible exact rfl) | (with_reducible exact ⟨rfl, rfl⟩))))
      | ((with_reducible apply eR); (simp only [nth_zero, nth_succ]; (with_reducible exact rfl)))
      | ((with_reducible first | refine sEql ?_ ?_ | refine sNeq ?_ ?_ | refine sLss ?_ ?_ | refine sLeq ?_ ?_ | refine sGtr ?_ ?_ | refine sGeq ?_ ?_ | refine sNot ?_ ?_ | refine sPick ?_ ?_ | refine sGd ?_ ?_ | refine eBool ?_ ?_) <;> intro hq <;> try subst hq)
    all_goals first | omega | exact w1 rfl rfl
  | bare e =>
    simp only [List.length_nil, hv] at h2
    obtain ⟨j, H', h2⟩ := h2
    rw [h2] at h1
    repeat' first
      | (with_reducible first | refine eT ?_ | refine eN ?_ | refine eS ?_ | refine eXn ?_ | refine eXr ?_ | refine eX ?_ | refine eI ?_ | refine eK ?_ | refine eV0 ?_ | refine eGtt ?_ | refine eGff ?_ | refine eGtf ?_ | refine eGft ?_ | refine eGno ?_)
      | ((with_reducible apply eCn); (simp only [nth_zero, nth_succ]; first | done | (with_reducible exact rfl)))
      | ((with_reducible apply eJ); (rfl))
      | ((with_reducible apply eL); (first | exact h1))
      | ((with_reducible apply eB); (first | (with_reducible exact rfl) | (simp (disch := omega) only [qf, lc, e0]; first | done | (with_reducible exact rfl) | (with_reducible exact ⟨rfl, rfl⟩)) | (simp (disch := omega) only [qa, putC, AV.cells, storable, buildSt, fillA, buildRo, buildOwn, fillE, Nat.reduceLeDiff, Nat.reduceLT, Nat.reduceAdd, ↓reduceIte, lc, e0]; first | done | (with_reducible exact rfl) | (with_reducible exact ⟨rfl, rfl⟩))))
      | ((with_reducible apply eR); (simp only [nth_zero, nth_succ]; (with_reducible exact rfl)))
      | ((with_reducible first | refine sEql ?_ ?_ | refine sNeq ?_ ?_ | refine sLss ?_ ?_ | refine sLeq ?_ ?_ | refine sGtr ?_ ?_ | refine sGeq ?_ ?_ | refine sNot ?_ ?_ | refine sPick ?_ ?_ | refine sGd ?_ ?_ | refine eBool ?_ ?_) <;> intro hq <;> try subst hq)
    all_goals first | omega | exact w1 rfl rfl
  | at_ j e =>
    simp only [List.length_nil, hv] at h2
    obtain ⟨j', H', h2⟩ := h2
    rw [h2] at h1
    repeat' first
      | (with_reducible first | refine eT ?_ | refine eN ?_ | refine eS ?_ | refine eXn ?_ | refine eXr ?_ | refine eX ?_ | refine eI ?_ | refine eK ?_ | refine eV0 ?_ | refine eGtt ?_ | refine eGff ?_ | refine eGtf ?_ | refine eGft ?_ | refine eGno ?_)
      | ((with_reducible apply eCn); (simp only [nth_zero, nth_succ]; first | done | (with_reducible exact rfl)))
      | ((with_reducible apply eJ); (rfl))
      | ((with_reducible apply eL); (first | exact h1))
      | ((with_reducible apply eB); (first | (with_reducible exact rfl) | (simp (disch := omega) only [qf, lc, e0]; first | done | (with_reducible exact rfl) | (with_reducible exact ⟨rfl, rfl⟩)) | (simp (disch := omega) only [qa, putC, AV.cells, storable, buildSt, fillA, buildRo, buildOwn, fillE, Nat.reduceLeDiff, Nat.reduceLT, Nat.reduceAdd, ↓reduceIte, lc, e0]; first | done | (with_reducible exact rfl) | (with_reducible exact ⟨rfl, rfl⟩))))
      | ((with_reducible apply eR); (simp only [nth_zero, nth_succ]; (with_reducible exact rfl)))
      | ((with_reducible first | refine sEql ?_ ?_ | refine sNeq ?_ ?_ | refine sLss ?_ ?_ | refine sLeq ?_ ?_ | refine sGtr ?_ ?_ | refine sGeq ?_ ?_ | refine sNot ?_ ?_ | refine sPick ?_ ?_ | refine sGd ?_ ?_ | refine eBool ?_ ?_) <;> intro hq <;> try subst hq)
    all_goals first | omega | exact w1 rfl rfl

/-- What is amiss with memory, fuel. -/
def givenF (M : Int) (n : Nat) (fuel : Int) : VE :=
  if (n : Int) ≠ M then .bare 1 else if fuel < 0 ∨ 1073741824 < fuel then .bare 2 else .ok

include hg in
theorem Given_spec (bm : Bool) (mem : List Nat) (fuel : Int) : words_Given.f G (k + 1) [cdV bor cs R M, .ro bm (natsU mem), I6 fuel] [] = some (veV (givenF M mem.length fuel), []) := by
  rw [words_Given.step]
  unfold words_Given.c cdV
  have e1 : ∀ H, loadV G false 1 (.gl 1) H = some (eV 1) := fun H => hg.g1
  have e2 : ∀ H, loadV G false 1 (.gl 2) H = some (eV 2) := fun H => hg.g2
  have lc : lenSl (.ro bm (natsU mem)) = some (I6 mem.length) := by simp [lenSl, natsU_len]
  refine e_in ?_
  unfold givenF
  repeat' first
    | (with_reducible first | refine eT ?_ | refine eN ?_ | refine eS ?_ | refine eXn ?_ | refine eXr ?_ | refine eX ?_ | refine eI ?_ | refine eK ?_ | refine eV0 ?_ | refine eGtt ?_ | refine eGff ?_ | refine eGtf ?_ | refine eGft ?_ | refine eGno ?_)
    | ((with_reducible apply eCn); (simp only [nth_zero, nth_succ]; first | done | (with_reducible exact rfl)))
    | ((with_reducible apply eJ); (rfl))
    | ((with_reducible apply eB); (first | (with_reducible exact rfl) | (simp (disch := omega) only [qf, lc, e1, e2]; first | done | (with_reducible exact rfl) | (with_reducible exact ⟨rfl, rfl⟩)) | (simp (disch := omega) only [qa, putC, AV.cells, storable, buildSt, fillA, buildRo, buildOwn, fillE, Nat.reduceLeDiff, Nat.reduceLT, Nat.reduceAdd, ↓reduceIte, lc, e1, e2]; first | done | (with_reducible exact rfl) | (with_reducible exact ⟨rfl, rfl⟩))))
    | ((with_reducible apply eR); (simp only [nth_zero, nth_succ]; (with_reducible exact rfl)))
    | ((with_reducible first | refine sEql ?_ ?_ | refine sNeq ?_ ?_ | refine sLss ?_ ?_ | refine sLeq ?_ ?_ | refine sGtr ?_ ?_ | refine sGeq ?_ ?_ | refine sNot ?_ ?_ | refine sPick ?_ ?_ | refine sGd ?_ ?_ | refine eBool ?_ ?_) <;> intro hq <;> try subst hq)
  all_goals (simp (disch := omega) only [if_pos, if_neg, if_true, if_false, ↓reduceIte, ne_eq, not_true_eq_false]; first | omega | exact w1 rfl rfl)
end
end Go.Proofs.YtcmblhedhgiofaaDoor.Mir
