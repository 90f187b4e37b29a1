/- A run with its checks. -/
import Derived.Test.YtcmblhedhgiofaaDoorWg
namespace Go.Proofs.YtcmblhedhgiofaaDoor.Mir
open Go
set_option linter.unusedVariables false
set_option linter.unusedSimpArgs false
set_option maxHeartbeats 4000000

theorem oneF_ok {i : Ins} {R n : Int} (h : oneF i R n = none) (hR : 0 ≤ R) : i.Ok R.toNat n.toNat := by
  unfold oneF at h
  have out : ∀ {t : Bool} {r : Int}, outR t r R = false → t = true → 0 ≤ r ∧ r < R := fun {t r} ho ht => by
    subst ht; simp [outR] at ho; omega
  by_cases h20 : 1 ≤ i.op ∧ i.op ≤ 20
  · by_cases h1 : out4 (frmD i.op) i R = true
    · rw [if_pos h1] at h; split at h <;> cases h
    rw [if_neg h1] at h
    by_cases h2 : off5 (frmD i.op) i = true
    · rw [if_pos h2] at h; split at h <;> cases h
    rw [if_neg h2] at h
    obtain ⟨op, d, a, b, c, kk⟩ := i
    simp only at h h1 h2 h20
    simp only [out4, off5, Bool.or_eq_true, not_or, Bool.and_eq_true, Bool.not_eq_true', decide_eq_true_eq, not_and, Bool.not_eq_true] at h1 h2
    rcases op20 h20 with rfl | rfl | rfl | rfl | rfl | rfl | rfl | rfl | rfl | rfl | rfl | rfl | rfl | rfl | rfl | rfl | rfl | rfl | rfl | rfl
    all_goals (
      simp [frmD, formF, outR] at h1 h2
      simp [formF] at h
      constructor <;> simp <;> omega)
  · rw [formF_none h20] at h; simp at h

theorem badF_ok {R n : Int} (hR : 0 ≤ R) : ∀ {l : List Ins} {j : Nat}, badF R n l j = .ok → ∀ i ∈ l, i.Ok R.toNat n.toNat
  | [], _, _, i, hi => by cases hi
  | x :: l, j, h, i, hi => by
    unfold badF at h
    split at h
    · cases h
    · rename_i ho
      rcases List.mem_cons.1 hi with rfl | hi
      · exact oneF_ok ho hR
      · exact badF_ok hR h i hi

theorem validF_ok {cs : List Ins} {R M : Int} (h : validF cs R M = .ok) : (0 ≤ R ∧ R ≤ 65536 ∧ 0 ≤ M ∧ M ≤ 65536 ∧ cs.length ≤ 262144) ∧ ∀ j, j < cs.length → (cs.getD j default).Ok R.toNat cs.length := by
  unfold validF at h
  by_cases h1 : 262144 < cs.length
  · rw [if_pos h1] at h; cases h
  rw [if_neg h1] at h
  by_cases h2 : R < 0 ∨ 65536 < R ∨ M < 0 ∨ 65536 < M
  · rw [if_pos h2] at h; cases h
  rw [if_neg h2] at h
  refine ⟨by omega, fun j hj => ?_⟩
  have := badF_ok (by omega) h (cs.getD j default) (by simp [List.getD, List.getElem?_eq_getElem hj])
  rwa [Int.toNat_natCast] at this

def zeroRes : AV := .agg [.int .i64 0, .nils, .nils, .int .i64 0]
abbrev pZ : ABlk := ⟨40, 4, [.agg [.int .i64 0, .nils, .nils, .int .i64 0]]⟩

section
variable {bor : Bool} (G : Globs) (hg : GOk G) (k : Nat) (cs : List Ins) (R M : Int) (bm : Bool) (mem : List Nat) (fuel : Int)

theorem neq_veV {v : VE} (h : v ≠ .ok) : bin Tryd.prog .neq 35 true (veV v) .nili = some (.bool true) := by
  cases v with
  | ok => exact absurd rfl h
  | bare e => kernel_rfl
  | at_ j e => kernel_rfl

include hg in
theorem Run_bad (hk : cs.length < k + 7) (hcl : cs.length ≤ 1000000) (h : validF cs R M ≠ .ok) :
    words_Run.f G (k + 9) [cdV bor cs R M, .ro bm (natsU mem), I6 fuel] [] = some (.tup [zeroRes, veV (validF cs R M)], []) := by
  rw [words_Run.step]
  unfold words_Run.c
  have r1 : ∀ H, pureCall (words_Valid.f G (k + 8)) [cdV bor cs R M] H = _ := fun H => pureCall_of (H := H) (Valid_spec G hg k cs R M hk hcl) (by simp [plainL, plainB, plainC, cdV]) (veV_clean _)
  have q := neq_veV h
  have hl := veV_low (validF cs R M)
  generalize validF cs R M = v at *
  unfold cdV at *
  have fin : finL [some zeroRes, some (veV v)] ([] : AHeap).length [pZ] = some (.ret, [.tup [zeroRes, veV v]], []) := by
    unfold finL
    simp only [allSome]
    exact finV_two rfl hl _
  refine e_in ?_
  repeat' first
    | (with_reducible first | refine eT ?_ | refine eN ?_ | refine eS ?_ | refine eXn ?_ | refine eXr ?_ | refine eX ?_ | refine eI ?_ | refine eK ?_ | refine eV0 ?_ | refine eGtt ?_ | refine eGff ?_ | refine eGtf ?_ | refine eGft ?_ | refine eGno ?_)
    | ((with_reducible apply eCn); (simp only [nth_zero, nth_succ]; first | done | (with_reducible exact rfl)))
    | ((with_reducible apply eJ); (rfl))
    | ((with_reducible apply eB); (first | (with_reducible exact rfl) | (simp (disch := omega) only [qf, r1, q]; first | done | (with_reducible exact rfl) | (with_reducible exact ⟨rfl, rfl⟩)) | (simp (disch := omega) only [qa, putC, AV.cells, storable, buildSt, fillA, buildRo, buildOwn, fillE, Nat.reduceLeDiff, Nat.reduceLT, Nat.reduceAdd, ↓reduceIte, r1, q]; first | done | (with_reducible exact rfl) | (with_reducible exact ⟨rfl, rfl⟩))))
    | ((with_reducible apply eR); (simp only [nth_zero, nth_succ]; (with_reducible exact rfl)))
    | ((with_reducible first | refine sEql ?_ ?_ | refine sNeq ?_ ?_ | refine sLss ?_ ?_ | refine sLeq ?_ ?_ | refine sGtr ?_ ?_ | refine sGeq ?_ ?_ | refine sNot ?_ ?_ | refine sPick ?_ ?_ | refine sGd ?_ ?_ | refine eBool ?_ ?_) <;> intro hq <;> try subst hq)
  exact oF fin

include hg in
theorem Run_none (hk : cs.length < k + 7) (hcl : cs.length ≤ 1000000) (h : validF cs R M = .ok) (h2 : givenF M mem.length fuel ≠ .ok) :
    words_Run.f G (k + 9) [cdV bor cs R M, .ro bm (natsU mem), I6 fuel] [] = some (.tup [zeroRes, veV (givenF M mem.length fuel)], []) := by
  rw [words_Run.step]
  unfold words_Run.c
  have r1 : ∀ H, pureCall (words_Valid.f G (k + 8)) [cdV bor cs R M] H = _ := fun H => pureCall_of (H := H) (Valid_spec G hg k cs R M hk hcl) (by simp [plainL, plainB, plainC, cdV]) (veV_clean _)
  have r2 : ∀ H, pureCall (words_Given.f G (k + 8)) [cdV bor cs R M, .ro bm (natsU mem), I6 fuel] H = _ := fun H => pureCall_of (H := H) (Given_spec G hg (k + 7) cs R M bm mem fuel) (by simp [plainL, plainB, plainC, cdV, plainU]) (veV_clean _)
  rw [h] at r1
  have q0 : bin Tryd.prog .neq 35 true .nili .nili = some (.bool false) := by kernel_rfl
  have q := neq_veV h2
  have hl := veV_low (givenF M mem.length fuel)
  generalize givenF M mem.length fuel = v at *
  unfold cdV at *
  simp only [veV] at r1
  have fin : finL [some zeroRes, some (veV v)] ([] : AHeap).length [pZ] = some (.ret, [.tup [zeroRes, veV v]], []) := by
    unfold finL
    simp only [allSome]
    exact finV_two rfl hl _
  refine e_in ?_
  repeat' first
    | (with_reducible first | refine eT ?_ | refine eN ?_ | refine eS ?_ | refine eXn ?_ | refine eXr ?_ | refine eX ?_ | refine eI ?_ | refine eK ?_ | refine eV0 ?_ | refine eGtt ?_ | refine eGff ?_ | refine eGtf ?_ | refine eGft ?_ | refine eGno ?_)
    | ((with_reducible apply eCn); (simp only [nth_zero, nth_succ]; first | done | (with_reducible exact rfl)))
    | ((with_reducible apply eJ); (rfl))
    | ((with_reducible apply eB); (first | (with_reducible exact rfl) | (simp (disch := omega) only [qf, r1, r2, q, q0]; first | done | (with_reducible exact rfl) | (with_reducible exact ⟨rfl, rfl⟩)) | (simp (disch := omega) only [qa, putC, AV.cells, storable, buildSt, fillA, buildRo, buildOwn, fillE, Nat.reduceLeDiff, Nat.reduceLT, Nat.reduceAdd, ↓reduceIte, r1, r2, q, q0]; first | done | (with_reducible exact rfl) | (with_reducible exact ⟨rfl, rfl⟩))))
    | ((with_reducible apply eR); (simp only [nth_zero, nth_succ]; (with_reducible exact rfl)))
    | ((with_reducible first | refine sEql ?_ ?_ | refine sNeq ?_ ?_ | refine sLss ?_ ?_ | refine sLeq ?_ ?_ | refine sGtr ?_ ?_ | refine sGeq ?_ ?_ | refine sNot ?_ ?_ | refine sPick ?_ ?_ | refine sGd ?_ ?_ | refine eBool ?_ ?_) <;> intro hq <;> try subst hq)
  exact oF fin

include hg in
theorem Run_spec (hk : cs.length < k + 7) (hcl : cs.length ≤ 100000) (h : validF cs R M = .ok) (h2 : givenF M mem.length fuel = .ok) (hm : ∀ x ∈ mem, x < 18446744073709551616) (hf : fuel ≤ 99999) (hk2 : fuel < k + 7) :
    ∃ s', runM cs fuel (k + 7) (s0 R.toNat mem) = some s' ∧ words_Run.f G (k + 9) [cdV bor cs R M, .ro bm (natsU mem), I6 fuel] [] = some (.tup [endV s', .nili], []) := by
  obtain ⟨⟨hR0, hR1, hM0, hM1, hcl2⟩, hok⟩ := validF_ok h
  have hgv : (mem.length : Int) = M ∧ 0 ≤ fuel := by
    unfold givenF at h2
    split at h2
    · cases h2
    · split at h2
      · cases h2
      · omega
  obtain ⟨s', w1_, w2_⟩ := watch_spec G (k + 3) pZ rfl rfl bor bm cs R.toNat M fuel mem (by omega) hm (by omega) hgv.2 hf (by omega) hcl hok
  refine ⟨s', w1_, ?_⟩
  rw [words_Run.step]
  unfold words_Run.c
  have r1 : ∀ H, pureCall (words_Valid.f G (k + 8)) [cdV bor cs R M] H = _ := fun H => pureCall_of (H := H) (Valid_spec G hg k cs R M hk (by omega)) (by simp [plainL, plainB, plainC, cdV]) (veV_clean _)
  have r2 : ∀ H, pureCall (words_Given.f G (k + 8)) [cdV bor cs R M, .ro bm (natsU mem), I6 fuel] H = _ := fun H => pureCall_of (H := H) (Given_spec G hg (k + 7) cs R M bm mem fuel) (by simp [plainL, plainB, plainC, cdV, plainU]) (veV_clean _)
  rw [h] at r1
  rw [h2] at r2
  have q0 : bin Tryd.prog .neq 35 true .nili .nili = some (.bool false) := by kernel_rfl
  have hRn : ((R.toNat : Nat) : Int) = R := Int.toNat_of_nonneg hR0
  rw [hRn] at w2_
  have r3 : heapCall (words_Watch.f G (k + 8)) [cdV bor cs R M, .ro bm (natsU mem), I6 fuel, .nilf] [pZ] = some (endV s', [pZ]) := heapCall_of w2_ (Nat.le_refl _)
  have st : stS (storeV 4 (.ptr 0 1 0 0) (endV s') [pZ]) = some (.tup [], [⟨40, 4, [endV s']⟩]) := rfl
  have ld : loadV G true 4 (.ptr 0 1 0 0) [⟨40, 4, [endV s']⟩] = some (endV s') := rfl
  have fin : finL [some (endV s'), some .nili] ([] : AHeap).length [⟨40, 4, [endV s']⟩] = some (.ret, [.tup [endV s', .nili]], []) := by
    unfold finL
    simp only [allSome]
    exact finV_two (by simp [endV, belowB, belowL, natsU_below, leaksV_below]) rfl _
  unfold cdV at *
  simp only [veV] at r1 r2
  generalize endV s' = e at *
  refine e_in ?_
  repeat first
    | (with_reducible first | refine eT ?_ | refine eN ?_ | refine eS ?_ | refine eXn ?_ | refine eXr ?_ | refine eX ?_ | refine eI ?_ | refine eK ?_ | refine eV0 ?_ | refine eGtt ?_ | refine eGff ?_ | refine eGtf ?_ | refine eGft ?_ | refine eGno ?_)
    | ((with_reducible apply eCn); (simp only [nth_zero, nth_succ]; first | done | (with_reducible exact rfl)))
    | ((with_reducible apply eJ); (rfl))
    | ((with_reducible apply eB); (first | (with_reducible exact rfl) | (simp (disch := omega) only [qf, r1, r2, r3, q0, st, ld]; first | done | (with_reducible exact rfl) | (with_reducible exact ⟨rfl, rfl⟩)) | (simp (disch := omega) only [qa, putC, AV.cells, storable, buildSt, fillA, buildRo, buildOwn, fillE, Nat.reduceLeDiff, Nat.reduceLT, Nat.reduceAdd, ↓reduceIte, r1, r2, r3, q0, st, ld]; first | done | (with_reducible exact rfl) | (with_reducible exact ⟨rfl, rfl⟩))))
    | ((with_reducible apply eR); (simp only [nth_zero, nth_succ]; (with_reducible exact rfl)))
  rw [ld]
  exact oF fin
end
end Go.Proofs.YtcmblhedhgiofaaDoor.Mir
