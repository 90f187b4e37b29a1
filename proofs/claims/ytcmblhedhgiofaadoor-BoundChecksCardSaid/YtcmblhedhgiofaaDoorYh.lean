/- bound.Check: where a run first leaves its spans. -/
import Derived.Test.YtcmblhedhgiofaaDoorYg
import Derived.Test.YtcmblhedhgiofaaDoorWh
namespace Go.Proofs.YtcmblhedhgiofaaDoor.Mir.B3
open Go
set_option linter.unusedVariables false
set_option linter.unusedSimpArgs false
set_option maxHeartbeats 8000000
set_option maxRecDepth 20000

section
variable (G : Globs) (bor b2 bm : Bool) (cs : List Ins) (sp : List (Int × Int)) (R : Nat) (M : Int) (fuel : Int) (k : Nat) (mem : List Nat)

abbrev h3 (w : Int) : AHeap := [b0 bor cs R M, b1 b2 sp, bw w]
theorem h3_below (n : Nat) (w : Int) : heapBelow n (h3 bor b2 cs sp R M w) = true := by
  simp [heapBelow, belowL, belowB, cdV, codeV_below, leaksV_below]
theorem eqLk (l : List (Int × Int)) : eqAL (leaksV l) (leaksV l) = true := eqAL_map _ (fun _ => by simp [leakV, eqAV, eqAL]) l

/-- The heap ahead of a clone. -/
def hpC : AHeap :=
  [b0 bor cs R M, b1 b2 sp, bw (-1), ⟨40, 4, [.agg [.int .i64 0, .nils, .nils, .int .i64 0]]⟩, ⟨48, 1, natsU (List.replicate R 0)⟩,
   ⟨126, 9, [.agg [.ro bor (codeV cs), I6 R, I6 M, .sl 4 R 0 R 1, .int .i64 0, .int .i64 0, .nils, .nils, .int .i64 0]]⟩]
theorem hpC_self : eqHp (hpC bor b2 cs sp R M) (hpC bor b2 cs sp R M) = true := by
  simp [hpC, eqHp, eqAL, eqAV, eqU, eqC, eqLk, cdV]

theorem watch_spec (hR : R ≤ 1000000) (hm : ∀ x ∈ mem, x < 18446744073709551616) (hml : mem.length ≤ 1000000) (h0 : 0 ≤ fuel) (hf : fuel ≤ 99999) (hk : fuel < k + 4) (hcl : cs.length ≤ 100000) (hsp : sp.length = cs.length)
    (hcs : ∀ j, j < cs.length → (cs.getD j default).Ok R cs.length) :
    ∃ s' w, runB sp cs fuel (k + 4) (s0 R mem) = some (s', w) ∧ words_Watch.f G (k + 5) [cdV bor cs R M, .ro bm (natsU mem), I6 fuel, LK] (h3 bor b2 cs sp R M (-1)) = some (endV s', h3 bor b2 cs sp R M w) := by
  obtain ⟨⟨s', w⟩, hs⟩ := runB_some sp cs fuel (k + 4) (s0 R mem) (by simp only [s0]; omega) (by simp only [s0]; omega)
  refine ⟨s', w, hs, ?_⟩
  rw [words_Watch.step]
  unfold words_Watch.c
  have loop := watch_loop G bor b2 bor false cs sp R M fuel (words_Watch.f G (k + 4)) k hf hcl hsp hcs (k + 4) (s0 R mem) s' w hs (s0_ok R mem hm hml) (by simp [s0]) (by simp only [s0]; omega)
  have c5 : makeSliceV 48 1 (.int .u64 0) (I6 R) (I6 R) [b0 bor cs R M, b1 b2 sp, bw (-1), ⟨40, 4, [.agg [.int .i64 0, .nils, .nils, .int .i64 0]]⟩] = some (.sl 4 R 0 R 1, [b0 bor cs R M, b1 b2 sp, bw (-1), ⟨40, 4, [.agg [.int .i64 0, .nils, .nils, .int .i64 0]]⟩, ⟨48, 1, natsU (List.replicate R 0)⟩]) := by
    unfold makeSliceV
    have : (0 : Int) ≤ R ∧ (R : Int) ≤ R ∧ (R : Int) ≤ 1099511627776 := by omega
    simp only [this, and_self, if_true, Int.toNat_natCast, natsU, List.map_replicate]
    rfl
  have c8 := heapCall_of (clone_spec G (k + 3) (hpC bor b2 cs sp R M) (hpC_self bor b2 cs sp R M) bm mem hml) (by simp)
  have e8 : (hpC bor b2 cs sp R M).length + 1 = 7 := rfl
  rw [e8] at c8
  refine e_in ?_
  have e9 : (hpC bor b2 cs sp R M ++ [⟨48, 1, []⟩, ⟨48, 1, natsU mem⟩] : AHeap) = [b0 bor cs R M, b1 b2 sp, bw (-1), ⟨40, 4, [.agg [.int .i64 0, .nils, .nils, .int .i64 0]]⟩, ⟨48, 1, natsU (List.replicate R 0)⟩,
   ⟨126, 9, [.agg [.ro bor (codeV cs), I6 R, I6 M, .sl 4 R 0 R 1, .int .i64 0, .int .i64 0, .nils, .nils, .int .i64 0]]⟩, ⟨48, 1, []⟩, ⟨48, 1, natsU mem⟩] := rfl
  rw [e9] at c8
  unfold hpC at c8
  have x1 : ∀ H, boxRoA (cdV bor cs R M) H = some (.rp false (cdV bor cs R M) 0, H) := fun H => rfl
  have x2 : ∀ H, loadV G true 3 (.rp false (cdV bor cs R M) 0) H = some (.agg [.ro bor (codeV cs), I6 R, I6 M]) := fun H => rfl
  have x3 : ∀ H, loadV G false 1 (.rp false (cdV bor cs R M) 1) H = some (I6 R) := fun H => rfl
  have x4 : boxA 40 (.agg [(.int .i64 0), .nils, .nils, (.int .i64 0)]) (h3 bor b2 cs sp R M (-1)) = some (.ptr 3 1 0 0, [b0 bor cs R M, b1 b2 sp, bw (-1), ⟨40, 4, [.agg [.int .i64 0, .nils, .nils, .int .i64 0]]⟩]) := rfl
  have x5 : boxA 126 (.agg [.ro bor (codeV cs), I6 R, I6 M, .sl 4 R 0 R 1, .int .i64 0, .int .i64 0, .nils, .nils, .int .i64 0]) [b0 bor cs R M, b1 b2 sp, bw (-1), ⟨40, 4, [.agg [.int .i64 0, .nils, .nils, .int .i64 0]]⟩, ⟨48, 1, natsU (List.replicate R 0)⟩] = some (.ptr 5 1 0 0, [b0 bor cs R M, b1 b2 sp, bw (-1), ⟨40, 4, [.agg [.int .i64 0, .nils, .nils, .int .i64 0]]⟩, ⟨48, 1, natsU (List.replicate R 0)⟩,
   ⟨126, 9, [.agg [.ro bor (codeV cs), I6 R, I6 M, .sl 4 R 0 R 1, .int .i64 0, .int .i64 0, .nils, .nils, .int .i64 0]]⟩]) := rfl
  have x6 : stS (storeV 1 (.ptr 5 1 0 6) (.sl 7 mem.length 0 mem.length 1) [b0 bor cs R M, b1 b2 sp, bw (-1), ⟨40, 4, [.agg [.int .i64 0, .nils, .nils, .int .i64 0]]⟩, ⟨48, 1, natsU (List.replicate R 0)⟩,
   ⟨126, 9, [.agg [.ro bor (codeV cs), I6 R, I6 M, .sl 4 R 0 R 1, .int .i64 0, .int .i64 0, .nils, .nils, .int .i64 0]]⟩, ⟨48, 1, []⟩, ⟨48, 1, natsU mem⟩]) = some (.tup [], [b0 bor cs R M, b1 b2 sp, bw (-1), ⟨40, 4, [.agg [.int .i64 0, .nils, .nils, .int .i64 0]]⟩, ⟨48, 1, natsU (List.replicate R 0)⟩,
   ⟨126, 9, [.agg [.ro bor (codeV cs), I6 R, I6 M, .sl 4 R 0 R 1, .int .i64 0, .int .i64 0, .sl 7 mem.length 0 mem.length 1, .nils, .int .i64 0]]⟩, ⟨48, 1, []⟩, ⟨48, 1, natsU mem⟩]) := rfl
  repeat first
    | (with_reducible first | refine eT ?_ | refine eN ?_ | refine eS ?_ | refine eXn ?_ | refine eXr ?_ | refine eX ?_ | refine eI ?_ | refine eK ?_ | refine eV0 ?_ | refine eGtt ?_ | refine eGff ?_ | refine eGtf ?_ | refine eGft ?_ | refine eGno ?_)
    | ((with_reducible apply eCn); (simp only [nth_zero, nth_succ]; first | done | (with_reducible exact rfl)))
    | ((with_reducible apply eJ); (rfl))
    | ((with_reducible apply eB); (first | (with_reducible exact rfl) | (simp (disch := omega) only [qf, x1, x2, x3, x4, x5, x6, c5, c8]; first | done | (with_reducible exact rfl) | (with_reducible exact ⟨rfl, rfl⟩)) | (simp (disch := omega) only [qa, putC, AV.cells, storable, buildSt, fillA, buildRo, buildOwn, fillE, Nat.reduceLeDiff, Nat.reduceLT, Nat.reduceAdd, ↓reduceIte, x1, x2, x3, x4, x5, x6, c5, c8]; first | done | (with_reducible exact rfl) | (with_reducible exact ⟨rfl, rfl⟩))))
    | ((with_reducible apply eR); (simp only [nth_zero, nth_succ]; (with_reducible exact rfl)))
  refine eV1 (H1 := hpT bor b2 bor cs sp R M (-1) (s0 R mem)) (by simp only [hpM, s0, List.length_replicate]; rfl) ?_
  have e7 : (hpT bor b2 bor cs sp R M (-1) (s0 R mem)).length = 9 := rfl
  have hl : loadV G true 4 (.ptr 3 1 0 0) (hpE bor b2 bor cs sp R M w s') = some (resV s') := rfl
  have fin : finL [loadV G true 4 (.ptr 3 1 0 0) (hpE bor b2 bor cs sp R M w s')] 3 (hpE bor b2 bor cs sp R M w s') = some (.ret, [endV s'], h3 bor b2 cs sp R M w) := by
    have f1 := frz_sl (H := hpE bor b2 bor cs sp R M w s') (b := 7) (n0 := 3) (d := 4) (ty := 48) rfl (by omega) (natsU_len s'.mem) (allSz_U _) (natsU_below 3 _)
    have f2 := frz_sl (H := hpE bor b2 bor cs sp R M w s') (b := 8) (n0 := 3) (d := 4) (ty := 96) rfl (by omega) (leaksV_len s'.leaks) (allSz_L _) (leaksV_below 3 _)
    have f3 : frz (hpE bor b2 bor cs sp R M w s') 3 6 (resV s') = some (endV s') :=
      frz_agg (by simp [belowL, belowB]) (mapO_cons (frz_low rfl 5) (mapO_cons f1 (mapO_cons f2 (mapO_cons (frz_low rfl 5) mapO_nil))))
    unfold finL
    rw [hl]
    simp only [allSome]
    exact finV_at f3 (h3_below bor b2 cs sp R M 3 w)
  simp only [xsM] at loop
  have e1 : (h3 bor b2 cs sp R M (-1)).length = 3 := rfl
  simp only [e1]
  refine eV0 ?_
  rw [e7]
  refine eK ?_
  refine eL loop ?_
  repeat first
    | (with_reducible first | refine eT ?_ | refine eN ?_ | refine eS ?_ | refine eXn ?_ | refine eXr ?_ | refine eX ?_ | refine eI ?_ | refine eK ?_ | refine eV0 ?_ | refine eGtt ?_ | refine eGff ?_ | refine eGtf ?_ | refine eGft ?_ | refine eGno ?_)
    | ((with_reducible apply eCn); (simp only [nth_zero, nth_succ]; first | done | (with_reducible exact rfl)))
    | ((with_reducible apply eJ); (rfl))
    | ((with_reducible apply eB); (first | (with_reducible exact rfl) | (simp (disch := omega) only [qf, hl]; first | done | (with_reducible exact rfl) | (with_reducible exact ⟨rfl, rfl⟩)) | (simp (disch := omega) only [qa, putC, AV.cells, storable, buildSt, fillA, buildRo, buildOwn, fillE, Nat.reduceLeDiff, Nat.reduceLT, Nat.reduceAdd, ↓reduceIte, hl]; first | done | (with_reducible exact rfl) | (with_reducible exact ⟨rfl, rfl⟩))))
    | ((with_reducible apply eR); (simp only [nth_zero, nth_succ]; (with_reducible exact rfl)))
  exact oF fin
end
/-- What is amiss ahead of a run. -/
def checkF (cs : List Ins) (R M : Int) (n m : Nat) (fuel : Int) : VE :=
  match validF cs R M with
  | .ok => if n ≠ cs.length then .bare 1 else givenF M m fuel
  | v => v
theorem checkF_bad {cs : List Ins} {R M : Int} {n m : Nat} {fuel : Int} (h : validF cs R M ≠ .ok) : checkF cs R M n m fuel = validF cs R M := by
  unfold checkF
  generalize validF cs R M = v at *
  cases v with
  | ok => exact absurd rfl h
  | bare e => rfl
  | at_ j e => rfl
theorem checkF_ok {cs : List Ins} {R M : Int} {n m : Nat} {fuel : Int} (h : validF cs R M = .ok) : checkF cs R M n m fuel = if n ≠ cs.length then .bare 1 else givenF M m fuel := by
  unfold checkF
  rw [h]
theorem VE.dec (v : VE) : v = .ok ∨ v ≠ .ok := by cases v <;> simp

section
variable (G : Globs) (hg : GOk G) (k : Nat) (cs : List Ins) (sp : List (Int × Int)) (R M : Int) (bor b2 bm : Bool) (mem : List Nat) (fuel : Int)

include hg in
theorem Check_bad (hk : cs.length < k + 7) (hcl : cs.length ≤ 1000000) (h : checkF cs R M sp.length mem.length fuel ≠ .ok) :
    bound_Check.f G (k + 9) [cdV bor cs R M, .ro b2 (leaksV sp), .ro bm (natsU mem), I6 fuel] [] = some (.tup [.int .i64 0, veV (checkF cs R M sp.length mem.length fuel)], []) := by
  rw [bound_Check.step]
  unfold bound_Check.c
  have r1 : ∀ H, pureCall (words_Valid.f G (k + 8)) [cdV bor cs R M] H = _ := fun H => pureCall_of (H := H) (Valid_spec G hg k cs R M hk hcl) (by simp [plainL, plainB, plainC, cdV]) (veV_clean _)
  have r2 : ∀ H, pureCall (words_Given.f G (k + 8)) [cdV bor cs R M, .ro bm (natsU mem), I6 fuel] H = _ := fun H => pureCall_of (H := H) (Given_spec G hg (k + 7) cs R M bm mem fuel) (by simp [plainL, plainB, plainC, cdV, plainU]) (veV_clean _)
  have x1 : boxA 24 (cdV bor cs R M) [] = some (.ptr 0 1 0 0, [b0 bor cs R M]) := rfl
  have x2 : boxA 60 (.ro b2 (leaksV sp)) [b0 bor cs R M] = some (.ptr 1 1 0 0, [b0 bor cs R M, b1 b2 sp]) := rfl
  have x3 : loadV G true 3 (.ptr 0 1 0 0) [b0 bor cs R M, b1 b2 sp] = some (cdV bor cs R M) := rfl
  have x4 : loadV G false 1 (.ptr 1 1 0 0) [b0 bor cs R M, b1 b2 sp] = some (.ro b2 (leaksV sp)) := rfl
  have x5 : loadV G false 1 (.ptr 0 1 0 0) [b0 bor cs R M, b1 b2 sp] = some (.ro bor (codeV cs)) := rfl
  have x6 : ∀ H, loadV G false 1 (.gl 1) H = some (eV 1) := fun H => hg.g1
  have l1 : lenSl (.ro b2 (leaksV sp)) = some (I6 sp.length) := by simp [lenSl, leaksV_len]
  have l2 : lenSl (.ro bor (codeV cs)) = some (I6 cs.length) := by simp [lenSl, codeV_len]
  have q0 : bin Tryd.prog .neq 35 true .nili .nili = some (.bool false) := by kernel_rfl
  refine e_in ?_
  by_cases hv : validF cs R M ≠ .ok
  · rw [checkF_bad hv]
    have q := neq_veV hv
    have hl := veV_low (validF cs R M)
    generalize validF cs R M = v at *
    repeat first
      | (with_reducible first | refine eT ?_ | refine eN ?_ | refine eS ?_ | refine eXn ?_ | refine eXr ?_ | refine eX ?_ | refine eI ?_ | refine eK ?_ | refine eV0 ?_ | refine eGtt ?_ | refine eGff ?_ | refine eGtf ?_ | refine eGft ?_ | refine eGno ?_)
      | ((with_reducible apply eCn); (simp only [nth_zero, nth_succ]; first | done | (with_reducible exact rfl)))
      | ((with_reducible apply eJ); (rfl))
      | ((with_reducible apply eB); (first | (with_reducible exact rfl) | (simp (disch := omega) only [qf, x1, x2, x3, r1, q]; first | done | (with_reducible exact rfl) | (with_reducible exact ⟨rfl, rfl⟩)) | (simp (disch := omega) only [qa, putC, AV.cells, storable, buildSt, fillA, buildRo, buildOwn, fillE, Nat.reduceLeDiff, Nat.reduceLT, Nat.reduceAdd, ↓reduceIte, x1, x2, x3, r1, q]; first | done | (with_reducible exact rfl) | (with_reducible exact ⟨rfl, rfl⟩))))
      | ((with_reducible apply eR); (simp only [nth_zero, nth_succ]; (with_reducible exact rfl)))
    exact w2 rfl hl rfl
  · rw [checkF_ok (Classical.not_not.1 hv)] at h ⊢
    rw [Classical.not_not.1 hv] at r1
    simp only [veV] at r1
    by_cases hn : sp.length ≠ cs.length
    · rw [if_pos hn]
      have q1 : bin Tryd.prog .neq 3 false (I6 sp.length) (I6 cs.length) = some (.bool true) := q_neq_t (by omega)
      repeat first
        | (with_reducible first | refine eT ?_ | refine eN ?_ | refine eS ?_ | refine eXn ?_ | refine eXr ?_ | refine eX ?_ | refine eI ?_ | refine eK ?_ | refine eV0 ?_ | refine eGtt ?_ | refine eGff ?_ | refine eGtf ?_ | refine eGft ?_ | refine eGno ?_)
        | ((with_reducible apply eCn); (simp only [nth_zero, nth_succ]; first | done | (with_reducible exact rfl)))
        | ((with_reducible apply eJ); (rfl))
        | ((with_reducible apply eB); (first | (with_reducible exact rfl) | (simp (disch := omega) only [qf, x1, x2, x3, x4, x5, x6, l1, l2, r1, q0, q1]; first | done | (with_reducible exact rfl) | (with_reducible exact ⟨rfl, rfl⟩)) | (simp (disch := omega) only [qa, putC, AV.cells, storable, buildSt, fillA, buildRo, buildOwn, fillE, Nat.reduceLeDiff, Nat.reduceLT, Nat.reduceAdd, ↓reduceIte, x1, x2, x3, x4, x5, x6, l1, l2, r1, q0, q1]; first | done | (with_reducible exact rfl) | (with_reducible exact ⟨rfl, rfl⟩))))
        | ((with_reducible apply eR); (simp only [nth_zero, nth_succ]; (with_reducible exact rfl)))
      exact w2 rfl rfl rfl
    · rw [if_neg hn] at h ⊢
      have q1 : bin Tryd.prog .neq 3 false (I6 sp.length) (I6 cs.length) = some (.bool false) := q_neq_f (by omega)
      have q := neq_veV h
      have hl := veV_low (givenF M mem.length fuel)
      generalize givenF M mem.length fuel = v at *
      repeat first
        | (with_reducible first | refine eT ?_ | refine eN ?_ | refine eS ?_ | refine eXn ?_ | refine eXr ?_ | refine eX ?_ | refine eI ?_ | refine eK ?_ | refine eV0 ?_ | refine eGtt ?_ | refine eGff ?_ | refine eGtf ?_ | refine eGft ?_ | refine eGno ?_)
        | ((with_reducible apply eCn); (simp only [nth_zero, nth_succ]; first | done | (with_reducible exact rfl)))
        | ((with_reducible apply eJ); (rfl))
        | ((with_reducible apply eB); (first | (with_reducible exact rfl) | (simp (disch := omega) only [qf, x1, x2, x3, x4, x5, x6, l1, l2, r1, r2, q0, q1, q]; first | done | (with_reducible exact rfl) | (with_reducible exact ⟨rfl, rfl⟩)) | (simp (disch := omega) only [qa, putC, AV.cells, storable, buildSt, fillA, buildRo, buildOwn, fillE, Nat.reduceLeDiff, Nat.reduceLT, Nat.reduceAdd, ↓reduceIte, x1, x2, x3, x4, x5, x6, l1, l2, r1, r2, q0, q1, q]; first | done | (with_reducible exact rfl) | (with_reducible exact ⟨rfl, rfl⟩))))
        | ((with_reducible apply eR); (simp only [nth_zero, nth_succ]; (with_reducible exact rfl)))
      exact w2 rfl hl rfl

include hg in
theorem Check_ok (hk : cs.length < k + 7) (hcl : cs.length ≤ 100000) (h : checkF cs R M sp.length mem.length fuel = .ok) (hm : ∀ x ∈ mem, x < 18446744073709551616) (hf : fuel ≤ 99999) (hk2 : fuel < k + 7) :
    ∃ s' w, runB sp cs fuel (k + 7) (s0 R.toNat mem) = some (s', w) ∧ bound_Check.f G (k + 9) [cdV bor cs R M, .ro b2 (leaksV sp), .ro bm (natsU mem), I6 fuel] [] = some (.tup [I6 w, .nili], []) := by
  have hv : validF cs R M = .ok := by
    by_cases hv : validF cs R M ≠ .ok
    · rw [checkF_bad hv] at h; exact h
    · exact Classical.not_not.1 hv
  have hn : sp.length = cs.length := by
    rw [checkF_ok hv] at h
    by_cases hn : sp.length ≠ cs.length
    · rw [if_pos hn] at h; cases h
    · exact Classical.not_not.1 hn
  have h2 : givenF M mem.length fuel = .ok := by
    rwa [checkF_ok hv, if_neg (by simp [hn])] at h
  obtain ⟨⟨hR0, hR1, hM0, hM1, hcl2⟩, hok⟩ := validF_ok hv
  have hgv : (mem.length : Int) = M ∧ 0 ≤ fuel := by
    unfold givenF at h2
    split at h2
    · cases h2
    · split at h2
      · cases h2
      · omega
  have hRn : ((R.toNat : Nat) : Int) = R := Int.toNat_of_nonneg hR0
  obtain ⟨s', w, w1_, w2_⟩ := watch_spec G bor b2 bm cs sp R.toNat M fuel (k + 3) mem (by omega) hm (by omega) hgv.2 hf (by omega) hcl hn hok
  simp only [h3, hRn] at w2_
  refine ⟨s', w, w1_, ?_⟩
  rw [bound_Check.step]
  unfold bound_Check.c
  have r1 : ∀ H, pureCall (words_Valid.f G (k + 8)) [cdV bor cs R M] H = _ := fun H => pureCall_of (H := H) (Valid_spec G hg k cs R M hk (by omega)) (by simp [plainL, plainB, plainC, cdV]) (veV_clean _)
  have r2 : ∀ H, pureCall (words_Given.f G (k + 8)) [cdV bor cs R M, .ro bm (natsU mem), I6 fuel] H = _ := fun H => pureCall_of (H := H) (Given_spec G hg (k + 7) cs R M bm mem fuel) (by simp [plainL, plainB, plainC, cdV, plainU]) (veV_clean _)
  have r3 : heapCall (words_Watch.f G (k + 8)) [cdV bor cs R M, .ro bm (natsU mem), I6 fuel, LK] [b0 bor cs R M, b1 b2 sp, bw (-1)] = some (endV s', [b0 bor cs R M, b1 b2 sp, bw w]) := heapCall_of w2_ (Nat.le_refl _)
  have x1 : boxA 24 (cdV bor cs R M) [] = some (.ptr 0 1 0 0, [b0 bor cs R M]) := rfl
  have x2 : boxA 60 (.ro b2 (leaksV sp)) [b0 bor cs R M] = some (.ptr 1 1 0 0, [b0 bor cs R M, b1 b2 sp]) := rfl
  have x3 : ∀ l, loadV G true 3 (.ptr 0 1 0 0) (b0 bor cs R M :: l) = some (cdV bor cs R M) := fun l => rfl
  have x4 : loadV G false 1 (.ptr 1 1 0 0) [b0 bor cs R M, b1 b2 sp] = some (.ro b2 (leaksV sp)) := rfl
  have x5 : loadV G false 1 (.ptr 0 1 0 0) [b0 bor cs R M, b1 b2 sp] = some (.ro bor (codeV cs)) := rfl
  have x7 : boxA 3 (.int .i64 0) [b0 bor cs R M, b1 b2 sp] = some (.ptr 2 1 0 0, [b0 bor cs R M, b1 b2 sp, bw 0]) := rfl
  have x8 : stS (storeV 1 (.ptr 2 1 0 0) (.int .i64 (-1)) [b0 bor cs R M, b1 b2 sp, bw 0]) = some (.tup [], [b0 bor cs R M, b1 b2 sp, bw (-1)]) := rfl
  have x9 : loadV G false 1 (.ptr 2 1 0 0) [b0 bor cs R M, b1 b2 sp, bw w] = some (I6 w) := rfl
  have l1 : lenSl (.ro b2 (leaksV sp)) = some (I6 sp.length) := by simp [lenSl, leaksV_len]
  have l2 : lenSl (.ro bor (codeV cs)) = some (I6 cs.length) := by simp [lenSl, codeV_len]
  have q0 : bin Tryd.prog .neq 35 true .nili .nili = some (.bool false) := by kernel_rfl
  have q1 : bin Tryd.prog .neq 3 false (I6 sp.length) (I6 cs.length) = some (.bool false) := q_neq_f (by omega)
  rw [hv] at r1
  rw [h2] at r2
  simp only [veV] at r1 r2
  refine e_in ?_
  repeat first
    | (with_reducible first | refine eT ?_ | refine eN ?_ | refine eS ?_ | refine eXn ?_ | refine eXr ?_ | refine eX ?_ | refine eI ?_ | refine eK ?_ | refine eV0 ?_ | refine eGtt ?_ | refine eGff ?_ | refine eGtf ?_ | refine eGft ?_ | refine eGno ?_)
    | ((with_reducible apply eCn); (simp only [nth_zero, nth_succ]; first | done | (with_reducible exact rfl)))
    | ((with_reducible apply eJ); (rfl))
    | ((with_reducible apply eB); (first | (with_reducible exact rfl) | (simp (disch := omega) only [qf, x1, x2, x3, x4, x5, x7, x8, x9, l1, l2, r1, r2, r3, q0, q1]; first | done | (with_reducible exact rfl) | (with_reducible exact ⟨rfl, rfl⟩)) | (simp (disch := omega) only [qa, putC, AV.cells, storable, buildSt, fillA, buildRo, buildOwn, fillE, Nat.reduceLeDiff, Nat.reduceLT, Nat.reduceAdd, ↓reduceIte, x1, x2, x3, x4, x5, x7, x8, x9, l1, l2, r1, r2, r3, q0, q1]; first | done | (with_reducible exact rfl) | (with_reducible exact ⟨rfl, rfl⟩))))
    | ((with_reducible apply eR); (simp only [nth_zero, nth_succ]; (with_reducible exact rfl)))
  exact w2 rfl rfl rfl
end
end Go.Proofs.YtcmblhedhgiofaaDoor.Mir.B3
