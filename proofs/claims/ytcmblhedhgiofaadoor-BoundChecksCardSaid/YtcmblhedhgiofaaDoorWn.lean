/- The document's run, from its beginning to its end; lists compared. -/
import Derived.Test.YtcmblhedhgiofaaDoorWm
namespace Go.Proofs.YtcmblhedhgiofaaDoor.Mir
open Go
set_option linter.unusedVariables false
set_option linter.unusedSimpArgs false
set_option maxHeartbeats 8000000
set_option maxRecDepth 20000

theorem s0_step_len (s : MS) (i : Ins) : (s.step i).1.mem.length = s.mem.length := by
  unfold MS.step MS.touch MS.branch MS.set MS.leak
  simp only
  repeat' split
  all_goals simp

section
variable (G : Globs) (k : Nat) (self : Den) (fuel : Int) (bc bor : Bool) (cs : List Ins) (R : Nat) (wr : Int)

theorem rq_loop (hcl : cs.length ≤ 100000) (hcs : ∀ j, j < cs.length → (cs.getD j default).Ok2 R cs.length) (hf : fuel ≤ 99998) (M : Int) : ∀ (f : Nat) (s s' : MS) (H : AHeap), runM cs fuel f s = some s' → s.Ok R → (s.steps : Int) ≤ fuel → M = s.mem.length → s.at_ ≤ cs.length → H.take 7 = hpQ s wr →
    ∃ pc l, loopN (alembicref17_Run.l4 G (k + 3) 7 self) f (xsQ .nils fuel bc bor cs R M s.at_) H = some (.ret, xsQ .nils fuel bc bor cs R M pc, hpQE s' wr l)
  | 0, s, s', H, h, hs, hst, hM, hat, hH => by simp [runM] at h
  | f + 1, s, s', H, h, hs, hst, hM, hat, hH => by
    have few := hs.few
    rw [loopN_succ]
    simp only [runM] at h
    by_cases h1 : cs.length ≤ s.at_
    · rw [if_pos h1] at h
      simp only [Option.some.injEq] at h
      refine ⟨s.at_, [], ?_⟩
      rw [alembicref17_Run.l4]
      have hc := rq_cut fuel bc bor cs R s wr .nils rfl M s.at_ H hH
      unfold xsQ at *
      have lc : lenSl (.ro bor (codeV cs)) = some (I6 cs.length) := by simp [lenSl, codeV_len]
      have q1 : bin Tryd.prog .geq 3 false (Nn s.at_) (I6 cs.length) = some (.bool true) := by rw [bin_geq, decide_eq_true (by omega)]
      have z1 := qCode s wr 3
      have z2 := qAll G { s with code := 3 } wr
      have z3 := qRes { s with code := 3 } wr
      rw [h] at z1 z2 z3
      refine e_id ?_
      refine eC hc ?_
      repeat' first
        | (with_reducible first | refine eT ?_ | refine eN ?_ | refine eS ?_ | refine eXn ?_ | refine eXr ?_ | refine eX ?_ | refine eI ?_ | refine eK ?_ | refine eV0 ?_ | refine eGtt ?_ | refine eGff ?_ | refine eGtf ?_ | refine eGft ?_ | refine eGno ?_)
        | ((with_reducible apply eCn); (simp only [nth_zero, nth_succ]; first | done | (with_reducible exact rfl)))
        | ((with_reducible apply eJ); (rfl))
        | ((with_reducible apply eB); (first | (with_reducible exact rfl) | (simp (disch := omega) only [qf, lc, q1, z1, z2, z3]; first | done | (with_reducible exact rfl) | (with_reducible exact ⟨rfl, rfl⟩)) | (simp (disch := omega) only [qa, putC, AV.cells, storable, buildSt, fillA, buildRo, buildOwn, fillE, Nat.reduceLeDiff, Nat.reduceLT, Nat.reduceAdd, ↓reduceIte, lc, q1, z1, z2, z3]; first | done | (with_reducible exact rfl) | (with_reducible exact ⟨rfl, rfl⟩))))
        | ((with_reducible apply eR); (simp only [nth_zero, nth_succ]; (with_reducible exact rfl)))
        | ((with_reducible first | refine sEql ?_ ?_ | refine sNeq ?_ ?_ | refine sLss ?_ ?_ | refine sLeq ?_ ?_ | refine sGtr ?_ ?_ | refine sGeq ?_ ?_ | refine sNot ?_ ?_ | refine sPick ?_ ?_ | refine sGd ?_ ?_ | refine eBool ?_ ?_) <;> intro hq <;> try subst hq)
      refine e_out ?_; rfl
    rw [if_neg h1] at h
    by_cases h2 : (s.steps : Int) = fuel
    · rw [if_pos h2] at h
      simp only [Option.some.injEq] at h
      refine ⟨s.at_, [], ?_⟩
      rw [alembicref17_Run.l4]
      have hc := rq_cut fuel bc bor cs R s wr .nils rfl M s.at_ H hH
      unfold xsQ at *
      have lc : lenSl (.ro bor (codeV cs)) = some (I6 cs.length) := by simp [lenSl, codeV_len]
      have q1 : bin Tryd.prog .geq 3 false (Nn s.at_) (I6 cs.length) = some (.bool false) := by rw [bin_geq, decide_eq_false (by omega)]
      have q2 : bin Tryd.prog .geq 2 false (Nn s.steps) (I6 fuel) = some (.bool true) := by rw [bin_geq, decide_eq_true (by omega)]
      have p1 := qSteps G s wr
      have z1 := qCode s wr 4
      have z2 := qAll G { s with code := 4 } wr
      have z3 := qRes { s with code := 4 } wr
      rw [h] at z1 z2 z3
      refine e_id ?_
      refine eC hc ?_
      repeat' first
        | (with_reducible first | refine eT ?_ | refine eN ?_ | refine eS ?_ | refine eXn ?_ | refine eXr ?_ | refine eX ?_ | refine eI ?_ | refine eK ?_ | refine eV0 ?_ | refine eGtt ?_ | refine eGff ?_ | refine eGtf ?_ | refine eGft ?_ | refine eGno ?_)
        | ((with_reducible apply eCn); (simp only [nth_zero, nth_succ]; first | done | (with_reducible exact rfl)))
        | ((with_reducible apply eJ); (rfl))
        | ((with_reducible apply eB); (first | (with_reducible exact rfl) | (simp (disch := omega) only [qf, lc, q1, q2, p1, z1, z2, z3]; first | done | (with_reducible exact rfl) | (with_reducible exact ⟨rfl, rfl⟩)) | (simp (disch := omega) only [qa, putC, AV.cells, storable, buildSt, fillA, buildRo, buildOwn, fillE, Nat.reduceLeDiff, Nat.reduceLT, Nat.reduceAdd, ↓reduceIte, lc, q1, q2, p1, z1, z2, z3]; first | done | (with_reducible exact rfl) | (with_reducible exact ⟨rfl, rfl⟩))))
        | ((with_reducible apply eR); (simp only [nth_zero, nth_succ]; (with_reducible exact rfl)))
        | ((with_reducible first | refine sEql ?_ ?_ | refine sNeq ?_ ?_ | refine sLss ?_ ?_ | refine sLeq ?_ ?_ | refine sGtr ?_ ?_ | refine sGeq ?_ ?_ | refine sNot ?_ ?_ | refine sPick ?_ ?_ | refine sGd ?_ ?_ | refine eBool ?_ ?_) <;> intro hq <;> try subst hq)
      refine e_out ?_; rfl
    rw [if_neg h2] at h
    have hi := hcs s.at_ (by omega)
    rw [rq_round G k self fuel bc bor cs R s wr _ (cs.getD s.at_ default) H hH hs hi hcl (by omega) rfl (by omega) (by omega) M hM]
    have okt : s.tick.Ok R := ⟨hs.len, hs.regs, hs.mem, by have := hs.leaks; simp [MS.tick, MS.leak]; omega, hs.big, by simp [MS.tick, MS.leak]; omega⟩
    obtain ⟨o1, o2, o3, o4⟩ := MS.step_ok okt hi.ok (by have := hs.leaks; simp [MS.tick, MS.leak]; omega) (show s.tick.at_ < cs.length from by show s.at_ < _; omega)
    have tm : s.tick.mem = s.mem := rfl
    have tst : s.tick.steps = s.steps + 1 := rfl
    obtain ⟨s2, b, hsb⟩ : ∃ s2 b, s.tick.step (cs.getD s.at_ default) = (s2, b) := ⟨_, _, rfl⟩
    rw [hsb] at h o1 o2 o3 o4 ⊢
    simp only at h o1 o2 o3 o4
    cases b
    · simp only [Option.some.injEq] at h
      subst h
      exact ⟨s.at_, _, rfl⟩
    · exact rq_loop hcl hcs hf M f s2 s' _ h o1 (by rw [o3, tst]; omega) (by rw [o4, tm]; exact hM) o2 rfl

abbrev bZ : ABlk := ⟨44, 5, [.agg [.int .i64 0, .nils, .nils, .int .i64 0, .int .i64 0]]⟩
def hpW (l : List Nat) : AHeap := [bZ, ⟨48, 1, []⟩, ⟨48, 1, natsU l⟩]

theorem words_loop (b : Bool) (mem : List Nat) (hml : mem.length ≤ 1000000) : ∀ (suf pre : List Nat) (f : Nat), mem = pre ++ suf → suf.length < f →
    loopN (alembicref_Words.l3 G k 3 self) f [.ro b (natsU mem), .sl 2 pre.length 0 pre.length 1, Nn pre.length] (hpW pre) = some (.exit 0, [.ro b (natsU mem), .sl 2 mem.length 0 mem.length 1, Nn mem.length], hpW mem)
  | suf, pre, 0, hm, hf => by omega
  | [], pre, f + 1, hm, hf => by
    rw [loopN_succ, alembicref_Words.l3]
    have hl : mem = pre := by rw [hm]; simp
    have hc : cutH 3 [.ro b (natsU mem), .sl 2 pre.length 0 pre.length 1, Nn pre.length] (hpW pre) = some (hpW pre) := by
      simp [cutH, hpW, belowL, belowB, heapBelow, natsU_below]
    have lc : lenSl (.ro b (natsU mem)) = some (I6 mem.length) := by simp [lenSl, natsU_len]
    have q : bin Tryd.prog .lss 3 false (Nn pre.length) (Nn mem.length) = some (.bool false) := by rw [bin_lss, decide_eq_false (by rw [hl]; omega)]
    refine e_id ?_
    refine eC hc ?_
    repeat' first
      | (with_reducible first | refine eT ?_ | refine eN ?_ | refine eS ?_ | refine eXn ?_ | refine eXr ?_ | refine eX ?_ | refine eI ?_ | refine eK ?_ | refine eV0 ?_ | refine eGtt ?_ | refine eGff ?_ | refine eGtf ?_ | refine eGft ?_ | refine eGno ?_)
      | ((with_reducible apply eCn); (simp only [nth_zero, nth_succ]; first | done | (with_reducible exact rfl)))
      | ((with_reducible apply eJ); (rfl))
      | ((with_reducible apply eB); (first | (with_reducible exact rfl) | (simp (disch := omega) only [qf, lc, q]; first | done | (with_reducible exact rfl) | (with_reducible exact ⟨rfl, rfl⟩)) | (simp (disch := omega) only [qa, putC, AV.cells, storable, buildSt, fillA, buildRo, buildOwn, fillE, Nat.reduceLeDiff, Nat.reduceLT, Nat.reduceAdd, ↓reduceIte, lc, q]; first | done | (with_reducible exact rfl) | (with_reducible exact ⟨rfl, rfl⟩))))
      | ((with_reducible apply eR); (simp only [nth_zero, nth_succ]; (with_reducible exact rfl)))
      | ((with_reducible first | refine sEql ?_ ?_ | refine sNeq ?_ ?_ | refine sLss ?_ ?_ | refine sLeq ?_ ?_ | refine sGtr ?_ ?_ | refine sGeq ?_ ?_ | refine sNot ?_ ?_ | refine sPick ?_ ?_ | refine sGd ?_ ?_ | refine eBool ?_ ?_) <;> intro hq <;> try subst hq)
    rw [hl]
    refine e_out ?_; rfl
  | a :: suf, pre, f + 1, hm, hf => by
    rw [loopN_succ, alembicref_Words.l3]
    have hl : mem.length = pre.length + (suf.length + 1) := by rw [hm]; simp
    have hc : cutH 3 [.ro b (natsU mem), .sl 2 pre.length 0 pre.length 1, Nn pre.length] (hpW pre) = some (hpW pre) := by
      simp [cutH, hpW, belowL, belowB, heapBelow, natsU_below]
    have lc : lenSl (.ro b (natsU mem)) = some (I6 mem.length) := by simp [lenSl, natsU_len]
    have q : bin Tryd.prog .lss 3 false (Nn pre.length) (Nn mem.length) = some (.bool true) := by rw [bin_lss, decide_eq_true (by omega)]
    have ha : mem.getD pre.length 0 = a := by rw [hm]; simp [List.getD]
    have d1 : idxAddrSl 1 (.ro b (natsU mem)) (Nn pre.length) = some (.rp b (Un a) 0) := by
      have := natsU_get mem pre.length (by omega)
      rw [ha] at this
      exact idxRo1 this rfl
    have d2 : ∀ H, loadV G false 1 (.rp b (Un a) 0) H = some (Un a) := fun H => rfl
    have d3 : appendV 48 1 (.sl 2 pre.length 0 pre.length 1) (.ro false [Un a]) (hpW pre) = some (.sl 2 (pre ++ [a]).length 0 (pre ++ [a]).length 1, hpW (pre ++ [a])) := by
      have e : (hpW pre)[2]? = some ⟨48, 1, natsU pre⟩ := rfl
      unfold appendV
      simp only [e, elemsOf, natsU_len, List.length_singleton]
      rw [if_pos (by refine ⟨?_, ?_, ?_, ?_, ?_⟩ <;> first | trivial | rfl | omega)]
      have e2 : (natsU pre).take pre.length = natsU pre := List.take_of_length_le (by rw [natsU_len]; exact Nat.le_refl _)
      have e3 : (natsU pre).drop (pre.length + 1) = [] := List.drop_of_length_le (by rw [natsU_len]; omega)
      rw [e2, e3, List.append_nil]
      have e4 : natsU pre ++ [Un a] = natsU (pre ++ [a]) := by simp [natsU]
      rw [e4, natsU_len]; simp [hpW]
    have d4 : bin Tryd.prog .add 3 true (Nn pre.length) (.int .i64 1) = some (Nn (pre ++ [a]).length) := by
      rw [bin_add, wrap_of_i64 (by omega) (by omega)]; congr 2; simp
    have ih := words_loop b mem hml suf (pre ++ [a]) f (by rw [hm]; simp) (by simp at hf; omega)
    refine e_id ?_
    refine eC hc ?_
    repeat' first
      | (with_reducible first | refine eT ?_ | refine eN ?_ | refine eS ?_ | refine eXn ?_ | refine eXr ?_ | refine eX ?_ | refine eI ?_ | refine eK ?_ | refine eV0 ?_ | refine eGtt ?_ | refine eGff ?_ | refine eGtf ?_ | refine eGft ?_ | refine eGno ?_)
      | ((with_reducible apply eCn); (simp only [nth_zero, nth_succ]; first | done | (with_reducible exact rfl)))
      | ((with_reducible apply eJ); (rfl))
      | ((with_reducible apply eB); (first | (with_reducible exact rfl) | (simp (disch := omega) only [qf, lc, q, d1, d2, d3, d4]; first | done | (with_reducible exact rfl) | (with_reducible exact ⟨rfl, rfl⟩)) | (simp (disch := omega) only [qa, putC, AV.cells, storable, buildSt, fillA, buildRo, buildOwn, fillE, Nat.reduceLeDiff, Nat.reduceLT, Nat.reduceAdd, ↓reduceIte, lc, q, d1, d2, d3, d4]; first | done | (with_reducible exact rfl) | (with_reducible exact ⟨rfl, rfl⟩))))
      | ((with_reducible apply eR); (simp only [nth_zero, nth_succ]; (with_reducible exact rfl)))
      | ((with_reducible first | refine sEql ?_ ?_ | refine sNeq ?_ ?_ | refine sLss ?_ ?_ | refine sLeq ?_ ?_ | refine sGtr ?_ ?_ | refine sGeq ?_ ?_ | refine sNot ?_ ?_ | refine sPick ?_ ?_ | refine sGd ?_ ?_ | refine eBool ?_ ?_) <;> intro hq <;> try subst hq)
    exact ih

theorem words_spec (b : Bool) (mem : List Nat) (hml : mem.length ≤ 1000000) (hk : mem.length < k) : alembicref_Words.f G (k + 1) [.ro b (natsU mem)] [bZ] = some (.sl 2 mem.length 0 mem.length 1, hpW mem) := by
  rw [alembicref_Words.step]
  unfold alembicref_Words.c
  have lc : lenSl (.ro b (natsU mem)) = some (I6 mem.length) := by simp [lenSl, natsU_len]
  have ms : makeSliceV 48 1 (.int .u64 0) (.int .i64 0) (I6 mem.length) [bZ, ⟨48, 1, []⟩] = some (.sl 2 0 0 0 1, hpW []) := by
    unfold makeSliceV
    simp only
    rw [if_pos (by omega)]
    rfl
  have lp : loopN (alembicref_Words.l3 G k 3 (alembicref_Words.f G k)) k [.ro b (natsU mem), .sl 2 0 0 0 1, .int .i64 0] (hpW []) = _ := words_loop G k (alembicref_Words.f G k) b mem hml mem [] k rfl hk
  refine e_in ?_
  repeat' first
    | (with_reducible first | refine eT ?_ | refine eN ?_ | refine eS ?_ | refine eXn ?_ | refine eXr ?_ | refine eX ?_ | refine eI ?_ | refine eK ?_ | refine eV0 ?_ | refine eGtt ?_ | refine eGff ?_ | refine eGtf ?_ | refine eGft ?_ | refine eGno ?_)
    | ((with_reducible apply eCn); (simp only [nth_zero, nth_succ]; first | done | (with_reducible exact rfl)))
    | ((with_reducible apply eJ); (rfl))
    | ((with_reducible apply eL); (first | exact lp))
    | ((with_reducible apply eB); (first | (with_reducible exact rfl) | (simp (disch := omega) only [qf, lc, ms]; first | done | (with_reducible exact rfl) | (with_reducible exact ⟨rfl, rfl⟩)) | (simp (disch := omega) only [qa, putC, AV.cells, storable, buildSt, fillA, buildRo, buildOwn, fillE, Nat.reduceLeDiff, Nat.reduceLT, Nat.reduceAdd, ↓reduceIte, lc, ms]; first | done | (with_reducible exact rfl) | (with_reducible exact ⟨rfl, rfl⟩))))
    | ((with_reducible apply eR); (simp only [nth_zero, nth_succ]; (with_reducible exact rfl)))
    | ((with_reducible first | refine sEql ?_ ?_ | refine sNeq ?_ ?_ | refine sLss ?_ ?_ | refine sLeq ?_ ?_ | refine sGtr ?_ ?_ | refine sGeq ?_ ?_ | refine sNot ?_ ?_ | refine sPick ?_ ?_ | refine sGd ?_ ?_ | refine eBool ?_ ?_) <;> intro hq <;> try subst hq)
  refine e_out ?_; rfl

/-- What the document's run gives. -/
def endQ (s : MS) (wr : Int) : AV := .agg [I6 s.code, .ro false (natsU s.mem), .ro false (leaksV s.leaks), Nn s.steps, I6 wr]
theorem endQ_clean (s : MS) (wr : Int) : cleanB (endQ s wr) = true := by simp [endQ, cleanB, cleanL, cleanU, cleanLk]

theorem rRun_fin (s : MS) (wr : Int) (l : AHeap) : finL [loadV G true 5 (.ptr 0 1 0 0) (hpQE s wr l)] ([] : AHeap).length (hpQE s wr l) = some (.ret, [endQ s wr], []) := by
  have f1 := frz_sl (H := hpQE s wr l) (b := 2) (n0 := 0) (d := 4) (ty := 48) rfl (by omega) (natsU_len s.mem) (allSz_U _) (natsU_below 0 _)
  have f2 := frz_sl (H := hpQE s wr l) (b := 6) (n0 := 0) (d := 4) (ty := 96) rfl (by omega) (leaksV_len s.leaks) (allSz_L _) (leaksV_below 0 _)
  have f3 : frz (hpQE s wr l) 0 6 (resQ s wr) = some (endQ s wr) :=
    frz_agg (by simp [belowL, belowB]) (mapO_cons (frz_low rfl 5) (mapO_cons f1 (mapO_cons f2 (mapO_cons (frz_low rfl 5) (mapO_cons (frz_low rfl 5) mapO_nil)))))
  have hl : loadV G true 5 (.ptr 0 1 0 0) (hpQE s wr l) = some (resQ s wr) := rfl
  unfold finL
  rw [hl]
  simp only [allSome]
  exact finV_at f3 rfl

theorem rRun_spec (M : Int) (mem : List Nat) (bm : Bool) (hR : R ≤ 100000) (hm : ∀ x ∈ mem, x < 18446744073709551616) (hml : mem.length ≤ 1000000) (hM : M = mem.length) (h0 : 0 ≤ fuel) (hf : fuel ≤ 99998) (hcl : cs.length ≤ 100000)
    (hcs : ∀ j, j < cs.length → (cs.getD j default).Ok2 R cs.length) (hk : mem.length < k + 2) (s' : MS) (hrun : runM cs fuel (k + 3) (s0 R mem) = some s') :
    alembicref17_Run.f G (k + 4) [cdV bor cs R M, .nils, .ro bm (natsU mem), I6 fuel] [] = some (endQ s' (-1), []) := by
  rw [alembicref17_Run.step]
  unfold alembicref17_Run.c cdV
  obtain ⟨pc, l, lp⟩ := rq_loop G k (alembicref17_Run.f G (k + 3)) fuel false bor cs R (-1) hcl hcs hf M (k + 3) (s0 R mem) s' (hpQ (s0 R mem) (-1)) hrun (s0_ok R mem hm hml) (by simp only [s0]; omega) (by simpa [s0] using hM) (by simp [s0]) rfl
  have w1_ : heapCall (alembicref_Words.f G (k + 3)) [.ro bm (natsU mem)] [bZ] = some (.sl 2 mem.length 0 mem.length 1, [bZ, ⟨48, 1, []⟩, ⟨48, 1, natsU mem⟩]) := heapCall_of (words_spec G (k + 2) bm mem hml hk) (by simp [hpW])
  have q1 : bin Tryd.prog .add 3 true (I6 R) (.int .i64 1) = some (I6 (R + 1 : Nat)) := by
    rw [bin_add, wrap_of_i64 (by omega) (by omega)]; congr 2
  have c5 : makeSliceV 48 1 (.int .u64 0) (I6 (R + 1 : Nat)) (I6 (R + 1 : Nat)) [bZ, ⟨48, 1, []⟩, ⟨48, 1, natsU mem⟩, ⟨44, 5, [.agg [.int .i64 0, .sl 2 mem.length 0 mem.length 1, .nils, .int .i64 0, .int .i64 (-1)]]⟩] =
      some (.sl 4 (R + 1) 0 (R + 1) 1, [bZ, ⟨48, 1, []⟩, ⟨48, 1, natsU mem⟩, ⟨44, 5, [.agg [.int .i64 0, .sl 2 mem.length 0 mem.length 1, .nils, .int .i64 0, .int .i64 (-1)]]⟩, ⟨48, 1, natsU (List.replicate R 0 ++ [0])⟩]) := by
    unfold makeSliceV
    have : (0 : Int) ≤ (R + 1 : Nat) ∧ ((R + 1 : Nat) : Int) ≤ (R + 1 : Nat) ∧ ((R + 1 : Nat) : Int) ≤ 1099511627776 := by omega
    have e : List.replicate R 0 ++ [0] = List.replicate (R + 1) 0 := by rw [List.replicate_succ']
    rw [e]
    simp only [this, and_self, if_true, Int.toNat_natCast, natsU, List.map_replicate]
    rfl
  refine e_in ?_
  repeat first
    | (with_reducible first | refine eT ?_ | refine eN ?_ | refine eS ?_ | refine eXn ?_ | refine eXr ?_ | refine eX ?_ | refine eI ?_ | refine eK ?_ | refine eV0 ?_ | refine eGtt ?_ | refine eGff ?_ | refine eGtf ?_ | refine eGft ?_ | refine eGno ?_)
    | ((with_reducible apply eCn); (simp only [nth_zero, nth_succ]; first | done | (with_reducible exact rfl)))
    | ((with_reducible apply eJ); (rfl))
    | ((with_reducible apply eB); (first | (with_reducible exact rfl) | (simp (disch := omega) only [qf, w1_, q1, c5]; first | done | (with_reducible exact rfl) | (with_reducible exact ⟨rfl, rfl⟩)) | (simp (disch := omega) only [qa, putC, AV.cells, storable, buildSt, fillA, buildRo, buildOwn, fillE, Nat.reduceLeDiff, Nat.reduceLT, Nat.reduceAdd, ↓reduceIte, w1_, q1, c5]; first | done | (with_reducible exact rfl) | (with_reducible exact ⟨rfl, rfl⟩))))
    | ((with_reducible apply eR); (simp only [nth_zero, nth_succ]; (with_reducible exact rfl)))
  refine eV1 (H1 := [⟨44, 5, [.agg [.int .i64 0, .nils, .sl 5 0 0 0 2, .int .i64 0, .int .i64 0]]⟩, ⟨48, 1, []⟩, ⟨48, 1, natsU mem⟩, ⟨44, 5, [.agg [.int .i64 0, .sl 2 mem.length 0 mem.length 1, .nils, .int .i64 0, .int .i64 (-1)]]⟩, ⟨48, 1, natsU (List.replicate R 0 ++ [0])⟩, ⟨96, 2, []⟩]) rfl ?_
  refine eV1 (H1 := hpQ (s0 R mem) (-1)) rfl ?_
  refine eV0 ?_
  rw [hq_len]
  refine eK ?_
  refine eL lp ?_
  repeat first
    | (with_reducible first | refine eT ?_ | refine eN ?_ | refine eS ?_ | refine eXn ?_ | refine eXr ?_ | refine eX ?_ | refine eI ?_ | refine eK ?_ | refine eV0 ?_ | refine eGtt ?_ | refine eGff ?_ | refine eGtf ?_ | refine eGft ?_ | refine eGno ?_)
    | ((with_reducible apply eCn); (simp only [nth_zero, nth_succ]; first | done | (with_reducible exact rfl)))
    | ((with_reducible apply eJ); (rfl))
    | ((with_reducible apply eB); (first | (with_reducible exact rfl) | (simp (disch := omega) only [qa, putC, AV.cells, storable, buildSt, fillA, buildRo, buildOwn, fillE, Nat.reduceLeDiff, Nat.reduceLT, Nat.reduceAdd, ↓reduceIte]; first | done | (with_reducible exact rfl) | (with_reducible exact ⟨rfl, rfl⟩))))
    | ((with_reducible apply eR); (simp only [nth_zero, nth_succ]; (with_reducible exact rfl)))
  exact oF (rRun_fin G s' (-1) l)
end

theorem SameWords_loop (G : Globs) (k : Nat) (self : Den) (p q : Bool) (a : List Nat) (hla : a.length ≤ 1000000) : ∀ (suf pre : List Nat) (f : Nat), a = pre ++ suf → suf.length < f →
    loopN (alembicref_SameWords.l4 G k 0 self) f [.ro p (natsU a), .ro q (natsU a), .bool false, Nn pre.length] [] = some (.exit 0, [.ro p (natsU a), .ro q (natsU a), .bool false, Nn a.length], [])
  | suf, pre, 0, hm, hf => by omega
  | [], pre, f + 1, hm, hf => by
    rw [loopN_succ, alembicref_SameWords.l4]
    have hl : a = pre := by rw [hm]; simp
    have hc : cutH 0 [.ro p (natsU a), .ro q (natsU a), .bool false, Nn pre.length] [] = some [] := by simp [cutH, belowL, belowB, heapBelow, natsU_below]
    have lc : lenSl (.ro p (natsU a)) = some (I6 a.length) := by simp [lenSl, natsU_len]
    have qq : bin Tryd.prog .lss 3 false (Nn pre.length) (Nn a.length) = some (.bool false) := by rw [bin_lss, decide_eq_false (by rw [hl]; omega)]
    refine e_id ?_
    refine eC hc ?_
    repeat' first
      | (with_reducible first | refine eT ?_ | refine eN ?_ | refine eS ?_ | refine eXn ?_ | refine eXr ?_ | refine eX ?_ | refine eI ?_ | refine eK ?_ | refine eV0 ?_ | refine eGtt ?_ | refine eGff ?_ | refine eGtf ?_ | refine eGft ?_ | refine eGno ?_)
      | ((with_reducible apply eCn); (simp only [nth_zero, nth_succ]; first | done | (with_reducible exact rfl)))
      | ((with_reducible apply eJ); (rfl))
      | ((with_reducible apply eB); (first | (with_reducible exact rfl) | (simp (disch := omega) only [qf, lc, qq]; first | done | (with_reducible exact rfl) | (with_reducible exact ⟨rfl, rfl⟩)) | (simp (disch := omega) only [qa, putC, AV.cells, storable, buildSt, fillA, buildRo, buildOwn, fillE, Nat.reduceLeDiff, Nat.reduceLT, Nat.reduceAdd, ↓reduceIte, lc, qq]; first | done | (with_reducible exact rfl) | (with_reducible exact ⟨rfl, rfl⟩))))
      | ((with_reducible apply eR); (simp only [nth_zero, nth_succ]; (with_reducible exact rfl)))
      | ((with_reducible first | refine sEql ?_ ?_ | refine sNeq ?_ ?_ | refine sLss ?_ ?_ | refine sLeq ?_ ?_ | refine sGtr ?_ ?_ | refine sGeq ?_ ?_ | refine sNot ?_ ?_ | refine sPick ?_ ?_ | refine sGd ?_ ?_ | refine eBool ?_ ?_) <;> intro hq <;> try subst hq)
    rw [hl]
    refine e_out ?_; rfl
  | x :: suf, pre, f + 1, hm, hf => by
    rw [loopN_succ, alembicref_SameWords.l4]
    have hl : a.length = pre.length + (suf.length + 1) := by rw [hm]; simp
    have hc : cutH 0 [.ro p (natsU a), .ro q (natsU a), .bool false, Nn pre.length] [] = some [] := by simp [cutH, belowL, belowB, heapBelow, natsU_below]
    have lc : lenSl (.ro p (natsU a)) = some (I6 a.length) := by simp [lenSl, natsU_len]
    have qq : bin Tryd.prog .lss 3 false (Nn pre.length) (Nn a.length) = some (.bool true) := by rw [bin_lss, decide_eq_true (by omega)]
    have ha : a.getD pre.length 0 = x := by rw [hm]; simp [List.getD]
    have d1 : ∀ b, idxAddrSl 1 (.ro b (natsU a)) (Nn pre.length) = some (.rp b (Un x) 0) := fun b => by
      have := natsU_get a pre.length (by omega)
      rw [ha] at this
      exact idxRo1 this rfl
    have d2 : ∀ b H, loadV G false 1 (.rp b (Un x) 0) H = some (Un x) := fun b H => rfl
    have d4 : bin Tryd.prog .add 3 true (Nn pre.length) (.int .i64 1) = some (Nn (pre ++ [x]).length) := by
      rw [bin_add, wrap_of_i64 (by omega) (by omega)]; congr 2; simp
    have d5 : bin Tryd.prog .eql 48 false (Un x) (Un x) = some (.bool true) := q_eql_t rfl
    have ih := SameWords_loop G k self p q a hla suf (pre ++ [x]) f (by rw [hm]; simp) (by simp at hf; omega)
    refine e_id ?_
    refine eC hc ?_
    repeat' first
      | (with_reducible first | refine eT ?_ | refine eN ?_ | refine eS ?_ | refine eXn ?_ | refine eXr ?_ | refine eX ?_ | refine eI ?_ | refine eK ?_ | refine eV0 ?_ | refine eGtt ?_ | refine eGff ?_ | refine eGtf ?_ | refine eGft ?_ | refine eGno ?_)
      | ((with_reducible apply eCn); (simp only [nth_zero, nth_succ]; first | done | (with_reducible exact rfl)))
      | ((with_reducible apply eJ); (rfl))
      | ((with_reducible apply eB); (first | (with_reducible exact rfl) | (simp (disch := omega) only [qf, lc, qq, d1, d2, d4, d5]; first | done | (with_reducible exact rfl) | (with_reducible exact ⟨rfl, rfl⟩)) | (simp (disch := omega) only [qa, putC, AV.cells, storable, buildSt, fillA, buildRo, buildOwn, fillE, Nat.reduceLeDiff, Nat.reduceLT, Nat.reduceAdd, ↓reduceIte, lc, qq, d1, d2, d4, d5]; first | done | (with_reducible exact rfl) | (with_reducible exact ⟨rfl, rfl⟩))))
      | ((with_reducible apply eR); (simp only [nth_zero, nth_succ]; (with_reducible exact rfl)))
      | ((with_reducible first | refine sEql ?_ ?_ | refine sNeq ?_ ?_ | refine sLss ?_ ?_ | refine sLeq ?_ ?_ | refine sGtr ?_ ?_ | refine sGeq ?_ ?_ | refine sNot ?_ ?_ | refine sPick ?_ ?_ | refine sGd ?_ ?_ | refine eBool ?_ ?_) <;> intro hq <;> try subst hq)
    exact ih

theorem SameWords_self (G : Globs) (k : Nat) (p q : Bool) (a : List Nat) (hla : a.length ≤ 1000000) (hk : a.length < k) : alembicref_SameWords.f G (k + 1) [.ro p (natsU a), .ro q (natsU a)] [] = some (.bool true, []) := by
  rw [alembicref_SameWords.step]
  unfold alembicref_SameWords.c
  have lc : ∀ b, lenSl (.ro b (natsU a)) = some (I6 a.length) := fun b => by simp [lenSl, natsU_len]
  have lp : loopN (alembicref_SameWords.l4 G k 0 (alembicref_SameWords.f G k)) k [.ro p (natsU a), .ro q (natsU a), .bool false, .int .i64 0] [] = _ := SameWords_loop G k (alembicref_SameWords.f G k) p q a hla a [] k rfl hk
  refine e_in ?_
  repeat' first
    | (with_reducible first | refine eT ?_ | refine eN ?_ | refine eS ?_ | refine eXn ?_ | refine eXr ?_ | refine eX ?_ | refine eI ?_ | refine eK ?_ | refine eV0 ?_ | refine eGtt ?_ | refine eGff ?_ | refine eGtf ?_ | refine eGft ?_ | refine eGno ?_)
    | ((with_reducible apply eCn); (simp only [nth_zero, nth_succ]; first | done | (with_reducible exact rfl)))
    | ((with_reducible apply eJ); (rfl))
    | ((with_reducible apply eL); (first | exact lp))
    | ((with_reducible apply eB); (first | (with_reducible exact rfl) | (simp (disch := omega) only [qf, lc]; first | done | (with_reducible exact rfl) | (with_reducible exact ⟨rfl, rfl⟩)) | (simp (disch := omega) only [qa, putC, AV.cells, storable, buildSt, fillA, buildRo, buildOwn, fillE, Nat.reduceLeDiff, Nat.reduceLT, Nat.reduceAdd, ↓reduceIte, lc]; first | done | (with_reducible exact rfl) | (with_reducible exact ⟨rfl, rfl⟩))))
    | ((with_reducible apply eR); (simp only [nth_zero, nth_succ]; (with_reducible exact rfl)))
    | ((with_reducible first | refine sEql ?_ ?_ | refine sNeq ?_ ?_ | refine sLss ?_ ?_ | refine sLeq ?_ ?_ | refine sGtr ?_ ?_ | refine sGeq ?_ ?_ | refine sNot ?_ ?_ | refine sPick ?_ ?_ | refine sGd ?_ ?_ | refine eBool ?_ ?_) <;> intro hq <;> try subst hq)
  exact w1b rfl

theorem SameLeaks_loop (G : Globs) (k : Nat) (self : Den) (p q : Bool) (a : List (Int × Int)) (hla : a.length ≤ 1000000) : ∀ (suf pre : List (Int × Int)) (f : Nat), a = pre ++ suf → suf.length < f →
    loopN (alembicref_SameLeaks.l4 G (k + 1) 0 self) f [.ro p (leaksV a), .ro q (leaksV a), .bool false, Nn pre.length] [] = some (.exit 0, [.ro p (leaksV a), .ro q (leaksV a), .bool false, Nn a.length], [])
  | suf, pre, 0, hm, hf => by omega
  | [], pre, f + 1, hm, hf => by
    rw [loopN_succ, alembicref_SameLeaks.l4]
    have hl : a = pre := by rw [hm]; simp
    have hc : cutH 0 [.ro p (leaksV a), .ro q (leaksV a), .bool false, Nn pre.length] [] = some [] := by simp [cutH, belowL, belowB, heapBelow, leaksV_below]
    have lc : lenSl (.ro p (leaksV a)) = some (I6 a.length) := by simp [lenSl, leaksV_len]
    have qq : bin Tryd.prog .lss 3 false (Nn pre.length) (Nn a.length) = some (.bool false) := by rw [bin_lss, decide_eq_false (by rw [hl]; omega)]
    refine e_id ?_
    refine eC hc ?_
    repeat' first
      | (with_reducible first | refine eT ?_ | refine eN ?_ | refine eS ?_ | refine eXn ?_ | refine eXr ?_ | refine eX ?_ | refine eI ?_ | refine eK ?_ | refine eV0 ?_ | refine eGtt ?_ | refine eGff ?_ | refine eGtf ?_ | refine eGft ?_ | refine eGno ?_)
      | ((with_reducible apply eCn); (simp only [nth_zero, nth_succ]; first | done | (with_reducible exact rfl)))
      | ((with_reducible apply eJ); (rfl))
      | ((with_reducible apply eB); (first | (with_reducible exact rfl) | (simp (disch := omega) only [qf, lc, qq]; first | done | (with_reducible exact rfl) | (with_reducible exact ⟨rfl, rfl⟩)) | (simp (disch := omega) only [qa, putC, AV.cells, storable, buildSt, fillA, buildRo, buildOwn, fillE, Nat.reduceLeDiff, Nat.reduceLT, Nat.reduceAdd, ↓reduceIte, lc, qq]; first | done | (with_reducible exact rfl) | (with_reducible exact ⟨rfl, rfl⟩))))
      | ((with_reducible apply eR); (simp only [nth_zero, nth_succ]; (with_reducible exact rfl)))
      | ((with_reducible first | refine sEql ?_ ?_ | refine sNeq ?_ ?_ | refine sLss ?_ ?_ | refine sLeq ?_ ?_ | refine sGtr ?_ ?_ | refine sGeq ?_ ?_ | refine sNot ?_ ?_ | refine sPick ?_ ?_ | refine sGd ?_ ?_ | refine eBool ?_ ?_) <;> intro hq <;> try subst hq)
    rw [hl]
    refine e_out ?_; rfl
  | x :: suf, pre, f + 1, hm, hf => by
    rw [loopN_succ, alembicref_SameLeaks.l4]
    have hl : a.length = pre.length + (suf.length + 1) := by rw [hm]; simp
    have hc : cutH 0 [.ro p (leaksV a), .ro q (leaksV a), .bool false, Nn pre.length] [] = some [] := by simp [cutH, belowL, belowB, heapBelow, leaksV_below]
    have lc : lenSl (.ro p (leaksV a)) = some (I6 a.length) := by simp [lenSl, leaksV_len]
    have qq : bin Tryd.prog .lss 3 false (Nn pre.length) (Nn a.length) = some (.bool true) := by rw [bin_lss, decide_eq_true (by omega)]
    have ha : (leaksV a)[pre.length]? = some (leakV x) := by rw [hm]; simp [leaksV]
    have d1 : ∀ b, idxAddrSl 2 (.ro b (leaksV a)) (Nn pre.length) = some (.rp b (leakV x) 0) := fun b => by
      unfold idxAddrSl
      have h0 : (0 : Int) ≤ (pre.length : Int) := by omega
      simp only [h0, if_true, Int.toNat_natCast, ha]
      rfl
    have d2 : ∀ b H, loadV G true 2 (.rp b (leakV x) 0) H = some (leakV x) := fun b H => rfl
    have d4 : bin Tryd.prog .add 3 true (Nn pre.length) (.int .i64 1) = some (Nn (pre ++ [x]).length) := by
      rw [bin_add, wrap_of_i64 (by omega) (by omega)]; congr 2; simp
    have s1 : alembicref_SameLeak1.f G (k + 1) [leakV x, leakV x] [] = some (.bool true, []) := by
      rw [alembicref_SameLeak1.step]
      unfold alembicref_SameLeak1.c leakV
      refine e_in ?_
      repeat' first
        | (with_reducible first | refine eT ?_ | refine eN ?_ | refine eS ?_ | refine eXn ?_ | refine eXr ?_ | refine eX ?_ | refine eI ?_ | refine eK ?_ | refine eV0 ?_ | refine eGtt ?_ | refine eGff ?_ | refine eGtf ?_ | refine eGft ?_ | refine eGno ?_)
        | ((with_reducible apply eCn); (simp only [nth_zero, nth_succ]; first | done | (with_reducible exact rfl)))
        | ((with_reducible apply eJ); (rfl))
        | ((with_reducible apply eB); (first | (with_reducible exact rfl) | (simp (disch := omega) only [qa, putC, AV.cells, storable, buildSt, fillA, buildRo, buildOwn, fillE, Nat.reduceLeDiff, Nat.reduceLT, Nat.reduceAdd, ↓reduceIte]; first | done | (with_reducible exact rfl) | (with_reducible exact ⟨rfl, rfl⟩))))
        | ((with_reducible apply eR); (simp only [nth_zero, nth_succ]; (with_reducible exact rfl)))
        | ((with_reducible first | refine sEql ?_ ?_ | refine sNeq ?_ ?_ | refine sLss ?_ ?_ | refine sLeq ?_ ?_ | refine sGtr ?_ ?_ | refine sGeq ?_ ?_ | refine sNot ?_ ?_ | refine sPick ?_ ?_ | refine sGd ?_ ?_ | refine eBool ?_ ?_) <;> intro hq <;> try subst hq)
      exact w1b rfl
    have d5 : ∀ H, pureCall (alembicref_SameLeak1.f G (k + 1)) [leakV x, leakV x] H = _ := fun H => pureCall_of (H := H) s1 rfl rfl
    have ih := SameLeaks_loop G k self p q a hla suf (pre ++ [x]) f (by rw [hm]; simp) (by simp at hf; omega)
    refine e_id ?_
    refine eC hc ?_
    repeat' first
      | (with_reducible first | refine eT ?_ | refine eN ?_ | refine eS ?_ | refine eXn ?_ | refine eXr ?_ | refine eX ?_ | refine eI ?_ | refine eK ?_ | refine eV0 ?_ | refine eGtt ?_ | refine eGff ?_ | refine eGtf ?_ | refine eGft ?_ | refine eGno ?_)
      | ((with_reducible apply eCn); (simp only [nth_zero, nth_succ]; first | done | (with_reducible exact rfl)))
      | ((with_reducible apply eJ); (rfl))
      | ((with_reducible apply eB); (first | (with_reducible exact rfl) | (simp (disch := omega) only [qf, lc, qq, d1, d2, d4, d5]; first | done | (with_reducible exact rfl) | (with_reducible exact ⟨rfl, rfl⟩)) | (simp (disch := omega) only [qa, putC, AV.cells, storable, buildSt, fillA, buildRo, buildOwn, fillE, Nat.reduceLeDiff, Nat.reduceLT, Nat.reduceAdd, ↓reduceIte, lc, qq, d1, d2, d4, d5]; first | done | (with_reducible exact rfl) | (with_reducible exact ⟨rfl, rfl⟩))))
      | ((with_reducible apply eR); (simp only [nth_zero, nth_succ]; (with_reducible exact rfl)))
      | ((with_reducible first | refine sEql ?_ ?_ | refine sNeq ?_ ?_ | refine sLss ?_ ?_ | refine sLeq ?_ ?_ | refine sGtr ?_ ?_ | refine sGeq ?_ ?_ | refine sNot ?_ ?_ | refine sPick ?_ ?_ | refine sGd ?_ ?_ | refine eBool ?_ ?_) <;> intro hq <;> try subst hq)
    exact ih

theorem SameLeaks_self (G : Globs) (k : Nat) (p q : Bool) (a : List (Int × Int)) (hla : a.length ≤ 1000000) (hk : a.length < k + 1) : alembicref_SameLeaks.f G (k + 2) [.ro p (leaksV a), .ro q (leaksV a)] [] = some (.bool true, []) := by
  rw [alembicref_SameLeaks.step]
  unfold alembicref_SameLeaks.c
  have lc : ∀ b, lenSl (.ro b (leaksV a)) = some (I6 a.length) := fun b => by simp [lenSl, leaksV_len]
  have lp : loopN (alembicref_SameLeaks.l4 G (k + 1) 0 (alembicref_SameLeaks.f G (k + 1))) (k + 1) [.ro p (leaksV a), .ro q (leaksV a), .bool false, .int .i64 0] [] = _ := SameLeaks_loop G k (alembicref_SameLeaks.f G (k + 1)) p q a hla a [] (k + 1) rfl hk
  refine e_in ?_
  repeat' first
    | (with_reducible first | refine eT ?_ | refine eN ?_ | refine eS ?_ | refine eXn ?_ | refine eXr ?_ | refine eX ?_ | refine eI ?_ | refine eK ?_ | refine eV0 ?_ | refine eGtt ?_ | refine eGff ?_ | refine eGtf ?_ | refine eGft ?_ | refine eGno ?_)
    | ((with_reducible apply eCn); (simp only [nth_zero, nth_succ]; first | done | (with_reducible exact rfl)))
    | ((with_reducible apply eJ); (rfl))
    | ((with_reducible apply eL); (first | exact lp))
    | ((with_reducible apply eB); (first | (with_reducible exact rfl) | (simp (disch := omega) only [qf, lc]; first | done | (with_reducible exact rfl) | (with_reducible exact ⟨rfl, rfl⟩)) | (simp (disch := omega) only [qa, putC, AV.cells, storable, buildSt, fillA, buildRo, buildOwn, fillE, Nat.reduceLeDiff, Nat.reduceLT, Nat.reduceAdd, ↓reduceIte, lc]; first | done | (with_reducible exact rfl) | (with_reducible exact ⟨rfl, rfl⟩))))
    | ((with_reducible apply eR); (simp only [nth_zero, nth_succ]; (with_reducible exact rfl)))
    | ((with_reducible first | refine sEql ?_ ?_ | refine sNeq ?_ ?_ | refine sLss ?_ ?_ | refine sLeq ?_ ?_ | refine sGtr ?_ ?_ | refine sGeq ?_ ?_ | refine sNot ?_ ?_ | refine sPick ?_ ?_ | refine sGd ?_ ?_ | refine eBool ?_ ?_) <;> intro hq <;> try subst hq)
  exact w1b rfl
end Go.Proofs.YtcmblhedhgiofaaDoor.Mir
