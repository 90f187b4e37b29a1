/- The document's run with spans, whole. -/
import Derived.Test.YtcmblhedhgiofaaDoorYj
import Derived.Test.YtcmblhedhgiofaaDoorWn
namespace Go.Proofs.YtcmblhedhgiofaaDoor.Mir.B3
open Go
set_option linter.unusedVariables false
set_option linter.unusedSimpArgs false
set_option maxHeartbeats 8000000
set_option maxRecDepth 20000

section
variable (G : Globs) (k : Nat) (self : Den) (fuel : Int) (bc bor b2 : Bool) (sp : List (Int × Int)) (cs : List Ins) (R : Nat)

theorem rq_loop (hsp : sp.length = cs.length) (hcl : cs.length ≤ 100000) (hcs : ∀ j, j < cs.length → (cs.getD j default).Ok2 R cs.length) (hf : fuel ≤ 99998) (M : Int) : ∀ (f : Nat) (s s' : MS) (w : Int) (H : AHeap), runB sp cs fuel f s = some (s', w) → s.Ok R → (s.steps : Int) ≤ fuel → M = s.mem.length → s.at_ ≤ cs.length → H.take 7 = hpQ s (-1) →
    ∃ x l s'', loopN (alembicref17_Run.l4 G (k + 11) 7 self) f (xsQ (.ro b2 (leaksV sp)) fuel bc bor cs R M s.at_) H = some (.ret, xsW (.ro b2 (leaksV sp)) fuel bc bor cs R M x, hpQE s'' w l)
  | 0, s, s', w, H, h, hs, hst, hM, hat, hH => by simp [runB] at h
  | f + 1, s, s', w, H, h, hs, hst, hM, hat, hH => by
    have few := hs.few
    rw [loopN_succ]
    simp only [runB] at h
    have hspl : belowB 0 (.ro b2 (leaksV sp)) = true := by simp [belowB, leaksV_below]
    by_cases h1 : cs.length ≤ s.at_
    · rw [if_pos h1] at h
      simp only [Option.some.injEq, Prod.mk.injEq] at h
      obtain ⟨h, rfl⟩ := h
      refine ⟨Nn s.at_, [], s', ?_⟩
      rw [alembicref17_Run.l4]
      have hc := rq_cut fuel bc bor cs R s (-1) (.ro b2 (leaksV sp)) hspl M s.at_ H hH
      unfold xsQ at *
      have lc : lenSl (.ro bor (codeV cs)) = some (I6 cs.length) := by simp [lenSl, codeV_len]
      have q1 : bin Tryd.prog .geq 3 false (Nn s.at_) (I6 cs.length) = some (.bool true) := by rw [bin_geq, decide_eq_true (by omega)]
      have z1 := qCode s (-1) 3
      have z2 := qAll G { s with code := 3 } (-1)
      have z3 := qRes { s with code := 3 } (-1)
      rw [h] at z1 z2 z3
      refine e_id ?_
      refine eC hc ?_
      repeat' first
        | (with_reducible first | refine eT ?_ | refine eN ?_ | refine eS ?_ | refine eXn ?_ | refine eXr ?_ | refine eX ?_ | refine eI ?_ | refine eK ?_ | refine eV0 ?_ | refine eGtt ?_ | refine eGff ?_ | refine eGtf ?_ | refine eGft ?_ | refine eGno ?_)
        | ((with_reducible apply eCn); (simp only [nth_zero, nth_succ]; first | done | (with_reducible exact rfl)))
        | ((with_reducible apply eJ); (rfl))
        | ((with_reducible apply eB); (first | (with_reducible exact rfl) | (simp (disch := omega) only [qf, lc, q1, z1, z2, z3]; first | done | (with_reducible exact rfl) | (with_reducible exact ⟨rfl, rfl⟩)) | (simp (disch := omega) only [qa, putC, AV.cells, storable, buildSt, fillA, buildRo, buildOwn, fillE, Nat.reduceLeDiff, Nat.reduceLT, Nat.reduceAdd, ↓reduceIte, lc, q1, z1, z2, z3]; first | done | (with_reducible exact rfl) | (with_reducible exact ⟨rfl, rfl⟩))))
        | ((with_reducible apply eR); (simp only [nth_zero, nth_succ]; (with_reducible exact rfl)))
        | ((with_reducible first | refine sEql ?_ ?_ | refine sNeq ?_ ?_ | refine sLss ?_ ?_ | refine sLeq ?_ ?_ | refine sGtr ?_ ?_ | refine sGeq ?_ ?_ | refine sNot ?_ ?_ | refine sPick ?_ ?_ | refine sGd ?_ ?_ | refine eBool ?_ ?_) <;> intro hq <;> try subst hq)
      refine e_out ?_; rfl
    rw [if_neg h1] at h
    by_cases h2 : (s.steps : Int) = fuel
    · rw [if_pos h2] at h
      simp only [Option.some.injEq, Prod.mk.injEq] at h
      obtain ⟨h, rfl⟩ := h
      refine ⟨Nn s.at_, [], s', ?_⟩
      rw [alembicref17_Run.l4]
      have hc := rq_cut fuel bc bor cs R s (-1) (.ro b2 (leaksV sp)) hspl M s.at_ H hH
      unfold xsQ at *
      have lc : lenSl (.ro bor (codeV cs)) = some (I6 cs.length) := by simp [lenSl, codeV_len]
      have q1 : bin Tryd.prog .geq 3 false (Nn s.at_) (I6 cs.length) = some (.bool false) := by rw [bin_geq, decide_eq_false (by omega)]
      have q2 : bin Tryd.prog .geq 2 false (Nn s.steps) (I6 fuel) = some (.bool true) := by rw [bin_geq, decide_eq_true (by omega)]
      have p1 := qSteps G s (-1)
      have z1 := qCode s (-1) 4
      have z2 := qAll G { s with code := 4 } (-1)
      have z3 := qRes { s with code := 4 } (-1)
      rw [h] at z1 z2 z3
      refine e_id ?_
      refine eC hc ?_
      repeat' first
        | (with_reducible first | refine eT ?_ | refine eN ?_ | refine eS ?_ | refine eXn ?_ | refine eXr ?_ | refine eX ?_ | refine eI ?_ | refine eK ?_ | refine eV0 ?_ | refine eGtt ?_ | refine eGff ?_ | refine eGtf ?_ | refine eGft ?_ | refine eGno ?_)
        | ((with_reducible apply eCn); (simp only [nth_zero, nth_succ]; first | done | (with_reducible exact rfl)))
        | ((with_reducible apply eJ); (rfl))
        | ((with_reducible apply eB); (first | (with_reducible exact rfl) | (simp (disch := omega) only [qf, lc, q1, q2, p1, z1, z2, z3]; first | done | (with_reducible exact rfl) | (with_reducible exact ⟨rfl, rfl⟩)) | (simp (disch := omega) only [qa, putC, AV.cells, storable, buildSt, fillA, buildRo, buildOwn, fillE, Nat.reduceLeDiff, Nat.reduceLT, Nat.reduceAdd, ↓reduceIte, lc, q1, q2, p1, z1, z2, z3]; first | done | (with_reducible exact rfl) | (with_reducible exact ⟨rfl, rfl⟩))))
        | ((with_reducible apply eR); (simp only [nth_zero, nth_succ]; (with_reducible exact rfl)))
        | ((with_reducible first | refine sEql ?_ ?_ | refine sNeq ?_ ?_ | refine sLss ?_ ?_ | refine sLeq ?_ ?_ | refine sGtr ?_ ?_ | refine sGeq ?_ ?_ | refine sNot ?_ ?_ | refine sPick ?_ ?_ | refine sGd ?_ ?_ | refine eBool ?_ ?_) <;> intro hq <;> try subst hq)
      refine e_out ?_; rfl
    rw [if_neg h2] at h
    have hi := hcs s.at_ (by omega)
    rw [rq_round G k self fuel bc bor b2 sp cs R s hsp _ (cs.getD s.at_ default) H hH hs hi hcl (by omega) rfl (by omega) (by omega) M hM]
    by_cases h3 : wrongB sp s (cs.getD s.at_ default) = true
    · rw [if_pos h3] at h ⊢
      simp only [Option.some.injEq, Prod.mk.injEq] at h
      obtain ⟨h, rfl⟩ := h
      exact ⟨_, _, _, rfl⟩
    rw [if_neg h3] at h ⊢
    have okt : s.tick.Ok R := ⟨hs.len, hs.regs, hs.mem, by have := hs.leaks; simp [MS.tick, MS.leak]; omega, hs.big, by simp [MS.tick, MS.leak]; omega⟩
    obtain ⟨o1, o2, o3, o4⟩ := MS.step_ok okt hi.ok (by have := hs.leaks; simp [MS.tick, MS.leak]; omega) (show s.tick.at_ < cs.length from by show s.at_ < _; omega)
    have tm : s.tick.mem = s.mem := rfl
    have tst : s.tick.steps = s.steps + 1 := rfl
    obtain ⟨s2, b, hsb⟩ : ∃ s2 b, s.tick.step (cs.getD s.at_ default) = (s2, b) := ⟨_, _, rfl⟩
    rw [hsb] at h o1 o2 o3 o4 ⊢
    simp only at h o1 o2 o3 o4
    cases b
    · simp only [Option.some.injEq, Prod.mk.injEq] at h
      obtain ⟨rfl, rfl⟩ := h
      exact ⟨_, _, _, rfl⟩
    · exact rq_loop hsp hcl hcs hf M f s2 s' w _ h o1 (by rw [o3, tst]; omega) (by rw [o4, tm]; exact hM) o2 rfl

theorem rRun_spec (M : Int) (mem : List Nat) (bm : Bool) (hsp : sp.length = cs.length) (hR : R ≤ 100000) (hm : ∀ x ∈ mem, x < 18446744073709551616) (hml : mem.length ≤ 1000000) (hM : M = mem.length) (h0 : 0 ≤ fuel) (hf : fuel ≤ 99998) (hcl : cs.length ≤ 100000)
    (hcs : ∀ j, j < cs.length → (cs.getD j default).Ok2 R cs.length) (hk : mem.length < k + 2) (s' : MS) (w : Int) (hrun : runB sp cs fuel (k + 11) (s0 R mem) = some (s', w)) :
    ∃ s'', alembicref17_Run.f G (k + 12) [cdV bor cs R M, .ro b2 (leaksV sp), .ro bm (natsU mem), I6 fuel] [] = some (endQ s'' w, []) := by
  obtain ⟨x, l, s'', lp⟩ := rq_loop G k (alembicref17_Run.f G (k + 11)) fuel false bor b2 sp cs R hsp hcl hcs hf M (k + 11) (s0 R mem) s' w (hpQ (s0 R mem) (-1)) hrun (s0_ok R mem hm hml) (by simp only [s0]; omega) (by simpa [s0] using hM) (by simp [s0]) rfl
  refine ⟨s'', ?_⟩
  rw [alembicref17_Run.step]
  unfold alembicref17_Run.c cdV
  have w1_ : heapCall (alembicref_Words.f G (k + 11)) [.ro bm (natsU mem)] [bZ] = some (.sl 2 mem.length 0 mem.length 1, [bZ, ⟨48, 1, []⟩, ⟨48, 1, natsU mem⟩]) := heapCall_of (words_spec G (k + 10) bm mem hml (by omega)) (by simp [hpW])
  have q1 : bin Tryd.prog .add 3 true (I6 R) (.int .i64 1) = some (I6 (R + 1 : Nat)) := by
    rw [bin_add, wrap_of_i64 (by omega) (by omega)]; congr 2
  have c5 : makeSliceV 48 1 (.int .u64 0) (I6 (R + 1 : Nat)) (I6 (R + 1 : Nat)) [bZ, ⟨48, 1, []⟩, ⟨48, 1, natsU mem⟩, ⟨44, 5, [.agg [.int .i64 0, .sl 2 mem.length 0 mem.length 1, .nils, .int .i64 0, .int .i64 (-1)]]⟩] =
      some (.sl 4 (R + 1) 0 (R + 1) 1, [bZ, ⟨48, 1, []⟩, ⟨48, 1, natsU mem⟩, ⟨44, 5, [.agg [.int .i64 0, .sl 2 mem.length 0 mem.length 1, .nils, .int .i64 0, .int .i64 (-1)]]⟩, ⟨48, 1, natsU (List.replicate R 0 ++ [0])⟩]) := by
    unfold makeSliceV
    have : (0 : Int) ≤ (R + 1 : Nat) ∧ ((R + 1 : Nat) : Int) ≤ (R + 1 : Nat) ∧ ((R + 1 : Nat) : Int) ≤ 1099511627776 := by omega
    have e : List.replicate R 0 ++ [0] = List.replicate (R + 1) 0 := by rw [List.replicate_succ']
    rw [e]
    simp only [this, and_self, if_true, Int.toNat_natCast, natsU, List.map_replicate]
    rfl
  unfold xsQ xsW at lp
  refine e_in ?_
  repeat first
    | (with_reducible first | refine eT ?_ | refine eN ?_ | refine eS ?_ | refine eXn ?_ | refine eXr ?_ | refine eX ?_ | refine eI ?_ | refine eK ?_ | refine eV0 ?_ | refine eGtt ?_ | refine eGff ?_ | refine eGtf ?_ | refine eGft ?_ | refine eGno ?_)
    | ((with_reducible apply eCn); (simp only [nth_zero, nth_succ]; first | done | (with_reducible exact rfl)))
    | ((with_reducible apply eJ); (rfl))
    | ((with_reducible apply eB); (first | (with_reducible exact rfl) | (simp (disch := omega) only [qf, w1_, q1, c5]; first | done | (with_reducible exact rfl) | (with_reducible exact ⟨rfl, rfl⟩)) | (simp (disch := omega) only [qa, putC, AV.cells, storable, buildSt, fillA, buildRo, buildOwn, fillE, Nat.reduceLeDiff, Nat.reduceLT, Nat.reduceAdd, ↓reduceIte, w1_, q1, c5]; first | done | (with_reducible exact rfl) | (with_reducible exact ⟨rfl, rfl⟩))))
    | ((with_reducible apply eR); (simp only [nth_zero, nth_succ]; (with_reducible exact rfl)))
  refine eV1 (H1 := [⟨44, 5, [.agg [.int .i64 0, .nils, .sl 5 0 0 0 2, .int .i64 0, .int .i64 0]]⟩, ⟨48, 1, []⟩, ⟨48, 1, natsU mem⟩, ⟨44, 5, [.agg [.int .i64 0, .sl 2 mem.length 0 mem.length 1, .nils, .int .i64 0, .int .i64 (-1)]]⟩, ⟨48, 1, natsU (List.replicate R 0 ++ [0])⟩, ⟨96, 2, []⟩]) rfl ?_
  refine eV1 (H1 := hpQ (s0 R mem) (-1)) rfl ?_
  refine eV0 ?_
  rw [hq_len]
  refine eK ?_
  refine eL lp ?_
  repeat first
    | (with_reducible first | refine eT ?_ | refine eN ?_ | refine eS ?_ | refine eXn ?_ | refine eXr ?_ | refine eX ?_ | refine eI ?_ | refine eK ?_ | refine eV0 ?_ | refine eGtt ?_ | refine eGff ?_ | refine eGtf ?_ | refine eGft ?_ | refine eGno ?_)
    | ((with_reducible apply eCn); (simp only [nth_zero, nth_succ]; first | done | (with_reducible exact rfl)))
    | ((with_reducible apply eJ); (rfl))
    | ((with_reducible apply eB); (first | (with_reducible exact rfl) | (simp (disch := omega) only [qa, putC, AV.cells, storable, buildSt, fillA, buildRo, buildOwn, fillE, Nat.reduceLeDiff, Nat.reduceLT, Nat.reduceAdd, ↓reduceIte]; first | done | (with_reducible exact rfl) | (with_reducible exact ⟨rfl, rfl⟩))))
    | ((with_reducible apply eR); (simp only [nth_zero, nth_succ]; (with_reducible exact rfl)))
  exact oF (rRun_fin G s'' w l)
end
end Go.Proofs.YtcmblhedhgiofaaDoor.Mir.B3
