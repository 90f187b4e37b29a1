/- The law of WordsLoops, in plain Lean. -/
import Derived.Test.YtcmblhedhgiofaaDoorWo
namespace Go.Proofs.YtcmblhedhgiofaaDoor
open Go Mir
set_option linter.unusedVariables false
set_option linter.unusedSimpArgs false
set_option maxHeartbeats 8000000
set_option maxRecDepth 20000

theorem first17 (G : Globs) (k : Nat) : alembiclaw17_first.f G (k + 60) [] [] = some (.bool true, []) := by kernel_rfl
abbrev GF : Globs := sentG 154 [2, 1, 0, 3, 4, 5]
theorem GF_ok : GOk GF := ⟨rfl, rfl, rfl, rfl, rfl, rfl⟩

def csL (n : Nat) : List Ins := [⟨1, 2, 0, 0, 0, 1⟩, ⟨1, 3, 0, 0, 0, n⟩, ⟨13, 5, 0, 3, 0, 0⟩, ⟨18, 0, 5, 0, 0, 8⟩, ⟨15, 4, 0, 0, 0, 0⟩, ⟨3, 1, 1, 4, 0, 0⟩, ⟨3, 0, 0, 2, 0, 0⟩, ⟨17, 0, 0, 0, 0, 2⟩, ⟨16, 0, 0, 1, 0, 0⟩, ⟨20, 0, 0, 0, 0, 0⟩]

theorem csL_valid (n : Nat) (hn : n ≤ 40) : validF (csL n) 6 (n + 1 : Nat) = .ok := by
  refine validF_is (by simp [csL]) (by omega) ?_
  have hl : ((csL n).length : Int) = 10 := rfl
  rw [hl]
  unfold csL
  refine badF_cons (oneF_of (by simp [oneK, out4, off5, outR, frmD, formF, kindF, inK]) (by simp)) ?_
  refine badF_cons (oneF_of (by simp [oneK, out4, off5, outR, frmD, formF, kindF, inK]) (by simp)) ?_
  refine badF_cons (oneF_of (by simp [oneK, out4, off5, outR, frmD, formF, kindF, inK]) (by simp)) ?_
  refine badF_cons (oneF_of (by simp [oneK, out4, off5, outR, frmD, formF, kindF, inK]) (by simp)) ?_
  refine badF_cons (oneF_of (by simp [oneK, out4, off5, outR, frmD, formF, kindF, inK]) (by simp)) ?_
  refine badF_cons (oneF_of (by simp [oneK, out4, off5, outR, frmD, formF, kindF, inK]) (by simp)) ?_
  refine badF_cons (oneF_of (by simp [oneK, out4, off5, outR, frmD, formF, kindF, inK]) (by simp)) ?_
  refine badF_cons (oneF_of (by simp [oneK, out4, off5, outR, frmD, formF, kindF, inK]) (by simp)) ?_
  refine badF_cons (oneF_of (by simp [oneK, out4, off5, outR, frmD, formF, kindF, inK]) (by simp)) ?_
  refine badF_cons (oneF_of (by simp [oneK, out4, off5, outR, frmD, formF, kindF, inK]) (by simp)) ?_
  exact badF_nil _ _ _

/-- The sum of the first numbers. -/
def sumW (l : List Nat) : Nat := l.foldl (fun s x => (s + x) % 18446744073709551616) 0
theorem sumW_snoc (l : List Nat) (x : Nat) : sumW (l ++ [x]) = (sumW l + x) % 18446744073709551616 := by simp [sumW, List.foldl_append]
theorem sumW_lt (l : List Nat) : sumW l < 18446744073709551616 := by
  have : ∀ (l : List Nat) (s : Nat), s < 18446744073709551616 → l.foldl (fun s x => (s + x) % 18446744073709551616) s < 18446744073709551616 := by
    intro l
    induction l with
    | nil => intro s hs; exact hs
    | cons x l ih => intro s hs; exact ih _ (Nat.mod_lt _ (by decide))
  exact this l 0 (by decide)

theorem round (l : List Nat) (n i : Nat) (hl : l.length = n) (hn : n ≤ 40) (hi : i < n) (S x y : Nat) (k : List (Int × Int)) (st : Nat) (fuel : Int) (hf : (st : Int) + 6 ≤ fuel) (f : Nat) :
    runM (csL n) fuel (f + 6) ⟨[i, S, 1, n, x, y], 2, 0, l ++ [0], k, st⟩ =
      runM (csL n) fuel f ⟨[i + 1, (S + l.getD i 0) % 18446744073709551616, 1, n, l.getD i 0, 1], 2, 0, l ++ [0], k ++ [(1, 2), (1, 3), (2, 0), (1, 4), (3, s64 i), (1, 5), (1, 6), (1, 7)], st + 6⟩ := by
  have hlen : (csL n).length = 10 := rfl
  have e0 : u64 0 = 0 := rfl
  rw [runM_go (i := ⟨13, 5, 0, 3, 0, 0⟩) (s2 := ⟨[i, S, 1, n, x, 1], 3, 0, l ++ [0], k ++ [(1, 2)], st + 1⟩) (by simp [csL]) (by simp; omega) rfl (by
    simp [MS.step, MS.tick, MS.leak, MS.rg, MS.set, valF, hi])]
  rw [runM_go (i := ⟨18, 0, 5, 0, 0, 8⟩) (s2 := ⟨[i, S, 1, n, x, 1], 4, 0, l ++ [0], k ++ [(1, 2), (1, 3), (2, 0)], st + 2⟩) (by simp [csL]) (by simp; omega) rfl (by
    simp [MS.step, MS.branch, MS.tick, MS.leak, MS.rg])]
  have hm : i % 18446744073709551616 = i := Nat.mod_eq_of_lt (by omega)
  have hlt : ¬ (l ++ [0]).length ≤ i := by simp; omega
  have hget : (l ++ [0]).getD i 0 = l.getD i 0 := by
    simp only [List.getD_eq_getElem?_getD]
    rw [List.getElem?_append_left (by omega)]
  rw [runM_go (i := ⟨15, 4, 0, 0, 0, 0⟩) (s2 := ⟨[i, S, 1, n, l.getD i 0, 1], 5, 0, l ++ [0], k ++ [(1, 2), (1, 3), (2, 0), (1, 4), (3, s64 i)], st + 3⟩) (by simp [csL]) (by simp; omega) rfl (by
    unfold MS.step MS.touch
    simp only [MS.tick, MS.leak, MS.rg, MS.set, e0, Nat.add_zero]
    simp only [List.getD_cons_zero, Int.toNat_zero, hm, hlt, if_false, hget, if_true, true_or]
    simp)]
  rw [runM_go (i := ⟨3, 1, 1, 4, 0, 0⟩) (s2 := ⟨[i, (S + l.getD i 0) % 18446744073709551616, 1, n, l.getD i 0, 1], 6, 0, l ++ [0], k ++ [(1, 2), (1, 3), (2, 0), (1, 4), (3, s64 i), (1, 5)], st + 4⟩) (by simp [csL]) (by simp; omega) rfl (by
    simp [MS.step, MS.tick, MS.leak, MS.rg, MS.set, valF])]
  have hm1 : (i + 1) % 18446744073709551616 = i + 1 := Nat.mod_eq_of_lt (by omega)
  rw [runM_go (i := ⟨3, 0, 0, 2, 0, 0⟩) (s2 := ⟨[i + 1, (S + l.getD i 0) % 18446744073709551616, 1, n, l.getD i 0, 1], 7, 0, l ++ [0], k ++ [(1, 2), (1, 3), (2, 0), (1, 4), (3, s64 i), (1, 5), (1, 6)], st + 5⟩) (by simp [csL]) (by simp; omega) rfl (by
    simp [MS.step, MS.tick, MS.leak, MS.rg, MS.set, valF, hm1])]
  rw [runM_go (i := ⟨17, 0, 0, 0, 0, 2⟩) (s2 := ⟨[i + 1, (S + l.getD i 0) % 18446744073709551616, 1, n, l.getD i 0, 1], 2, 0, l ++ [0], k ++ [(1, 2), (1, 3), (2, 0), (1, 4), (3, s64 i), (1, 5), (1, 6), (1, 7)], st + 6⟩) (by simp [csL]) (by simp; omega) rfl (by
    simp [MS.step, MS.branch, MS.tick, MS.leak])]

/-- All rounds. -/
theorem rounds (l : List Nat) (n : Nat) (hl : l.length = n) (hn : n ≤ 40) (fuel : Int) : ∀ (suf pre : List Nat) (x y : Nat) (k : List (Int × Int)) (f : Nat), l = pre ++ suf → 6 * (n : Int) + 2 ≤ fuel → k.length = 2 + 8 * pre.length →
    ∃ x' y' k', k'.length = 2 + 8 * n ∧ runM (csL n) fuel (f + 6 * suf.length) ⟨[pre.length, sumW pre, 1, n, x, y], 2, 0, l ++ [0], k, 2 + 6 * pre.length⟩ = runM (csL n) fuel f ⟨[n, sumW l, 1, n, x', y'], 2, 0, l ++ [0], k', 2 + 6 * n⟩
  | [], pre, x, y, k, f, h, hf, hk => by
    have e : l = pre := by rw [h]; simp
    subst e
    rw [hl] at hk
    exact ⟨x, y, k, hk, by rw [hl]; rfl⟩
  | a :: suf, pre, x, y, k, f, h, hf, hk => by
    have hlen : n = pre.length + (suf.length + 1) := by rw [← hl, h]; simp
    have ha : l.getD pre.length 0 = a := by rw [h]; simp [List.getD]
    have e1 : f + 6 * (a :: suf).length = (f + 6 * suf.length) + 6 := by simp; omega
    rw [e1, round l n pre.length hl hn (by omega) (sumW pre) x y k (2 + 6 * pre.length) fuel (by push_cast; omega)]
    rw [ha, ← sumW_snoc]
    have e2 : (pre ++ [a]).length = pre.length + 1 := by simp
    obtain ⟨x', y', k', h1, h2⟩ := rounds l n hl hn fuel suf (pre ++ [a]) a 1 (k ++ [(1, 2), (1, 3), (2, 0), (1, 4), (3, s64 pre.length), (1, 5), (1, 6), (1, 7)]) f (by rw [h]; simp) hf (by rw [e2]; simp [hk]; omega)
    rw [e2] at h2
    exact ⟨x', y', k', h1, by rw [show 2 + 6 * pre.length + 6 = 2 + 6 * (pre.length + 1) by omega]; exact h2⟩

/-- The end of it: with fuel enough, or with one step too few. -/
theorem tailL (l : List Nat) (n : Nat) (hl : l.length = n) (hn : n ≤ 40) (x y : Nat) (k : List (Int × Int)) (f : Nat) (fuel : Int) (hf : fuel = 6 * (n : Int) + 6 ∨ fuel = 6 * (n : Int) + 5) :
    runM (csL n) fuel (f + 5) ⟨[n, sumW l, 1, n, x, y], 2, 0, l ++ [0], k, 2 + 6 * n⟩ =
      some (if fuel = 6 * (n : Int) + 6 then ⟨[n, sumW l, 1, n, x, 0], 10, 0, l ++ [sumW l], k ++ [(1, 2), (1, 3), (2, 1), (1, 8), (3, s64 n), (1, 9)], 6 + 6 * n⟩
        else ⟨[n, sumW l, 1, n, x, 0], 9, 4, l ++ [sumW l], k ++ [(1, 2), (1, 3), (2, 1), (1, 8), (3, s64 n)], 5 + 6 * n⟩) := by
  have e0 : u64 0 = 0 := rfl
  rw [runM_go (i := ⟨13, 5, 0, 3, 0, 0⟩) (s2 := ⟨[n, sumW l, 1, n, x, 0], 3, 0, l ++ [0], k ++ [(1, 2)], 2 + 6 * n + 1⟩) (by simp [csL]) (by simp; omega) rfl (by
    simp [MS.step, MS.tick, MS.leak, MS.rg, MS.set, valF])]
  rw [runM_go (i := ⟨18, 0, 5, 0, 0, 8⟩) (s2 := ⟨[n, sumW l, 1, n, x, 0], 8, 0, l ++ [0], k ++ [(1, 2), (1, 3), (2, 1)], 2 + 6 * n + 2⟩) (by simp [csL]) (by simp; omega) rfl (by
    simp [MS.step, MS.branch, MS.tick, MS.leak, MS.rg])]
  have hm : n % 18446744073709551616 = n := Nat.mod_eq_of_lt (by omega)
  have hlt : ¬ (l ++ [0]).length ≤ n := by simp; omega
  have hset : (l ++ [0]).set n (sumW l) = l ++ [sumW l] := by
    rw [List.set_append_right _ _ (by omega)]
    simp [hl]
  rw [runM_go (i := ⟨16, 0, 0, 1, 0, 0⟩) (s2 := ⟨[n, sumW l, 1, n, x, 0], 9, 0, l ++ [sumW l], k ++ [(1, 2), (1, 3), (2, 1), (1, 8), (3, s64 n)], 2 + 6 * n + 3⟩) (by simp [csL]) (by simp; omega) rfl (by
    unfold MS.step MS.touch
    simp only [MS.tick, MS.leak, MS.rg, MS.set, e0, Nat.add_zero]
    simp only [List.getD_cons_zero, Int.toNat_zero, hm, hlt, if_false, or_true, if_true]
    simp [hset])]
  rcases hf with hf | hf
  · rw [if_pos hf]
    rw [runM_end (i := ⟨20, 0, 0, 0, 0, 0⟩) (s2 := ⟨[n, sumW l, 1, n, x, 0], 10, 0, l ++ [sumW l], k ++ [(1, 2), (1, 3), (2, 1), (1, 8), (3, s64 n), (1, 9)], 6 + 6 * n⟩) (by simp [csL]) (by simp; omega) rfl (by
      simp [MS.step, MS.tick, MS.leak]; omega)]
  · rw [if_neg (by omega)]
    rw [runM_fuel (by simp [csL]) (by simp; omega)]
    rw [show 2 + 6 * n + 3 = 5 + 6 * n by omega]

theorem startL (l : List Nat) (n : Nat) (fuel : Int) (hf : 2 ≤ fuel) (hn : n ≤ 40) (f : Nat) : runM (csL n) fuel (f + 2) (s0 6 (l ++ [0])) = runM (csL n) fuel f ⟨[0, 0, 1, n, 0, 0], 2, 0, l ++ [0], [(1, 0), (1, 1)], 2⟩ := by
  have e1 : u64 1 = 1 := rfl
  have e2 : u64 (n : Int) = n := u64_nat n (by omega)
  rw [runM_go (i := ⟨1, 2, 0, 0, 0, 1⟩) (s2 := ⟨[0, 0, 1, 0, 0, 0], 1, 0, l ++ [0], [(1, 0)], 1⟩) (by simp [s0, csL]) (by simp [s0]; omega) rfl rfl]
  rw [runM_go (i := ⟨1, 3, 0, 0, 0, n⟩) (s2 := ⟨[0, 0, 1, n, 0, 0], 2, 0, l ++ [0], [(1, 0), (1, 1)], 2⟩) (by simp [csL]) (by simp; omega) rfl (by
    simp [MS.step, MS.tick, MS.leak, MS.rg, MS.set, valF, e2])]

theorem runL (l : List Nat) (n : Nat) (hl : l.length = n) (hn : n ≤ 40) (fuel : Int) (hf : fuel = 6 * (n : Int) + 6 ∨ fuel = 6 * (n : Int) + 5) (f : Nat) (hff : 300 ≤ f) :
    ∃ s, runM (csL n) fuel f (s0 6 (l ++ [0])) = some s ∧ s.mem = l ++ [sumW l] ∧ (fuel = 6 * (n : Int) + 6 → s.code = 0 ∧ s.steps = 6 * n + 6 ∧ s.leaks.length = 8 * n + 8) ∧ (fuel = 6 * (n : Int) + 5 → s.code = 4 ∧ s.steps = 6 * n + 5) := by
  obtain ⟨f', rfl⟩ : ∃ f', f = f' + 5 + 6 * l.length + 2 := ⟨f - 7 - 6 * l.length, by omega⟩
  rw [startL l n fuel (by omega) hn]
  obtain ⟨x, y, k', h1, h2⟩ := rounds l n hl hn fuel l [] 0 0 [(1, 0), (1, 1)] (f' + 5) rfl (by omega) rfl
  have e : (⟨[0, 0, 1, n, 0, 0], 2, 0, l ++ [0], [(1, 0), (1, 1)], 2⟩ : MS) = ⟨[([] : List Nat).length, sumW [], 1, n, 0, 0], 2, 0, l ++ [0], [(1, 0), (1, 1)], 2 + 6 * ([] : List Nat).length⟩ := rfl
  rw [e, h2, tailL l n hl hn x y k' f' fuel hf]
  refine ⟨_, rfl, ?_, fun h => ?_, fun h => ?_⟩
  · split <;> rfl
  · rw [if_pos h]; exact ⟨rfl, by simp only; omega, by simp [h1]; omega⟩
  · rw [if_neg (by omega)]; exact ⟨rfl, by simp only; omega⟩

theorem of_words {x : AV} {t e : TypeId} (hu : Tryd.prog.underlying t = some (.slice e)) (he : Tryd.prog.underlying e = some (.int .u64)) (h : IsT Tryd.prog t x) :
    ∃ l : List Nat, x = .ro false (natsU l) ∧ (∀ n ∈ l, n < 18446744073709551616) := by
  obtain ⟨l, rfl, hw, hl⟩ := h.of_ints hu he
  refine ⟨l.map Int.toNat, ?_, ?_⟩
  · unfold natsU
    rw [List.map_map]
    congr 1
    apply List.map_congr_left
    intro n hn
    obtain ⟨h1, h2⟩ := wf_u64 (hw n hn)
    show AV.int .u64 n = AV.int .u64 ((n.toNat : Nat) : Int)
    rw [Int.toNat_of_nonneg h1]
  · intro n hn
    obtain ⟨z, hz, rfl⟩ := List.mem_map.1 hn
    have := wf_u64 (hw z hz)
    omega

def cdL (n : Nat) : AV := .agg [.ro false (codeV (csL n)), .int .i64 6, Nn (n + 1)]
/-- The blocks ahead of the run. -/
def hpL (l : List Nat) (n : Nat) : AHeap := [⟨24, 3, [cdL n]⟩, ⟨48, 1, natsU (l ++ [0])⟩]
abbrev xsL (l : List Nat) (n S i : Nat) : List AV := [.ro false (natsU l), .bool true, Nn n, .ptr 0 1 0 0, .sl 1 (n + 1) 0 (n + 1) 1, Un S, Nn i]

theorem sum_loop (G : Globs) (k : Nat) (self : Den) (l : List Nat) (n : Nat) (hl : l.length = n) (hn : n ≤ 40) : ∀ (suf pre : List Nat) (f : Nat), l = pre ++ suf → suf.length < f →
    loopN (alembiclaw17_WordsLoops.l12 G k 2 self) f (xsL l n (sumW pre) pre.length) (hpL l n) = some (.exit 0, xsL l n (sumW l) n, hpL l n)
  | suf, pre, 0, h, hf => by omega
  | [], pre, f + 1, h, hf => by
    rw [loopN_succ, alembiclaw17_WordsLoops.l12]
    have e : l = pre := by rw [h]; simp
    have hc : cutH 2 (xsL l n (sumW pre) pre.length) (hpL l n) = some (hpL l n) := by simp [cutH, hpL, cdL, belowL, belowB, heapBelow, natsU_below, codeV_below]
    have q : bin Tryd.prog .lss 3 false (Nn pre.length) (Nn n) = some (.bool false) := by rw [bin_lss, decide_eq_false (by rw [← e]; omega)]
    refine e_id ?_
    refine eC hc ?_
    repeat' first
      | (with_reducible refine eT ?_)
      | (with_reducible refine eN ?_)
      | (with_reducible refine eS ?_)
      | (with_reducible refine eXn ?_)
      | (with_reducible refine eXr ?_)
      | (with_reducible refine eX ?_)
      | (with_reducible refine eI ?_)
      | (with_reducible refine eK ?_)
      | (with_reducible refine eV0 ?_)
      | (with_reducible refine eGtt ?_)
      | (with_reducible refine eGff ?_)
      | (with_reducible refine eGtf ?_)
      | (with_reducible refine eGft ?_)
      | (with_reducible refine eGno ?_)
      | ((with_reducible apply eCn); (simp only [nth_zero, nth_succ]; done))
      | ((with_reducible apply eCn); (simp only [nth_zero, nth_succ]; (with_reducible exact rfl)))
      | ((with_reducible apply eJ); (rfl))
      | ((with_reducible apply eB); (first | (with_reducible exact rfl) | (simp (disch := omega) only [pu_val, nth_zero, nth_succ, gd_tt, gd_ff, gd_tf, gd_ft, gd_no, q]; first | done | (with_reducible exact rfl) | (with_reducible exact ⟨rfl, rfl⟩)) | (simp (disch := omega) only [pu_val, nth_zero, nth_succ, gd_tt, gd_ff, gd_tf, gd_ft, gd_no, pickA_true, pickA_false, q_notT, q_notF, q_eql_t, q_eql_f, q_neq_t, q_neq_f, q_lss_t, q_lss_f, q_leq_t, q_leq_f, q_gtr_t, q_gtr_f, q_geq_t, q_geq_f, q_add, q_sub, q_addU, q_cvI, q_cvU, q_cv8, q_cv32, q_idxSl, q_lenRo, q_lenSl, q_lenNil, q_nilp, q_nilrp, q_nilfn, q_nilgl, q_fap, q_farp, q_ldrp, q_boxAgg, q_ext0, q_ext1, q_ext2, List.getElem?_cons_zero, List.getElem?_cons_succ, List.getElem?_nil, q_stS, q_ldp0, q_ldpS, q_ldB, q_ldBT, q_ldrpT, q_ldBi, q_ldBb, q_boxA, q_boxI, q_boxB, List.length_cons, List.length_nil, List.cons_append, List.nil_append, List.drop_zero, List.drop_succ_cons, List.take_succ_cons, List.take_zero, q_stp0, q_stpS, q_stB, Option.map_some, putC, AV.cells, storable, buildSt, fillA, buildRo, buildOwn, fillE, List.replicate_succ, List.replicate_zero, List.set_cons_zero, List.set_cons_succ, Nat.reduceLeDiff, Nat.reduceLT, Nat.le_refl, and_self, true_and, and_true, ↓reduceIte, if_true, Bool.not_true, Bool.not_false, Int.toNat_natCast, Nat.zero_add, Nat.reduceAdd, q]; first | done | (with_reducible exact rfl) | (with_reducible exact ⟨rfl, rfl⟩))))
      | ((with_reducible apply eR); (simp only [nth_zero, nth_succ]; (with_reducible exact rfl)))
      | ((with_reducible refine sEql (fun hq => ?_) (fun hq => ?_)) <;> try subst hq)
      | ((with_reducible refine sNeq (fun hq => ?_) (fun hq => ?_)) <;> try subst hq)
      | ((with_reducible refine sLss (fun hq => ?_) (fun hq => ?_)) <;> try subst hq)
      | ((with_reducible refine sLeq (fun hq => ?_) (fun hq => ?_)) <;> try subst hq)
      | ((with_reducible refine sGtr (fun hq => ?_) (fun hq => ?_)) <;> try subst hq)
      | ((with_reducible refine sGeq (fun hq => ?_) (fun hq => ?_)) <;> try subst hq)
      | ((with_reducible refine sNot (fun hq => ?_) (fun hq => ?_)) <;> try subst hq)
      | ((with_reducible refine sPick (fun hq => ?_) (fun hq => ?_)) <;> try subst hq)
      | ((with_reducible refine sGd (fun hq => ?_) (fun hq => ?_)) <;> try subst hq)
      | ((with_reducible refine eBool (fun hq => ?_) (fun hq => ?_)) <;> try subst hq)
    rw [← e, hl]
    refine e_out ?_; rfl
  | a :: suf, pre, f + 1, h, hf => by
    rw [loopN_succ, alembiclaw17_WordsLoops.l12]
    have hlen : n = pre.length + (suf.length + 1) := by rw [← hl, h]; simp
    have hc : cutH 2 (xsL l n (sumW pre) pre.length) (hpL l n) = some (hpL l n) := by simp [cutH, hpL, cdL, belowL, belowB, heapBelow, natsU_below, codeV_below]
    have q : bin Tryd.prog .lss 3 false (Nn pre.length) (Nn n) = some (.bool true) := by rw [bin_lss, decide_eq_true (by omega)]
    have ha : l.getD pre.length 0 = a := by rw [h]; simp [List.getD]
    have d1 : idxAddrSl 1 (.ro false (natsU l)) (Nn pre.length) = some (.rp false (Un a) 0) := by
      have := natsU_get l pre.length (by omega)
      rw [ha] at this
      exact idxRo1 this rfl
    have d2 : ∀ H, loadV G false 1 (.rp false (Un a) 0) H = some (Un a) := fun H => rfl
    have d3 : bin Tryd.prog .add 48 false (Un (sumW pre)) (Un a) = some (Un (sumW (pre ++ [a]))) := by rw [u64_add, ← sumW_snoc]
    have d4 : bin Tryd.prog .add 3 true (Nn pre.length) (.int .i64 1) = some (Nn (pre ++ [a]).length) := by
      rw [bin_add, wrap_of_i64 (by omega) (by omega)]; congr 2; simp
    have ih := sum_loop G k self l n hl hn suf (pre ++ [a]) f (by rw [h]; simp) (by simp at hf; omega)
    refine e_id ?_
    refine eC hc ?_
    repeat' first
      | (with_reducible refine eT ?_)
      | (with_reducible refine eN ?_)
      | (with_reducible refine eS ?_)
      | (with_reducible refine eXn ?_)
      | (with_reducible refine eXr ?_)
      | (with_reducible refine eX ?_)
      | (with_reducible refine eI ?_)
      | (with_reducible refine eK ?_)
      | (with_reducible refine eV0 ?_)
      | (with_reducible refine eGtt ?_)
      | (with_reducible refine eGff ?_)
      | (with_reducible refine eGtf ?_)
      | (with_reducible refine eGft ?_)
      | (with_reducible refine eGno ?_)
      | ((with_reducible apply eCn); (simp only [nth_zero, nth_succ]; done))
      | ((with_reducible apply eCn); (simp only [nth_zero, nth_succ]; (with_reducible exact rfl)))
      | ((with_reducible apply eJ); (rfl))
      | ((with_reducible apply eB); (first | (with_reducible exact rfl) | (simp (disch := omega) only [pu_val, nth_zero, nth_succ, gd_tt, gd_ff, gd_tf, gd_ft, gd_no, q, d1, d2, d3, d4]; first | done | (with_reducible exact rfl) | (with_reducible exact ⟨rfl, rfl⟩)) | (simp (disch := omega) only [pu_val, nth_zero, nth_succ, gd_tt, gd_ff, gd_tf, gd_ft, gd_no, pickA_true, pickA_false, q_notT, q_notF, q_eql_t, q_eql_f, q_neq_t, q_neq_f, q_lss_t, q_lss_f, q_leq_t, q_leq_f, q_gtr_t, q_gtr_f, q_geq_t, q_geq_f, q_add, q_sub, q_addU, q_cvI, q_cvU, q_cv8, q_cv32, q_idxSl, q_lenRo, q_lenSl, q_lenNil, q_nilp, q_nilrp, q_nilfn, q_nilgl, q_fap, q_farp, q_ldrp, q_boxAgg, q_ext0, q_ext1, q_ext2, List.getElem?_cons_zero, List.getElem?_cons_succ, List.getElem?_nil, q_stS, q_ldp0, q_ldpS, q_ldB, q_ldBT, q_ldrpT, q_ldBi, q_ldBb, q_boxA, q_boxI, q_boxB, List.length_cons, List.length_nil, List.cons_append, List.nil_append, List.drop_zero, List.drop_succ_cons, List.take_succ_cons, List.take_zero, q_stp0, q_stpS, q_stB, Option.map_some, putC, AV.cells, storable, buildSt, fillA, buildRo, buildOwn, fillE, List.replicate_succ, List.replicate_zero, List.set_cons_zero, List.set_cons_succ, Nat.reduceLeDiff, Nat.reduceLT, Nat.le_refl, and_self, true_and, and_true, ↓reduceIte, if_true, Bool.not_true, Bool.not_false, Int.toNat_natCast, Nat.zero_add, Nat.reduceAdd, q, d1, d2, d3, d4]; first | done | (with_reducible exact rfl) | (with_reducible exact ⟨rfl, rfl⟩))))
      | ((with_reducible apply eR); (simp only [nth_zero, nth_succ]; (with_reducible exact rfl)))
      | ((with_reducible refine sEql (fun hq => ?_) (fun hq => ?_)) <;> try subst hq)
      | ((with_reducible refine sNeq (fun hq => ?_) (fun hq => ?_)) <;> try subst hq)
      | ((with_reducible refine sLss (fun hq => ?_) (fun hq => ?_)) <;> try subst hq)
      | ((with_reducible refine sLeq (fun hq => ?_) (fun hq => ?_)) <;> try subst hq)
      | ((with_reducible refine sGtr (fun hq => ?_) (fun hq => ?_)) <;> try subst hq)
      | ((with_reducible refine sGeq (fun hq => ?_) (fun hq => ?_)) <;> try subst hq)
      | ((with_reducible refine sNot (fun hq => ?_) (fun hq => ?_)) <;> try subst hq)
      | ((with_reducible refine sPick (fun hq => ?_) (fun hq => ?_)) <;> try subst hq)
      | ((with_reducible refine sGd (fun hq => ?_) (fun hq => ?_)) <;> try subst hq)
      | ((with_reducible refine eBool (fun hq => ?_) (fun hq => ?_)) <;> try subst hq)
    exact ih

theorem LWordsLoops.law (xs : List AV) (h : IsTs Tryd.prog [25] xs) : ∃ k, alembiclaw17_WordsLoops.f (sentG 154 [2, 1, 0, 3, 4, 5]) k xs [] = some (.bool true, []) := by
  obtain ⟨x1, _, rfl, hx1, h⟩ := h.uncons
  obtain rfl := h.unnil
  obtain ⟨l, rfl, hw⟩ := of_words Tryd.underlying25 Tryd.underlying48 hx1
  clear h hx1
  refine ⟨8001, ?_⟩
  change alembiclaw17_WordsLoops.f GF 8001 _ _ = _
  have rf : ∀ H, pureCall (alembiclaw17_first.f GF 8000) [] H = _ := fun H => pureCall_of (H := H) (first17 GF 7940) rfl rfl
  have lm : lenSl (.ro false (natsU l)) = some (I6 l.length) := by simp [lenSl, natsU_len]
  rw [alembiclaw17_WordsLoops.step]
  unfold alembiclaw17_WordsLoops.c
  refine e_in ?_
  by_cases hn : 40 < l.length
  · repeat' first
      | (with_reducible refine eT ?_)
      | (with_reducible refine eN ?_)
      | (with_reducible refine eS ?_)
      | (with_reducible refine eXn ?_)
      | (with_reducible refine eXr ?_)
      | (with_reducible refine eX ?_)
      | (with_reducible refine eI ?_)
      | (with_reducible refine eK ?_)
      | (with_reducible refine eV0 ?_)
      | (with_reducible refine eGtt ?_)
      | (with_reducible refine eGff ?_)
      | (with_reducible refine eGtf ?_)
      | (with_reducible refine eGft ?_)
      | (with_reducible refine eGno ?_)
      | ((with_reducible apply eCn); (simp only [nth_zero, nth_succ]; done))
      | ((with_reducible apply eCn); (simp only [nth_zero, nth_succ]; (with_reducible exact rfl)))
      | ((with_reducible apply eJ); (rfl))
      | ((with_reducible apply eB); (first | (with_reducible exact rfl) | (simp (disch := omega) only [pu_val, nth_zero, nth_succ, gd_tt, gd_ff, gd_tf, gd_ft, gd_no, rf, lm]; first | done | (with_reducible exact rfl) | (with_reducible exact ⟨rfl, rfl⟩)) | (simp (disch := omega) only [pu_val, nth_zero, nth_succ, gd_tt, gd_ff, gd_tf, gd_ft, gd_no, pickA_true, pickA_false, q_notT, q_notF, q_eql_t, q_eql_f, q_neq_t, q_neq_f, q_lss_t, q_lss_f, q_leq_t, q_leq_f, q_gtr_t, q_gtr_f, q_geq_t, q_geq_f, q_add, q_sub, q_addU, q_cvI, q_cvU, q_cv8, q_cv32, q_idxSl, q_lenRo, q_lenSl, q_lenNil, q_nilp, q_nilrp, q_nilfn, q_nilgl, q_fap, q_farp, q_ldrp, q_boxAgg, q_ext0, q_ext1, q_ext2, List.getElem?_cons_zero, List.getElem?_cons_succ, List.getElem?_nil, q_stS, q_ldp0, q_ldpS, q_ldB, q_ldBT, q_ldrpT, q_ldBi, q_ldBb, q_boxA, q_boxI, q_boxB, List.length_cons, List.length_nil, List.cons_append, List.nil_append, List.drop_zero, List.drop_succ_cons, List.take_succ_cons, List.take_zero, q_stp0, q_stpS, q_stB, Option.map_some, putC, AV.cells, storable, buildSt, fillA, buildRo, buildOwn, fillE, List.replicate_succ, List.replicate_zero, List.set_cons_zero, List.set_cons_succ, Nat.reduceLeDiff, Nat.reduceLT, Nat.le_refl, and_self, true_and, and_true, ↓reduceIte, if_true, Bool.not_true, Bool.not_false, Int.toNat_natCast, Nat.zero_add, Nat.reduceAdd, rf, lm]; first | done | (with_reducible exact rfl) | (with_reducible exact ⟨rfl, rfl⟩))))
      | ((with_reducible apply eR); (simp only [nth_zero, nth_succ]; (with_reducible exact rfl)))
      | ((with_reducible refine sEql (fun hq => ?_) (fun hq => ?_)) <;> try subst hq)
      | ((with_reducible refine sNeq (fun hq => ?_) (fun hq => ?_)) <;> try subst hq)
      | ((with_reducible refine sLss (fun hq => ?_) (fun hq => ?_)) <;> try subst hq)
      | ((with_reducible refine sLeq (fun hq => ?_) (fun hq => ?_)) <;> try subst hq)
      | ((with_reducible refine sGtr (fun hq => ?_) (fun hq => ?_)) <;> try subst hq)
      | ((with_reducible refine sGeq (fun hq => ?_) (fun hq => ?_)) <;> try subst hq)
      | ((with_reducible refine sNot (fun hq => ?_) (fun hq => ?_)) <;> try subst hq)
      | ((with_reducible refine sPick (fun hq => ?_) (fun hq => ?_)) <;> try subst hq)
      | ((with_reducible refine sGd (fun hq => ?_) (fun hq => ?_)) <;> try subst hq)
      | ((with_reducible refine eBool (fun hq => ?_) (fun hq => ?_)) <;> try subst hq)
    exact w1b rfl
  obtain ⟨n, hl⟩ : ∃ n, n = l.length := ⟨_, rfl⟩
  rw [← hl] at lm hn
  have hn' : n ≤ 40 := by omega
  have q1 : bin Tryd.prog .add 3 true (Nn n) (.int .i64 1) = some (Nn (n + 1)) := by
    rw [bin_add, wrap_of_i64 (by omega) (by omega)]; congr 2
  have b1 : ∀ b0 : ABlk, buildOwn 48 1 0 (.int .u64 0) [] [b0] = some (.sl 1 0 0 0 1, [b0, ⟨48, 1, []⟩]) := fun b0 => rfl
  have a1 : ∀ b0 : ABlk, appendV 48 1 (.sl 1 0 0 0 1) (.ro false (natsU l)) [b0, ⟨48, 1, []⟩] = some (.sl 1 n 0 n 1, [b0, ⟨48, 1, natsU l⟩]) := fun b0 => by
    have e : ([b0, ⟨48, 1, []⟩] : AHeap)[1]? = some ⟨48, 1, []⟩ := rfl
    unfold appendV
    simp only [e, elemsOf, allSz_U, natsU_len, List.length_nil, List.take_nil, List.nil_append, List.drop_nil, List.append_nil, Nat.zero_add]
    rw [if_pos (by refine ⟨?_, ?_, ?_, ?_, ?_⟩ <;> first | trivial | omega), hl]
    rfl
  have a2 : ∀ b0 : ABlk, appendV 48 1 (.sl 1 n 0 n 1) (.ro false [.int .u64 0]) [b0, ⟨48, 1, natsU l⟩] = some (.sl 1 (n + 1) 0 (n + 1) 1, [b0, ⟨48, 1, natsU (l ++ [0])⟩]) := fun b0 => by
    have e : ([b0, ⟨48, 1, natsU l⟩] : AHeap)[1]? = some ⟨48, 1, natsU l⟩ := rfl
    unfold appendV
    simp only [e, elemsOf, natsU_len, List.length_singleton]
    rw [if_pos (by refine ⟨?_, ?_, ?_, ?_, ?_⟩ <;> first | trivial | rfl | omega)]
    have e2 : (natsU l).take n = natsU l := List.take_of_length_le (by rw [natsU_len]; omega)
    have e3 : (natsU l).drop (n + 1) = [] := List.drop_of_length_le (by rw [natsU_len]; omega)
    rw [e2, e3, List.append_nil]
    have e4 : natsU l ++ [AV.int .u64 0] = natsU (l ++ [0]) := by simp [natsU]
    rw [e4, natsU_len]; simp [hl]
  have lp := sum_loop GF 8000 (alembiclaw17_WordsLoops.f GF 8000) l n hl.symm hn' l [] 8000 rfl (by omega)
  obtain ⟨s1, r1, m1, c1, _⟩ := runL l n hl.symm hn' (6 * (n : Int) + 6) (.inl rfl) 7998 (by omega)
  obtain ⟨s2, r2, m2, _, c2⟩ := runL l n hl.symm hn' (6 * (n : Int) + 5) (.inr rfl) 7998 (by omega)
  obtain ⟨c11, c12, c13⟩ := c1 rfl
  obtain ⟨c21, c22⟩ := c2 rfl
  have hv := csL_valid n hn'
  have hwm : ∀ x ∈ l ++ [0], x < 18446744073709551616 := fun x hx => by
    rcases List.mem_append.1 hx with hx | hx
    · exact hw x hx
    · simp at hx; omega
  have hml : (l ++ [0]).length = n + 1 := by simp [hl]
  have go := fun fuel s (hf0 : 0 ≤ fuel) (hf : fuel ≤ 300) hr => Run_at (bor := false) GF GF_ok 7991 (csL n) 6 ((n + 1 : Nat) : Int) true (l ++ [0]) fuel (by simp [csL]) (by simp [csL]) hv (givenF_ok (by rw [hml]) hf0 (by omega)) hwm (by omega) (by omega) s hr
  have g1 := go _ s1 (by omega) (by omega) r1
  have g2 := go _ s2 (by omega) (by omega) r2
  have call : ∀ fuel s, words_Run.f GF (7991 + 9) [cdV false (csL n) 6 ((n + 1 : Nat) : Int), .ro true (natsU (l ++ [0])), I6 fuel] [] = some (.tup [endV s, .nili], []) → ∀ B : AHeap, pureCall (words_Run.f GF 8000) [cdL n, .sl 1 (n + 1) 0 (n + 1) 1, I6 fuel] (⟨24, 3, [cdL n]⟩ :: ⟨48, 1, natsU (l ++ [0])⟩ :: B) = some (.tup [endV s, .nili], ⟨24, 3, [cdL n]⟩ :: ⟨48, 1, natsU (l ++ [0])⟩ :: B) := fun fuel s hg B =>
    pureCall_at (snapL_c (snap_plain (by simp [plainB, plainL, plainC, cdL])) (snapL_c (snap_own rfl (by rw [natsU_len, hml]) (allSz_U _) (plainU _)) (snapL_c (snap_plain rfl) snapL_n))) hg (by simp [cleanB, cleanL, endV_clean])
  have k1 := call _ s1 g1
  have k2 := call _ s2 g2
  clear g1 g2 go call r1 r2 hv c1 c2
  have q2 : bin Tryd.prog .mul 3 true (.int .i64 6) (Nn n) = some (I6 (6 * (n : Int))) := by rw [bin_mul, wrap_of_i64 (by omega) (by omega)]
  have q3 : bin Tryd.prog .add 3 true (I6 (6 * (n : Int))) (.int .i64 6) = some (I6 (6 * (n : Int) + 6)) := q_add (by omega) (by omega)
  have q4 : bin Tryd.prog .sub 2 true (I6 (6 * (n : Int) + 6)) (.int .i64 1) = some (I6 (6 * (n : Int) + 5)) := by rw [bin_sub, wrap_of_i64 (by omega) (by omega)]; congr 2; omega
  have d1 : idxAddrSl 1 (.ro false (natsU s1.mem)) (Nn n) = some (.rp false (Un (sumW l)) 0) := by
    have : (s1.mem)[n]? = some (sumW l) := by rw [m1, hl]; simp
    exact idxRo1 (by simp [natsU, this]) rfl
  have d2 : ∀ H, loadV GF false 1 (.rp false (Un (sumW l)) 0) H = some (Un (sumW l)) := fun H => rfl
  have ll : lenSl (.ro false (leaksV s1.leaks)) = some (I6 (8 * (n : Int) + 8)) := by simp [lenSl, leaksV_len, c13]
  have eqn : bin Tryd.prog .eql 35 true .nili .nili = some (.bool true) := by kernel_rfl
  unfold endV at k1 k2
  rw [c11, c12] at k1
  rw [c21, c22] at k2
  generalize natsU s1.mem = mm1 at *
  generalize leaksV s1.leaks = ll1 at *
  generalize natsU s2.mem = mm2 at *
  generalize leaksV s2.leaks = ll2 at *
  generalize sumW l = S at *
  unfold xsL hpL at lp
  have ld : ∀ B, loadV GF true 3 (.ptr 0 1 0 0) (⟨24, 3, [cdL n]⟩ :: B) = some (cdL n) := fun B => rfl
  have st : stS (storeV 1 (.ptr 0 1 0 0) (.ro false (codeV (csL n))) [⟨24, 3, [.agg [.nils, .int .i64 6, Nn (n + 1)]]⟩]) = some (.tup [], [⟨24, 3, [cdL n]⟩]) := rfl
  have st' := st
  unfold codeV csL at st'
  simp only [List.map, Ins.v, instV] at st'
  repeat' first
    | (with_reducible refine eT ?_)
    | (with_reducible refine eN ?_)
    | (with_reducible refine eS ?_)
    | (with_reducible refine eXn ?_)
    | (with_reducible refine eXr ?_)
    | (with_reducible refine eX ?_)
    | (with_reducible refine eI ?_)
    | (with_reducible refine eK ?_)
    | (with_reducible refine eV0 ?_)
    | (with_reducible refine eGtt ?_)
    | (with_reducible refine eGff ?_)
    | (with_reducible refine eGtf ?_)
    | (with_reducible refine eGft ?_)
    | (with_reducible refine eGno ?_)
    | ((with_reducible apply eCn); (simp only [nth_zero, nth_succ]; done))
    | ((with_reducible apply eCn); (simp only [nth_zero, nth_succ]; (with_reducible exact rfl)))
    | ((with_reducible apply eJ); (rfl))
    | ((with_reducible apply eL); (first | exact lp))
    | ((with_reducible apply eB); (first | (with_reducible exact rfl) | (simp (disch := omega) only [pu_val, nth_zero, nth_succ, gd_tt, gd_ff, gd_tf, gd_ft, gd_no, rf, lm, q1, q2, q3, q4, b1, a1, a2, st', ld, k1, k2, d1, d2, ll, eqn]; first | done | (with_reducible exact rfl) | (with_reducible exact ⟨rfl, rfl⟩)) | (simp (disch := omega) only [pu_val, nth_zero, nth_succ, gd_tt, gd_ff, gd_tf, gd_ft, gd_no, pickA_true, pickA_false, q_notT, q_notF, q_eql_t, q_eql_f, q_neq_t, q_neq_f, q_lss_t, q_lss_f, q_leq_t, q_leq_f, q_gtr_t, q_gtr_f, q_geq_t, q_geq_f, q_add, q_sub, q_addU, q_cvI, q_cvU, q_cv8, q_cv32, q_idxSl, q_lenRo, q_lenSl, q_lenNil, q_nilp, q_nilrp, q_nilfn, q_nilgl, q_fap, q_farp, q_ldrp, q_boxAgg, q_ext0, q_ext1, q_ext2, List.getElem?_cons_zero, List.getElem?_cons_succ, List.getElem?_nil, q_stS, q_ldp0, q_ldpS, q_ldB, q_ldBT, q_ldrpT, q_ldBi, q_ldBb, q_boxA, q_boxI, q_boxB, List.length_cons, List.length_nil, List.cons_append, List.nil_append, List.drop_zero, List.drop_succ_cons, List.take_succ_cons, List.take_zero, q_stp0, q_stpS, q_stB, Option.map_some, putC, AV.cells, storable, buildSt, fillA, buildRo, buildOwn, fillE, List.replicate_succ, List.replicate_zero, List.set_cons_zero, List.set_cons_succ, Nat.reduceLeDiff, Nat.reduceLT, Nat.le_refl, and_self, true_and, and_true, ↓reduceIte, if_true, Bool.not_true, Bool.not_false, Int.toNat_natCast, Nat.zero_add, Nat.reduceAdd, rf, lm, q1, q2, q3, q4, b1, a1, a2, st', ld, k1, k2, d1, d2, ll, eqn]; first | done | (with_reducible exact rfl) | (with_reducible exact ⟨rfl, rfl⟩))))
    | ((with_reducible apply eR); (simp only [nth_zero, nth_succ]; (with_reducible exact rfl)))
    | ((with_reducible refine sEql (fun hq => ?_) (fun hq => ?_)) <;> try subst hq)
    | ((with_reducible refine sNeq (fun hq => ?_) (fun hq => ?_)) <;> try subst hq)
    | ((with_reducible refine sLss (fun hq => ?_) (fun hq => ?_)) <;> try subst hq)
    | ((with_reducible refine sLeq (fun hq => ?_) (fun hq => ?_)) <;> try subst hq)
    | ((with_reducible refine sGtr (fun hq => ?_) (fun hq => ?_)) <;> try subst hq)
    | ((with_reducible refine sGeq (fun hq => ?_) (fun hq => ?_)) <;> try subst hq)
    | ((with_reducible refine sNot (fun hq => ?_) (fun hq => ?_)) <;> try subst hq)
    | ((with_reducible refine sPick (fun hq => ?_) (fun hq => ?_)) <;> try subst hq)
    | ((with_reducible refine sGd (fun hq => ?_) (fun hq => ?_)) <;> try subst hq)
    | ((with_reducible refine eBool (fun hq => ?_) (fun hq => ?_)) <;> try subst hq)
  all_goals first | omega | exact w1b rfl
end Go.Proofs.YtcmblhedhgiofaaDoor
