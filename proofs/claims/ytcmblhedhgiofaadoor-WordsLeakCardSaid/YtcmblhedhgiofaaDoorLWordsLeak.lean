/- The law of WordsLeak, in plain Lean. -/
import Derived.Test.YtcmblhedhgiofaaDoorWn
import Derived.Test.YtcmblhedhgiofaaDoorWo
namespace Go.Proofs.YtcmblhedhgiofaaDoor
open Go Mir
set_option linter.unusedVariables false
set_option linter.unusedSimpArgs false
set_option maxHeartbeats 8000000
set_option maxRecDepth 20000

theorem first17 (G : Globs) (k : Nat) : alembiclaw17_first.f G (k + 60) [] [] = some (.bool true, []) := by kernel_rfl

theorem number (G : Globs) (k : Nat) (n m : Int) (h0 : 0 < m) (h1 : m < 9223372036854775808) (hn : -9223372036854775808 ≤ n) (hn' : n < 9223372036854775808) :
    alembicworld_Number.f G (k + 1) [.int .i64 n, .int .i64 m] [] = some (.int .i64 (n % m), []) := by
  rw [alembicworld_Number.step]
  unfold alembicworld_Number.c
  rw [bin_rem _ _ _ _ _ _ (by omega)]
  have hlt := Int.tmod_lt_of_pos n h0
  have hgt : -m < n.tmod m := by have := Int.tmod_lt_of_pos (-n) h0; rw [Int.neg_tmod] at this; omega
  have hm : n.tmod m % m = n % m := by
    rw [Int.tmod_eq_emod]; split
    · simp
    · have e : (m.natAbs : Int) = m := by omega
      simp [e]
  by_cases h : n.tmod m < 0
  · simp only [pu_val, bnd_some, bin_lss, h, decide_true, condA_true, bin_add, List.length_nil, finV_int, outV_ret]
    rw [wrap_of_i64 (by omega) (by omega)]
    congr 3
    rw [← hm, ← Int.add_emod_right]
    exact (Int.emod_eq_of_lt (by omega) (by omega)).symm
  · simp only [pu_val, bnd_some, bin_lss, h, decide_false, condA_false, List.length_nil, finV_int, outV_ret]
    congr 3
    rw [← hm]
    exact (Int.emod_eq_of_lt (by omega) (by omega)).symm
abbrev GF : Globs := sentG 154 [2, 1, 0, 3, 4, 5]
theorem GF_ok : GOk GF := ⟨rfl, rfl, rfl, rfl, rfl, rfl⟩

def blk (i : Nat) : List Ins := [⟨15, 1, 0, 0, 0, i⟩, ⟨5, 2, 1, 1, 0, 0⟩, ⟨13, 3, 1, 2, 0, 0⟩, ⟨14, 2, 3, 1, 2, 0⟩, ⟨16, 0, 0, 2, 0, (i + 1 : Nat)⟩]
def blks : Nat → List Ins
  | 0 => []
  | n + 1 => blks n ++ blk n
def csK (n : Nat) : List Ins := blks n ++ [⟨20, 0, 0, 0, 0, 0⟩]
theorem blks_len (n : Nat) : (blks n).length = 5 * n := by
  induction n with
  | zero => rfl
  | succ n ih => simp [blks, ih, blk]; omega
theorem blks_get (n : Nat) : ∀ i j, i < n → j < 5 → (blks n)[5 * i + j]? = (blk i)[j]? := by
  induction n with
  | zero => intro i j hi; omega
  | succ n ih =>
    intro i j hi hj
    by_cases h : i < n
    · simp only [blks]
      rw [List.getElem?_append_left (by rw [blks_len]; omega)]
      exact ih i j h hj
    · have e : i = n := by omega
      subst e
      simp only [blks]
      rw [List.getElem?_append_right (by rw [blks_len]; omega), blks_len]
      congr 1; omega
theorem csK_len (n : Nat) : (csK n).length = 5 * n + 1 := by simp [csK, blks_len]
theorem csK_get (n i j : Nat) (hi : i < n) (hj : j < 5) : (csK n).getD (5 * i + j) default = (blk i).getD j default := by
  have : (csK n)[5 * i + j]? = (blk i)[j]? := by
    unfold csK
    rw [List.getElem?_append_left (by rw [blks_len]; omega)]
    exact blks_get n i j hi hj
  simp only [List.getD_eq_getElem?_getD, this]
theorem csK_last (n : Nat) : (csK n).getD (5 * n) default = ⟨20, 0, 0, 0, 0, 0⟩ := by
  simp only [List.getD_eq_getElem?_getD]
  unfold csK
  rw [List.getElem?_append_right (by rw [blks_len]; omega), blks_len]
  simp

theorem csK_valid (n : Nat) (hn : n ≤ 20) : validF (csK n) 4 42 = .ok := by
  refine validF_is (by rw [csK_len]; omega) (by omega) (badF_all fun i hi => ?_)
  have hb : ∀ m, m ≤ 20 → ∀ i ∈ blks m, oneF i 4 ((csK n).length : Int) = none := by
    intro m
    induction m with
    | zero => intro _ i hi; cases hi
    | succ m ih =>
      intro hm i hi
      rcases List.mem_append.1 hi with hi | hi
      · exact ih (by omega) i hi
      · simp only [blk, List.mem_cons, List.not_mem_nil, or_false] at hi
        rcases hi with rfl | rfl | rfl | rfl | rfl
        · have e1 : frmD 15 = ⟨true, true, false, false, true⟩ := rfl
          have e2 : kindF 15 = 3 := rfl
          refine oneF_of ?_ ⟨by simp, by simp⟩
          simp only [e1, e2]
          unfold oneK
          rw [if_neg (by simp [out4, outR]), if_neg (by simp [off5]), if_neg (by decide), if_neg (by decide), if_pos rfl, if_pos (by simp only [inK, Bool.and_eq_true, decide_eq_true_eq]; omega)]
        · exact oneF_of rfl ⟨by decide, by decide⟩
        · exact oneF_of rfl ⟨by decide, by decide⟩
        · exact oneF_of rfl ⟨by decide, by decide⟩
        · have e1 : frmD 16 = ⟨false, true, true, false, true⟩ := rfl
          have e2 : kindF 16 = 3 := rfl
          refine oneF_of ?_ ⟨by simp, by simp⟩
          simp only [e1, e2]
          unfold oneK
          rw [if_neg (by simp [out4, outR]), if_neg (by simp [off5]), if_neg (by decide), if_neg (by decide), if_pos rfl, if_pos (by simp only [inK, Bool.and_eq_true, decide_eq_true_eq]; omega)]
  rcases List.mem_append.1 hi with hi | hi
  · exact hb n hn i hi
  · simp only [List.mem_cons, List.not_mem_nil, or_false] at hi
    subst hi
    exact oneF_of (by simp [oneK, out4, off5, outR, frmD, formF, kindF, inK]) (by simp)

/-- What leaks in so many rounds. -/
def lkK : Nat → List (Int × Int)
  | 0 => []
  | i + 1 => lkK i ++ [(1, ((5 * i : Nat) : Int)), (3, s64 i), (1, ((5 * i + 1 : Nat) : Int)), (1, ((5 * i + 2 : Nat) : Int)), (1, ((5 * i + 3 : Nat) : Int)), (1, ((5 * i + 4 : Nat) : Int)), (3, s64 (i + 1))]
theorem lkK_len (i : Nat) : (lkK i).length = 7 * i := by
  induction i with
  | zero => rfl
  | succ i ih => simp [lkK, ih]; omega

theorem roundK (n i : Nat) (hn : n ≤ 20) (hi : i < n) (x y z : Nat) (m : List Nat) (hm : m.length = 42) (k : List (Int × Int)) (f : Nat) :
    ∃ x' y' z' m', m'.length = 42 ∧ runM (csK n) 1000 (f + 5) ⟨[0, x, y, z], 5 * i, 0, m, k, 5 * i⟩ =
      runM (csK n) 1000 f ⟨[0, x', y', z'], 5 * (i + 1), 0, m', k ++ [(1, ((5 * i : Nat) : Int)), (3, s64 i), (1, ((5 * i + 1 : Nat) : Int)), (1, ((5 * i + 2 : Nat) : Int)), (1, ((5 * i + 3 : Nat) : Int)), (1, ((5 * i + 4 : Nat) : Int)), (3, s64 (i + 1))], 5 * (i + 1)⟩ := by
  have hlen := csK_len n
  have e1 : u64 (i : Int) = i := u64_nat i (by omega)
  have e2 : u64 ((i + 1 : Nat) : Int) = i + 1 := u64_nat (i + 1) (by omega)
  have m1 : i % 18446744073709551616 = i := Nat.mod_eq_of_lt (by omega)
  have m2 : (i + 1) % 18446744073709551616 = i + 1 := Nat.mod_eq_of_lt (by omega)
  have l1 : ¬ m.length ≤ i := by omega
  have l2 : ¬ m.length ≤ i + 1 := by omega
  have g : ∀ j, j < 5 → (csK n).getD (5 * i + j) default = (blk i).getD j default := fun j hj => csK_get n i j hi hj
  obtain ⟨x', hx'⟩ : ∃ x', x' = m.getD i 0 := ⟨_, rfl⟩
  rw [runM_go (i := ⟨15, 1, 0, 0, 0, i⟩) (s2 := ⟨[0, x', y, z], 5 * i + 1, 0, m, k ++ [(1, ((5 * i : Nat) : Int)), (3, s64 i)], 5 * i + 1⟩) (by simp only; omega) (by simp only; omega) (g 0 (by omega)) (by
    unfold MS.step MS.touch
    simp only [MS.tick, MS.leak, MS.rg, MS.set]
    simp only [List.getD_cons_zero, Int.toNat_zero, e1, Nat.zero_add, m1, l1, if_false, if_true, true_or, hx']
    simp)]
  obtain ⟨y', hy'⟩ : ∃ y', y' = x' * x' % 18446744073709551616 := ⟨_, rfl⟩
  rw [runM_go (i := ⟨5, 2, 1, 1, 0, 0⟩) (s2 := ⟨[0, x', y', z], 5 * i + 2, 0, m, k ++ [(1, ((5 * i : Nat) : Int)), (3, s64 i), (1, ((5 * i + 1 : Nat) : Int))], 5 * i + 2⟩) (by simp only; omega) (by simp only; omega) (g 1 (by omega)) (by
    simp [MS.step, MS.tick, MS.leak, MS.rg, MS.set, valF, hy'])]
  obtain ⟨z', hz'⟩ : ∃ z', z' = (if x' < y' then 1 else 0 : Nat) := ⟨_, rfl⟩
  rw [runM_go (i := ⟨13, 3, 1, 2, 0, 0⟩) (s2 := ⟨[0, x', y', z'], 5 * i + 3, 0, m, k ++ [(1, ((5 * i : Nat) : Int)), (3, s64 i), (1, ((5 * i + 1 : Nat) : Int)), (1, ((5 * i + 2 : Nat) : Int))], 5 * i + 3⟩) (by simp only; omega) (by simp only; omega) (g 2 (by omega)) (by
    simp [MS.step, MS.tick, MS.leak, MS.rg, MS.set, valF, hz'])]
  obtain ⟨w', hw'⟩ : ∃ w', w' = (if z' ≠ 0 then x' else y' : Nat) := ⟨_, rfl⟩
  rw [runM_go (i := ⟨14, 2, 3, 1, 2, 0⟩) (s2 := ⟨[0, x', w', z'], 5 * i + 4, 0, m, k ++ [(1, ((5 * i : Nat) : Int)), (3, s64 i), (1, ((5 * i + 1 : Nat) : Int)), (1, ((5 * i + 2 : Nat) : Int)), (1, ((5 * i + 3 : Nat) : Int))], 5 * i + 4⟩) (by simp only; omega) (by simp only; omega) (g 3 (by omega)) (by
    simp [MS.step, MS.tick, MS.leak, MS.rg, MS.set, valF, hw'])]
  rw [runM_go (i := ⟨16, 0, 0, 2, 0, (i + 1 : Nat)⟩) (s2 := ⟨[0, x', w', z'], 5 * (i + 1), 0, m.set (i + 1) w', k ++ [(1, ((5 * i : Nat) : Int)), (3, s64 i), (1, ((5 * i + 1 : Nat) : Int)), (1, ((5 * i + 2 : Nat) : Int)), (1, ((5 * i + 3 : Nat) : Int)), (1, ((5 * i + 4 : Nat) : Int)), (3, s64 (i + 1))], 5 * (i + 1)⟩) (by simp only; omega) (by simp only; omega) (g 4 (by omega)) (by
    unfold MS.step MS.touch
    simp only [MS.tick, MS.leak, MS.rg, MS.set]
    simp only [List.getD_cons_zero, Int.toNat_zero, e2, Nat.zero_add, m2, l2, if_false, if_true, or_true]
    simp; omega)]
  exact ⟨x', w', z', m.set (i + 1) w', by simp [hm], rfl⟩

theorem runK (n : Nat) (hn : n ≤ 20) : ∀ (d i : Nat), i + d = n → ∀ (x y z : Nat) (m : List Nat), m.length = 42 → ∀ f, ∃ s, runM (csK n) 1000 (f + 1 + 5 * d) ⟨[0, x, y, z], 5 * i, 0, m, lkK i, 5 * i⟩ = some s ∧ s.code = 0 ∧ s.leaks = lkK n ++ [(1, ((5 * n : Nat) : Int))] ∧ s.steps = 5 * n + 1
  | 0, i, hd, x, y, z, m, hm, f => by
    have e : i = n := by omega
    subst e
    have hlen := csK_len i
    rw [runM_end (i := ⟨20, 0, 0, 0, 0, 0⟩) (s2 := ⟨[0, x, y, z], 5 * i + 1, 0, m, lkK i ++ [(1, ((5 * i : Nat) : Int))], 5 * i + 1⟩) (by simp only; omega) (by simp only; omega) (csK_last i) (by
      simp [MS.step, MS.tick, MS.leak])]
    exact ⟨_, rfl, rfl, rfl, rfl⟩
  | d + 1, i, hd, x, y, z, m, hm, f => by
    obtain ⟨x', y', z', m', h1, h2⟩ := roundK n i hn (by omega) x y z m hm (lkK i) (f + 1 + 5 * d)
    rw [show f + 1 + 5 * (d + 1) = f + 1 + 5 * d + 5 by omega, h2]
    exact runK n hn d (i + 1) (by omega) x' y' z' m' h1 f

/-- The code that is built, the run's blocks. -/
def hpI (n : Nat) : AHeap := [⟨24, 3, [.agg [.sl 1 (5 * n) 0 (5 * n) 6, .int .i64 4, .int .i64 42]]⟩, ⟨52, 6, codeV (blks n)⟩]
abbrev xsI (a b : List Nat) (n i : Nat) : List AV := [.ro false (natsU a), .ro false (natsU b), Nn n, .bool true, .ptr 0 1 0 0, Nn i]

theorem build_loop (G : Globs) (k : Nat) (self : Den) (a b : List Nat) (n : Nat) (hn : n ≤ 20) : ∀ (d i f : Nat), i + d = n → d < f →
    loopN (alembiclaw17_WordsLeak.l11 G k 2 self) f (xsI a b n i) (hpI i) = some (.exit 0, xsI a b n n, hpI n)
  | d, i, 0, h, hf => by omega
  | 0, i, f + 1, h, hf => by
    rw [loopN_succ, alembiclaw17_WordsLeak.l11]
    have e : i = n := by omega
    subst e
    have hc : cutH 2 (xsI a b i i) (hpI i) = some (hpI i) := by simp [cutH, hpI, belowL, belowB, heapBelow, natsU_below, codeV_below]
    have q : bin Tryd.prog .lss 3 false (Nn i) (Nn i) = some (.bool false) := by rw [bin_lss, decide_eq_false (by omega)]
    refine e_id ?_
    refine eC hc ?_
    repeat' first
      | (with_reducible refine eT ?_)
      | (with_reducible refine eN ?_)
      | (with_reducible refine eS ?_)
      | (with_reducible refine eXn ?_)
      | (with_reducible refine eXr ?_)
      | (with_reducible refine eX ?_)
      | (with_reducible refine eI ?_)
      | (with_reducible refine eK ?_)
      | (with_reducible refine eV0 ?_)
      | (with_reducible refine eGtt ?_)
      | (with_reducible refine eGff ?_)
      | (with_reducible refine eGtf ?_)
      | (with_reducible refine eGft ?_)
      | (with_reducible refine eGno ?_)
      | ((with_reducible apply eCn); (simp only [nth_zero, nth_succ]; done))
      | ((with_reducible apply eCn); (simp only [nth_zero, nth_succ]; (with_reducible exact rfl)))
      | ((with_reducible apply eJ); (rfl))
      | ((with_reducible apply eB); (first | (with_reducible exact rfl) | (simp (disch := omega) only [pu_val, nth_zero, nth_succ, gd_tt, gd_ff, gd_tf, gd_ft, gd_no, q]; first | done | (with_reducible exact rfl) | (with_reducible exact ⟨rfl, rfl⟩)) | (simp (disch := omega) only [pu_val, nth_zero, nth_succ, gd_tt, gd_ff, gd_tf, gd_ft, gd_no, pickA_true, pickA_false, q_notT, q_notF, q_eql_t, q_eql_f, q_neq_t, q_neq_f, q_lss_t, q_lss_f, q_leq_t, q_leq_f, q_gtr_t, q_gtr_f, q_geq_t, q_geq_f, q_add, q_sub, q_addU, q_cvI, q_cvU, q_cv8, q_cv32, q_idxSl, q_lenRo, q_lenSl, q_lenNil, q_nilp, q_nilrp, q_nilfn, q_nilgl, q_fap, q_farp, q_ldrp, q_boxAgg, q_ext0, q_ext1, q_ext2, List.getElem?_cons_zero, List.getElem?_cons_succ, List.getElem?_nil, q_stS, q_ldp0, q_ldpS, q_ldB, q_ldBT, q_ldrpT, q_ldBi, q_ldBb, q_boxA, q_boxI, q_boxB, List.length_cons, List.length_nil, List.cons_append, List.nil_append, List.drop_zero, List.drop_succ_cons, List.take_succ_cons, List.take_zero, q_stp0, q_stpS, q_stB, Option.map_some, putC, AV.cells, storable, buildSt, fillA, buildRo, buildOwn, fillE, List.replicate_succ, List.replicate_zero, List.set_cons_zero, List.set_cons_succ, Nat.reduceLeDiff, Nat.reduceLT, Nat.le_refl, and_self, true_and, and_true, ↓reduceIte, if_true, Bool.not_true, Bool.not_false, Int.toNat_natCast, Nat.zero_add, Nat.reduceAdd, q]; first | done | (with_reducible exact rfl) | (with_reducible exact ⟨rfl, rfl⟩))))
      | ((with_reducible apply eR); (simp only [nth_zero, nth_succ]; (with_reducible exact rfl)))
      | ((with_reducible refine sEql (fun hq => ?_) (fun hq => ?_)) <;> try subst hq)
      | ((with_reducible refine sNeq (fun hq => ?_) (fun hq => ?_)) <;> try subst hq)
      | ((with_reducible refine sLss (fun hq => ?_) (fun hq => ?_)) <;> try subst hq)
      | ((with_reducible refine sLeq (fun hq => ?_) (fun hq => ?_)) <;> try subst hq)
      | ((with_reducible refine sGtr (fun hq => ?_) (fun hq => ?_)) <;> try subst hq)
      | ((with_reducible refine sGeq (fun hq => ?_) (fun hq => ?_)) <;> try subst hq)
      | ((with_reducible refine sNot (fun hq => ?_) (fun hq => ?_)) <;> try subst hq)
      | ((with_reducible refine sPick (fun hq => ?_) (fun hq => ?_)) <;> try subst hq)
      | ((with_reducible refine sGd (fun hq => ?_) (fun hq => ?_)) <;> try subst hq)
      | ((with_reducible refine eBool (fun hq => ?_) (fun hq => ?_)) <;> try subst hq)
    refine e_out ?_; rfl
  | d + 1, i, f + 1, h, hf => by
    rw [loopN_succ, alembiclaw17_WordsLeak.l11]
    have hc : cutH 2 (xsI a b n i) (hpI i) = some (hpI i) := by simp [cutH, hpI, belowL, belowB, heapBelow, natsU_below, codeV_below]
    have q : bin Tryd.prog .lss 3 false (Nn i) (Nn n) = some (.bool true) := by rw [bin_lss, decide_eq_true (by omega)]
    have q1 : bin Tryd.prog .add 3 true (Nn i) (.int .i64 1) = some (Nn (i + 1)) := by
      rw [bin_add, wrap_of_i64 (by omega) (by omega)]; congr 2
    have l1 : loadV G false 1 (.ptr 0 1 0 0) (hpI i) = some (.sl 1 (5 * i) 0 (5 * i) 6) := rfl
    have a1 : appendV 52 6 (.sl 1 (5 * i) 0 (5 * i) 6) (.ro false (codeV (blk i))) (hpI i) = some (.sl 1 (5 * (i + 1)) 0 (5 * (i + 1)) 6, (hpI i).set 1 ⟨52, 6, codeV (blks (i + 1))⟩) := by
      have e : (hpI i)[1]? = some ⟨52, 6, codeV (blks i)⟩ := rfl
      have hb : (codeV (blk i)).length = 5 := rfl
      unfold appendV
      simp only [e, elemsOf, codeV_len, blks_len, hb]
      rw [if_pos (by refine ⟨?_, ?_, ?_, ?_, ?_⟩ <;> first | trivial | exact allSz_C _ | omega)]
      have e2 : (codeV (blks i)).take (5 * i) = codeV (blks i) := List.take_of_length_le (by rw [codeV_len, blks_len]; exact Nat.le_refl _)
      have e3 : (codeV (blks i)).drop (5 * i + 5) = [] := List.drop_of_length_le (by rw [codeV_len, blks_len]; omega)
      rw [e2, e3, List.append_nil]
      have e4 : codeV (blks i) ++ codeV (blk i) = codeV (blks (i + 1)) := by simp [codeV, blks]
      rw [e4, codeV_len, blks_len]
      rfl
    have s1 : stS (storeV 1 (.ptr 0 1 0 0) (.sl 1 (5 * (i + 1)) 0 (5 * (i + 1)) 6) ((hpI i).set 1 ⟨52, 6, codeV (blks (i + 1))⟩)) = some (.tup [], hpI (i + 1)) := rfl
    have ih := build_loop G k self a b n hn d (i + 1) f (by omega) (by omega)
    have a1' : appendV 52 6 (.sl 1 (5 * i) 0 (5 * i) 6) (.ro false [.agg [.int .i64 15, .int .i64 1, .int .i64 0, .int .i64 0, .int .i64 0, Nn i], .agg [.int .i64 5, .int .i64 2, .int .i64 1, .int .i64 1, .int .i64 0, .int .i64 0],
      .agg [.int .i64 13, .int .i64 3, .int .i64 1, .int .i64 2, .int .i64 0, .int .i64 0], .agg [.int .i64 14, .int .i64 2, .int .i64 3, .int .i64 1, .int .i64 2, .int .i64 0], .agg [.int .i64 16, .int .i64 0, .int .i64 0, .int .i64 2, .int .i64 0, Nn (i + 1)]]) (hpI i) = _ := a1
    refine e_id ?_
    refine eC hc ?_
    repeat' first
      | (with_reducible refine eT ?_)
      | (with_reducible refine eN ?_)
      | (with_reducible refine eS ?_)
      | (with_reducible refine eXn ?_)
      | (with_reducible refine eXr ?_)
      | (with_reducible refine eX ?_)
      | (with_reducible refine eI ?_)
      | (with_reducible refine eK ?_)
      | (with_reducible refine eV0 ?_)
      | (with_reducible refine eGtt ?_)
      | (with_reducible refine eGff ?_)
      | (with_reducible refine eGtf ?_)
      | (with_reducible refine eGft ?_)
      | (with_reducible refine eGno ?_)
      | ((with_reducible apply eCn); (simp only [nth_zero, nth_succ]; done))
      | ((with_reducible apply eCn); (simp only [nth_zero, nth_succ]; (with_reducible exact rfl)))
      | ((with_reducible apply eJ); (rfl))
      | ((with_reducible apply eB); (first | (with_reducible exact rfl) | (simp (disch := omega) only [pu_val, nth_zero, nth_succ, gd_tt, gd_ff, gd_tf, gd_ft, gd_no, q, q1, l1, a1', s1]; first | done | (with_reducible exact rfl) | (with_reducible exact ⟨rfl, rfl⟩)) | (simp (disch := omega) only [pu_val, nth_zero, nth_succ, gd_tt, gd_ff, gd_tf, gd_ft, gd_no, pickA_true, pickA_false, q_notT, q_notF, q_eql_t, q_eql_f, q_neq_t, q_neq_f, q_lss_t, q_lss_f, q_leq_t, q_leq_f, q_gtr_t, q_gtr_f, q_geq_t, q_geq_f, q_add, q_sub, q_addU, q_cvI, q_cvU, q_cv8, q_cv32, q_idxSl, q_lenRo, q_lenSl, q_lenNil, q_nilp, q_nilrp, q_nilfn, q_nilgl, q_fap, q_farp, q_ldrp, q_boxAgg, q_ext0, q_ext1, q_ext2, List.getElem?_cons_zero, List.getElem?_cons_succ, List.getElem?_nil, q_stS, q_ldp0, q_ldpS, q_ldB, q_ldBT, q_ldrpT, q_ldBi, q_ldBb, q_boxA, q_boxI, q_boxB, List.length_cons, List.length_nil, List.cons_append, List.nil_append, List.drop_zero, List.drop_succ_cons, List.take_succ_cons, List.take_zero, q_stp0, q_stpS, q_stB, Option.map_some, putC, AV.cells, storable, buildSt, fillA, buildRo, buildOwn, fillE, List.replicate_succ, List.replicate_zero, List.set_cons_zero, List.set_cons_succ, Nat.reduceLeDiff, Nat.reduceLT, Nat.le_refl, and_self, true_and, and_true, ↓reduceIte, if_true, Bool.not_true, Bool.not_false, Int.toNat_natCast, Nat.zero_add, Nat.reduceAdd, q, q1, l1, a1', s1]; first | done | (with_reducible exact rfl) | (with_reducible exact ⟨rfl, rfl⟩))))
      | ((with_reducible apply eR); (simp only [nth_zero, nth_succ]; (with_reducible exact rfl)))
      | ((with_reducible refine sEql (fun hq => ?_) (fun hq => ?_)) <;> try subst hq)
      | ((with_reducible refine sNeq (fun hq => ?_) (fun hq => ?_)) <;> try subst hq)
      | ((with_reducible refine sLss (fun hq => ?_) (fun hq => ?_)) <;> try subst hq)
      | ((with_reducible refine sLeq (fun hq => ?_) (fun hq => ?_)) <;> try subst hq)
      | ((with_reducible refine sGtr (fun hq => ?_) (fun hq => ?_)) <;> try subst hq)
      | ((with_reducible refine sGeq (fun hq => ?_) (fun hq => ?_)) <;> try subst hq)
      | ((with_reducible refine sNot (fun hq => ?_) (fun hq => ?_)) <;> try subst hq)
      | ((with_reducible refine sPick (fun hq => ?_) (fun hq => ?_)) <;> try subst hq)
      | ((with_reducible refine sGd (fun hq => ?_) (fun hq => ?_)) <;> try subst hq)
      | ((with_reducible refine eBool (fun hq => ?_) (fun hq => ?_)) <;> try subst hq)
    exact ih

def padF (a : List Nat) : List Nat := a ++ List.replicate (42 - a.length) 0
theorem padF_len (a : List Nat) (h : a.length ≤ 40) : (padF a).length = 42 := by simp [padF]; omega

theorem copy_pad (a : List Nat) (h : a.length ≤ 40) (H : AHeap) (b : Nat) (hb : H[b]? = some ⟨48, 1, natsU (List.replicate 42 0)⟩) :
    copyV (.sl b 42 0 42 1) (.ro false (natsU a)) H = some (.int .i64 ((min a.length 42 : Nat) : Int), H.set b ⟨48, 1, natsU (padF a)⟩) := by
  unfold copyV
  simp only [hb, elemsOf, allSz_U, natsU_len, List.length_replicate, List.take_zero, List.nil_append, Nat.zero_add]
  rw [if_pos (by refine ⟨?_, ?_, ?_, ?_⟩ <;> first | trivial | omega)]
  have e1 : (natsU a).take 42 = natsU a := List.take_of_length_le (by rw [natsU_len]; omega)
  have e0 : (natsU (List.replicate 42 0)).drop a.length = natsU (List.replicate (42 - a.length) 0) := by unfold natsU; rw [← List.map_drop, List.drop_replicate]
  have e2 : natsU a ++ (natsU (List.replicate 42 0)).drop a.length = natsU (padF a) := by rw [e0]; unfold natsU padF; rw [List.map_append]
  rw [e1, natsU_len, e2]

theorem of_words {x : AV} {t e : TypeId} (hu : Tryd.prog.underlying t = some (.slice e)) (he : Tryd.prog.underlying e = some (.int .u64)) (h : IsT Tryd.prog t x) :
    ∃ l : List Nat, x = .ro false (natsU l) ∧ (∀ n ∈ l, n < 18446744073709551616) := by
  obtain ⟨l, rfl, hw, hl⟩ := h.of_ints hu he
  refine ⟨l.map Int.toNat, ?_, ?_⟩
  · unfold natsU
    rw [List.map_map]
    congr 1
    apply List.map_congr_left
    intro n hn
    obtain ⟨h1, h2⟩ := wf_u64 (hw n hn)
    show AV.int .u64 n = AV.int .u64 ((n.toNat : Nat) : Int)
    rw [Int.toNat_of_nonneg h1]
  · intro n hn
    obtain ⟨z, hz, rfl⟩ := List.mem_map.1 hn
    have := wf_u64 (hw z hz)
    omega

theorem snap_agg {H : AHeap} {cs ds : List AV} (h : snapCells H cs = some ds) : snap H (.agg cs) = some (.agg ds) := by
  simp only [snap, h, Option.map_some]
theorem snapCells_c {H : AHeap} {x y : AV} {xs ys : List AV} (h : snap1 H x = some y) (hs : snapCells H xs = some ys) : snapCells H (x :: xs) = some (y :: ys) := by
  simp only [snapCells, h, hs]
theorem snapCells_n {H : AHeap} : snapCells H [] = some [] := rfl

abbrev hpJ (n : Nat) (B : AHeap) : AHeap := ⟨24, 3, [.agg [.sl 1 (5 * n + 1) 0 (5 * n + 1) 6, .int .i64 4, .int .i64 42]]⟩ :: ⟨52, 6, codeV (csK n)⟩ :: B

theorem LWordsLeak.law (xs : List AV) (h : IsTs Tryd.prog [25, 25, 3] xs) : ∃ k, alembiclaw17_WordsLeak.f (sentG 154 [2, 1, 0, 3, 4, 5]) k xs [] = some (.bool true, []) := by
  obtain ⟨x1, _, rfl, hx1, h⟩ := h.uncons
  obtain ⟨x2, _, rfl, hx2, h⟩ := h.uncons
  obtain ⟨x3, _, rfl, hx3, h⟩ := h.uncons
  obtain rfl := h.unnil
  obtain ⟨a, rfl, ha⟩ := of_words Tryd.underlying25 Tryd.underlying48 hx1
  obtain ⟨b, rfl, hb⟩ := of_words Tryd.underlying25 Tryd.underlying48 hx2
  obtain ⟨c, rfl, hc⟩ := hx3.of_int (k := .i64) Tryd.underlying3
  replace hc := wf_i64 hc
  clear h hx1 hx2 hx3
  refine ⟨8001, ?_⟩
  change alembiclaw17_WordsLeak.f GF 8001 _ _ = _
  have rf : ∀ H, pureCall (alembiclaw17_first.f GF 8000) [] H = _ := fun H => pureCall_of (H := H) (first17 GF 7940) rfl rfl
  have la : lenSl (.ro false (natsU a)) = some (I6 a.length) := by simp [lenSl, natsU_len]
  have lb : lenSl (.ro false (natsU b)) = some (I6 b.length) := by simp [lenSl, natsU_len]
  rw [alembiclaw17_WordsLeak.step]
  unfold alembiclaw17_WordsLeak.c
  refine e_in ?_
  by_cases hl : 40 < a.length ∨ 40 < b.length
  · repeat' first
      | (with_reducible refine eT ?_)
      | (with_reducible refine eN ?_)
      | (with_reducible refine eS ?_)
      | (with_reducible refine eXn ?_)
      | (with_reducible refine eXr ?_)
      | (with_reducible refine eX ?_)
      | (with_reducible refine eI ?_)
      | (with_reducible refine eK ?_)
      | (with_reducible refine eV0 ?_)
      | (with_reducible refine eGtt ?_)
      | (with_reducible refine eGff ?_)
      | (with_reducible refine eGtf ?_)
      | (with_reducible refine eGft ?_)
      | (with_reducible refine eGno ?_)
      | ((with_reducible apply eCn); (simp only [nth_zero, nth_succ]; done))
      | ((with_reducible apply eCn); (simp only [nth_zero, nth_succ]; (with_reducible exact rfl)))
      | ((with_reducible apply eJ); (rfl))
      | ((with_reducible apply eB); (first | (with_reducible exact rfl) | (simp (disch := omega) only [pu_val, nth_zero, nth_succ, gd_tt, gd_ff, gd_tf, gd_ft, gd_no, rf, la, lb]; first | done | (with_reducible exact rfl) | (with_reducible exact ⟨rfl, rfl⟩)) | (simp (disch := omega) only [pu_val, nth_zero, nth_succ, gd_tt, gd_ff, gd_tf, gd_ft, gd_no, pickA_true, pickA_false, q_notT, q_notF, q_eql_t, q_eql_f, q_neq_t, q_neq_f, q_lss_t, q_lss_f, q_leq_t, q_leq_f, q_gtr_t, q_gtr_f, q_geq_t, q_geq_f, q_add, q_sub, q_addU, q_cvI, q_cvU, q_cv8, q_cv32, q_idxSl, q_lenRo, q_lenSl, q_lenNil, q_nilp, q_nilrp, q_nilfn, q_nilgl, q_fap, q_farp, q_ldrp, q_boxAgg, q_ext0, q_ext1, q_ext2, List.getElem?_cons_zero, List.getElem?_cons_succ, List.getElem?_nil, q_stS, q_ldp0, q_ldpS, q_ldB, q_ldBT, q_ldrpT, q_ldBi, q_ldBb, q_boxA, q_boxI, q_boxB, List.length_cons, List.length_nil, List.cons_append, List.nil_append, List.drop_zero, List.drop_succ_cons, List.take_succ_cons, List.take_zero, q_stp0, q_stpS, q_stB, Option.map_some, putC, AV.cells, storable, buildSt, fillA, buildRo, buildOwn, fillE, List.replicate_succ, List.replicate_zero, List.set_cons_zero, List.set_cons_succ, Nat.reduceLeDiff, Nat.reduceLT, Nat.le_refl, and_self, true_and, and_true, ↓reduceIte, if_true, Bool.not_true, Bool.not_false, Int.toNat_natCast, Nat.zero_add, Nat.reduceAdd, rf, la, lb]; first | done | (with_reducible exact rfl) | (with_reducible exact ⟨rfl, rfl⟩))))
      | ((with_reducible apply eR); (simp only [nth_zero, nth_succ]; (with_reducible exact rfl)))
      | ((with_reducible refine sEql (fun hq => ?_) (fun hq => ?_)) <;> try subst hq)
      | ((with_reducible refine sNeq (fun hq => ?_) (fun hq => ?_)) <;> try subst hq)
      | ((with_reducible refine sLss (fun hq => ?_) (fun hq => ?_)) <;> try subst hq)
      | ((with_reducible refine sLeq (fun hq => ?_) (fun hq => ?_)) <;> try subst hq)
      | ((with_reducible refine sGtr (fun hq => ?_) (fun hq => ?_)) <;> try subst hq)
      | ((with_reducible refine sGeq (fun hq => ?_) (fun hq => ?_)) <;> try subst hq)
      | ((with_reducible refine sNot (fun hq => ?_) (fun hq => ?_)) <;> try subst hq)
      | ((with_reducible refine sPick (fun hq => ?_) (fun hq => ?_)) <;> try subst hq)
      | ((with_reducible refine sGd (fun hq => ?_) (fun hq => ?_)) <;> try subst hq)
      | ((with_reducible refine eBool (fun hq => ?_) (fun hq => ?_)) <;> try subst hq)
    all_goals first | omega | exact w1b rfl
  have rn : ∀ H, pureCall (alembicworld_Number.f GF 8000) [I6 c, .int .i64 20] H = _ := fun H => pureCall_of (H := H) (number GF 7999 c 20 (by omega) (by omega) hc.1 hc.2) rfl rfl
  obtain ⟨p, hp⟩ : ∃ p : Nat, c % 20 = (p : Int) := ⟨(c % 20).toNat, by omega⟩
  have hp2 : p < 20 := by omega
  rw [hp] at rn
  obtain ⟨n, hn⟩ : ∃ n, n = p + 1 := ⟨_, rfl⟩
  have q1 : bin Tryd.prog .add 3 true (Nn p) (.int .i64 1) = some (Nn n) := by
    rw [bin_add, wrap_of_i64 (by omega) (by omega), hn]; congr 2
  have hn20 : n ≤ 20 := by omega
  have lp := build_loop GF 8000 (alembiclaw17_WordsLeak.f GF 8000) a b n hn20 n 0 8000 (by omega) (by omega)
  have a1 : appendV 52 6 (.sl 1 (5 * n) 0 (5 * n) 6) (.ro false [.agg [.int .i64 20, .int .i64 0, .int .i64 0, .int .i64 0, .int .i64 0, .int .i64 0]]) (hpI n) = some (.sl 1 (5 * n + 1) 0 (5 * n + 1) 6, (hpI n).set 1 ⟨52, 6, codeV (csK n)⟩) := by
    have e : (hpI n)[1]? = some ⟨52, 6, codeV (blks n)⟩ := rfl
    unfold appendV
    simp only [e, elemsOf, codeV_len, blks_len, List.length_singleton]
    rw [if_pos (by refine ⟨?_, ?_, ?_, ?_, ?_⟩ <;> first | trivial | rfl | omega)]
    have e2 : (codeV (blks n)).take (5 * n) = codeV (blks n) := List.take_of_length_le (by rw [codeV_len, blks_len]; exact Nat.le_refl _)
    have e3 : (codeV (blks n)).drop (5 * n + 1) = [] := List.drop_of_length_le (by rw [codeV_len, blks_len]; omega)
    rw [e2, e3, List.append_nil]
    have e4 : codeV (blks n) ++ [AV.agg [.int .i64 20, .int .i64 0, .int .i64 0, .int .i64 0, .int .i64 0, .int .i64 0]] = codeV (csK n) := by
      show _ = codeV (blks n ++ _)
      unfold codeV
      rw [List.map_append]; rfl
    rw [e4, codeV_len, csK_len]
  have s1 : stS (storeV 1 (.ptr 0 1 0 0) (.sl 1 (5 * n + 1) 0 (5 * n + 1) 6) ((hpI n).set 1 ⟨52, 6, codeV (csK n)⟩)) = some (.tup [], hpJ n []) := rfl
  have l1 : loadV GF false 1 (.ptr 0 1 0 0) (hpI n) = some (.sl 1 (5 * n) 0 (5 * n) 6) := rfl
  have m1 : makeSliceV 48 1 (.int .u64 0) (.int .i64 42) (.int .i64 42) (hpJ n []) = some (.sl 2 42 0 42 1, hpJ n [⟨48, 1, natsU (List.replicate 42 0)⟩]) := by
    unfold makeSliceV
    simp only
    rw [if_pos (by omega)]
    rfl
  have c1 := copy_pad a (by omega) (hpJ n [⟨48, 1, natsU (List.replicate 42 0)⟩]) 2 rfl
  have c1e : (hpJ n [⟨48, 1, natsU (List.replicate 42 0)⟩]).set 2 ⟨48, 1, natsU (padF a)⟩ = hpJ n [⟨48, 1, natsU (padF a)⟩] := rfl
  rw [c1e] at c1
  have m2 : makeSliceV 48 1 (.int .u64 0) (.int .i64 42) (.int .i64 42) (hpJ n [⟨48, 1, natsU (padF a)⟩]) = some (.sl 3 42 0 42 1, hpJ n [⟨48, 1, natsU (padF a)⟩, ⟨48, 1, natsU (List.replicate 42 0)⟩]) := by
    unfold makeSliceV
    simp only
    rw [if_pos (by omega)]
    rfl
  have c2 := copy_pad b (by omega) (hpJ n [⟨48, 1, natsU (padF a)⟩, ⟨48, 1, natsU (List.replicate 42 0)⟩]) 3 rfl
  have c2e : (hpJ n [⟨48, 1, natsU (padF a)⟩, ⟨48, 1, natsU (List.replicate 42 0)⟩]).set 3 ⟨48, 1, natsU (padF b)⟩ = hpJ n [⟨48, 1, natsU (padF a)⟩, ⟨48, 1, natsU (padF b)⟩] := rfl
  rw [c2e] at c2
  have hw : ∀ l : List Nat, (∀ x ∈ l, x < 18446744073709551616) → ∀ x ∈ padF l, x < 18446744073709551616 := fun l hl x hx => by
    rcases List.mem_append.1 hx with hx | hx
    · exact hl x hx
    · simp at hx; omega
  have hv := csK_valid n hn20
  have run : ∀ l : List Nat, l.length ≤ 40 → (∀ x ∈ l, x < 18446744073709551616) → ∃ s, words_Run.f GF 8000 [cdV true (csK n) 4 42, .ro true (natsU (padF l)), I6 1000] [] = some (.tup [endV s, .nili], []) ∧ s.code = 0 ∧ s.leaks = lkK n ++ [(1, ((5 * n : Nat) : Int))] ∧ s.steps = 5 * n + 1 := fun l hl40 hlw => by
    obtain ⟨s, h1, h2, h3, h4⟩ := runK n hn20 n 0 (by omega) 0 0 0 (padF l) (padF_len l hl40) (7997 - 5 * n)
    rw [show 7997 - 5 * n + 1 + 5 * n = 7998 by omega] at h1
    have h1' : runM (csK n) 1000 (7991 + 7) (s0 (4 : Int).toNat (padF l)) = some s := h1
    exact ⟨s, Run_at GF GF_ok 7991 (csK n) 4 42 true (padF l) 1000 (by rw [csK_len]; omega) (by rw [csK_len]; omega) hv (givenF_ok (by rw [padF_len l hl40]; rfl) (by omega) (by omega)) (hw l hlw) (by omega) (by omega) s h1', h2, h3, h4⟩
  obtain ⟨sa, ra, a2, a3, a4⟩ := run a (by omega) ha
  obtain ⟨sb, rb, b2, b3, b4⟩ := run b (by omega) hb
  have k1 : ∀ B, pureCall (words_Run.f GF 8000) [.agg [.sl 1 (5 * n + 1) 0 (5 * n + 1) 6, .int .i64 4, .int .i64 42], .sl 2 42 0 42 1, .int .i64 1000] (hpJ n (⟨48, 1, natsU (padF a)⟩ :: B)) = some (.tup [endV sa, .nili], hpJ n (⟨48, 1, natsU (padF a)⟩ :: B)) := fun B =>
    pureCall_at (snapL_c (snap_agg (snapCells_c (snap1_own rfl (by rw [codeV_len, csK_len]) (allSz_C _) (plainC _)) (snapCells_c rfl (snapCells_c rfl snapCells_n)))) (snapL_c (snap_own rfl (by rw [natsU_len, padF_len a (by omega)]) (allSz_U _) (plainU _)) (snapL_c (snap_plain rfl) snapL_n))) ra (by simp [cleanB, cleanL, endV_clean])
  have k2 : ∀ x B, pureCall (words_Run.f GF 8000) [.agg [.sl 1 (5 * n + 1) 0 (5 * n + 1) 6, .int .i64 4, .int .i64 42], .sl 3 42 0 42 1, .int .i64 1000] (hpJ n (x :: ⟨48, 1, natsU (padF b)⟩ :: B)) = some (.tup [endV sb, .nili], hpJ n (x :: ⟨48, 1, natsU (padF b)⟩ :: B)) := fun x B =>
    pureCall_at (snapL_c (snap_agg (snapCells_c (snap1_own rfl (by rw [codeV_len, csK_len]) (allSz_C _) (plainC _)) (snapCells_c rfl (snapCells_c rfl snapCells_n)))) (snapL_c (snap_own rfl (by rw [natsU_len, padF_len b (by omega)]) (allSz_U _) (plainU _)) (snapL_c (snap_plain rfl) snapL_n))) rb (by simp [cleanB, cleanL, endV_clean])
  unfold endV at k1 k2
  rw [a2, a3, a4] at k1
  rw [b2, b3, b4] at k2
  have hll : (lkK n ++ [((1 : Int), ((5 * n : Nat) : Int))]).length = 7 * n + 1 := by simp [lkK_len]
  have ll : lenSl (.ro false (leaksV (lkK n ++ [((1 : Int), ((5 * n : Nat) : Int))]))) = some (I6 (7 * (n : Int) + 1)) := by simp only [lenSl, leaksV_len, hll]; congr 2
  have sl : ∀ H, pureCall (alembicref_SameLeaks.f GF 8000) [.ro false (leaksV (lkK n ++ [((1 : Int), ((5 * n : Nat) : Int))])), .ro false (leaksV (lkK n ++ [((1 : Int), ((5 * n : Nat) : Int))]))] H = _ := fun H => pureCall_of (H := H) (SameLeaks_self GF 7998 false false _ (by rw [hll]; omega) (by rw [hll]; omega)) (by simp [plainL, plainLk, plainB]) rfl
  have q2 : bin Tryd.prog .mul 3 true (.int .i64 7) (Nn n) = some (I6 (7 * (n : Int))) := by rw [bin_mul, wrap_of_i64 (by omega) (by omega)]
  have q3 : bin Tryd.prog .mul 3 true (.int .i64 5) (Nn n) = some (I6 (5 * (n : Int))) := by rw [bin_mul, wrap_of_i64 (by omega) (by omega)]
  have eqn : bin Tryd.prog .eql 35 true .nili .nili = some (.bool true) := by kernel_rfl
  clear ra rb run a2 a3 a4 b2 b3 b4 hv hw hll c1e c2e
  generalize leaksV (lkK n ++ [((1 : Int), ((5 * n : Nat) : Int))]) = lk at *
  generalize natsU sa.mem = ma at *
  generalize natsU sb.mem = mb at *
  generalize natsU (padF a) = pa at *
  generalize natsU (padF b) = pb at *
  repeat first
    | (with_reducible refine eT ?_)
    | (with_reducible refine eN ?_)
    | (with_reducible refine eS ?_)
    | (with_reducible refine eXn ?_)
    | (with_reducible refine eXr ?_)
    | (with_reducible refine eX ?_)
    | (with_reducible refine eI ?_)
    | (with_reducible refine eK ?_)
    | (with_reducible refine eV0 ?_)
    | (with_reducible refine eGtt ?_)
    | (with_reducible refine eGff ?_)
    | (with_reducible refine eGtf ?_)
    | (with_reducible refine eGft ?_)
    | (with_reducible refine eGno ?_)
    | ((with_reducible apply eCn); (simp only [nth_zero, nth_succ]; done))
    | ((with_reducible apply eCn); (simp only [nth_zero, nth_succ]; (with_reducible exact rfl)))
    | ((with_reducible apply eJ); (rfl))
    | ((with_reducible apply eB); (first | (with_reducible exact rfl) | (simp (disch := omega) only [pu_val, nth_zero, nth_succ, gd_tt, gd_ff, gd_tf, gd_ft, gd_no, rf, la, lb, rn, q1]; first | done | (with_reducible exact rfl) | (with_reducible exact ⟨rfl, rfl⟩)) | (simp (disch := omega) only [pu_val, nth_zero, nth_succ, gd_tt, gd_ff, gd_tf, gd_ft, gd_no, pickA_true, pickA_false, q_notT, q_notF, q_eql_t, q_eql_f, q_neq_t, q_neq_f, q_lss_t, q_lss_f, q_leq_t, q_leq_f, q_gtr_t, q_gtr_f, q_geq_t, q_geq_f, q_add, q_sub, q_addU, q_cvI, q_cvU, q_cv8, q_cv32, q_idxSl, q_lenRo, q_lenSl, q_lenNil, q_nilp, q_nilrp, q_nilfn, q_nilgl, q_fap, q_farp, q_ldrp, q_boxAgg, q_ext0, q_ext1, q_ext2, List.getElem?_cons_zero, List.getElem?_cons_succ, List.getElem?_nil, q_stS, q_ldp0, q_ldpS, q_ldB, q_ldBT, q_ldrpT, q_ldBi, q_ldBb, q_boxA, q_boxI, q_boxB, List.length_cons, List.length_nil, List.cons_append, List.nil_append, List.drop_zero, List.drop_succ_cons, List.take_succ_cons, List.take_zero, q_stp0, q_stpS, q_stB, Option.map_some, putC, AV.cells, storable, buildSt, fillA, buildRo, buildOwn, fillE, List.replicate_succ, List.replicate_zero, List.set_cons_zero, List.set_cons_succ, Nat.reduceLeDiff, Nat.reduceLT, Nat.le_refl, and_self, true_and, and_true, ↓reduceIte, if_true, Bool.not_true, Bool.not_false, Int.toNat_natCast, Nat.zero_add, Nat.reduceAdd, rf, la, lb, rn, q1]; first | done | (with_reducible exact rfl) | (with_reducible exact ⟨rfl, rfl⟩))))
    | ((with_reducible apply eR); (simp only [nth_zero, nth_succ]; (with_reducible exact rfl)))
  refine eV1 (H1 := hpI 0) rfl ?_
  refine eV0 ?_
  refine eK ?_
  refine eL lp ?_
  repeat' first
    | (with_reducible refine eT ?_)
    | (with_reducible refine eN ?_)
    | (with_reducible refine eS ?_)
    | (with_reducible refine eXn ?_)
    | (with_reducible refine eXr ?_)
    | (with_reducible refine eX ?_)
    | (with_reducible refine eI ?_)
    | (with_reducible refine eK ?_)
    | (with_reducible refine eV0 ?_)
    | (with_reducible refine eGtt ?_)
    | (with_reducible refine eGff ?_)
    | (with_reducible refine eGtf ?_)
    | (with_reducible refine eGft ?_)
    | (with_reducible refine eGno ?_)
    | ((with_reducible apply eCn); (simp only [nth_zero, nth_succ]; done))
    | ((with_reducible apply eCn); (simp only [nth_zero, nth_succ]; (with_reducible exact rfl)))
    | ((with_reducible apply eJ); (rfl))
    | ((with_reducible apply eB); (first | (with_reducible exact rfl) | (simp (disch := omega) only [pu_val, nth_zero, nth_succ, gd_tt, gd_ff, gd_tf, gd_ft, gd_no, l1, a1, s1, m1, c1, m2, c2, k1, k2, ll, sl, q2, q3, eqn]; first | done | (with_reducible exact rfl) | (with_reducible exact ⟨rfl, rfl⟩)) | (simp (disch := omega) only [pu_val, nth_zero, nth_succ, gd_tt, gd_ff, gd_tf, gd_ft, gd_no, pickA_true, pickA_false, q_notT, q_notF, q_eql_t, q_eql_f, q_neq_t, q_neq_f, q_lss_t, q_lss_f, q_leq_t, q_leq_f, q_gtr_t, q_gtr_f, q_geq_t, q_geq_f, q_add, q_sub, q_addU, q_cvI, q_cvU, q_cv8, q_cv32, q_idxSl, q_lenRo, q_lenSl, q_lenNil, q_nilp, q_nilrp, q_nilfn, q_nilgl, q_fap, q_farp, q_ldrp, q_boxAgg, q_ext0, q_ext1, q_ext2, List.getElem?_cons_zero, List.getElem?_cons_succ, List.getElem?_nil, q_stS, q_ldp0, q_ldpS, q_ldB, q_ldBT, q_ldrpT, q_ldBi, q_ldBb, q_boxA, q_boxI, q_boxB, List.length_cons, List.length_nil, List.cons_append, List.nil_append, List.drop_zero, List.drop_succ_cons, List.take_succ_cons, List.take_zero, q_stp0, q_stpS, q_stB, Option.map_some, putC, AV.cells, storable, buildSt, fillA, buildRo, buildOwn, fillE, List.replicate_succ, List.replicate_zero, List.set_cons_zero, List.set_cons_succ, Nat.reduceLeDiff, Nat.reduceLT, Nat.le_refl, and_self, true_and, and_true, ↓reduceIte, if_true, Bool.not_true, Bool.not_false, Int.toNat_natCast, Nat.zero_add, Nat.reduceAdd, l1, a1, s1, m1, c1, m2, c2, k1, k2, ll, sl, q2, q3, eqn]; first | done | (with_reducible exact rfl) | (with_reducible exact ⟨rfl, rfl⟩))))
    | ((with_reducible apply eR); (simp only [nth_zero, nth_succ]; (with_reducible exact rfl)))
    | ((with_reducible refine sEql (fun hq => ?_) (fun hq => ?_)) <;> try subst hq)
    | ((with_reducible refine sNeq (fun hq => ?_) (fun hq => ?_)) <;> try subst hq)
    | ((with_reducible refine sLss (fun hq => ?_) (fun hq => ?_)) <;> try subst hq)
    | ((with_reducible refine sLeq (fun hq => ?_) (fun hq => ?_)) <;> try subst hq)
    | ((with_reducible refine sGtr (fun hq => ?_) (fun hq => ?_)) <;> try subst hq)
    | ((with_reducible refine sGeq (fun hq => ?_) (fun hq => ?_)) <;> try subst hq)
    | ((with_reducible refine sNot (fun hq => ?_) (fun hq => ?_)) <;> try subst hq)
    | ((with_reducible refine sPick (fun hq => ?_) (fun hq => ?_)) <;> try subst hq)
    | ((with_reducible refine sGd (fun hq => ?_) (fun hq => ?_)) <;> try subst hq)
    | ((with_reducible refine eBool (fun hq => ?_) (fun hq => ?_)) <;> try subst hq)
  all_goals first | omega | exact w1b rfl
end Go.Proofs.YtcmblhedhgiofaaDoor
