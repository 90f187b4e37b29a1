/- The law of BoundExact, in plain Lean. -/
import Derived.Test.YtcmblhedhgiofaaDoorWb
import Derived.Test.YtcmblhedhgiofaaDoorMirZB
namespace Go.Proofs.YtcmblhedhgiofaaDoor
open Go Mir
set_option linter.unusedVariables false
set_option linter.unusedSimpArgs false
set_option maxHeartbeats 8000000
set_option maxRecDepth 20000

theorem first18 (G : Globs) (k : Nat) : alembiclaw18_first.f G (k + 60) [] [] = some (.bool true, []) := by kernel_rfl

theorem number (G : Globs) (k : Nat) (n m : Int) (h0 : 0 < m) (h1 : m < 9223372036854775808) (hn : -9223372036854775808 ≤ n) (hn' : n < 9223372036854775808) :
    alembicworld_Number.f G (k + 1) [.int .i64 n, .int .i64 m] [] = some (.int .i64 (n % m), []) := by
  rw [alembicworld_Number.step]
  unfold alembicworld_Number.c
  rw [bin_rem _ _ _ _ _ _ (by omega)]
  have hlt := Int.tmod_lt_of_pos n h0
  have hgt : -m < n.tmod m := by have := Int.tmod_lt_of_pos (-n) h0; rw [Int.neg_tmod] at this; omega
  have hm : n.tmod m % m = n % m := by
    rw [Int.tmod_eq_emod]; split
    · simp
    · have e : (m.natAbs : Int) = m := by omega
      simp [e]
  by_cases h : n.tmod m < 0
  · simp only [pu_val, bnd_some, bin_lss, h, decide_true, condA_true, bin_add, List.length_nil, finV_int, outV_ret]
    rw [wrap_of_i64 (by omega) (by omega)]
    congr 3
    rw [← hm, ← Int.add_emod_right]
    exact (Int.emod_eq_of_lt (by omega) (by omega)).symm
  · simp only [pu_val, bnd_some, bin_lss, h, decide_false, condA_false, List.length_nil, finV_int, outV_ret]
    congr 3
    rw [← hm]
    exact (Int.emod_eq_of_lt (by omega) (by omega)).symm

abbrev opsV : AV := .ro false [.int .i64 3, .int .i64 4, .int .i64 5, .int .i64 10]
abbrev xsE (a b n j : Int) (y : AV) : List AV := [I6 a, I6 b, I6 n, y, .bool true, opsV, I6 j]

theorem u64_nat_mod (n : Int) (m : Nat) (h : (m : Int) = n % 18446744073709551616) : u64 n = m := by unfold u64; omega

section
variable (G : Globs) (k : Nat) (self : Den) (a b : Int) (n : Nat) (ha : Rg a) (hb : Rg b) (hn : n ≤ 63)

include ha hb hn in
theorem be_round (op K j : Int) (ho : op = 3 ∨ op = 4 ∨ op = 5 ∨ op = 10) (hK : (op = 10 → K = n) ∧ (op ≠ 10 → K = 0)) (hj0 : 0 ≤ j) (hj : j < 4) (hidx : idxAddrSl 1 opsV (I6 j) = some (.rp false (I6 op) 0))
    (w : Nat) (hv : valF op K (u64 a) (u64 b) 0 = (w, true)) (hw : Rg (exactF op K.toNat a b) → u64 (exactF op K.toNat a b) = w)
    (hsm : -1073741824 < a → a < 1073741824 → -1073741824 < b → b < 1073741824 → (op ≠ 10 ∨ n < 33) → Rg (exactF op K.toNat a b)) (f : Nat) (y : AV) (hy : belowB 0 y = true) (H : AHeap) :
    loopN (alembiclaw18_BoundExact.l7 G (k + 3) 0 self) (f + 1) (xsE a b n j y) H = loopN (alembiclaw18_BoundExact.l7 G (k + 3) 0 self) f (xsE a b n (j + 1) .undef) [⟨52, 6, [instV op 0 0 0 0 K]⟩] := by
  rw [loopN_succ, alembiclaw18_BoundExact.l7]
  have hc : cutH 0 (xsE a b n j y) H = some [] := by simp [cutH, belowL, belowB, heapBelow, hy]
  have hK0 : 0 ≤ K ∧ K ≤ 63 := by
    by_cases h : op = 10
    · have := hK.1 h; omega
    · have := hK.2 h; omega
  have hKn : ((K.toNat : Nat) : Int) = K := Int.toNat_of_nonneg hK0.1
  have ex := exact_spec G (k + 1) op 0 0 0 0 K.toNat (by omega) (u64 a) (u64 b) (u64_lt _) (u64_lt _) ho
  rw [hKn, s64_u64 a ⟨ha.1, ha.2⟩, s64_u64 b ⟨hb.1, hb.2⟩] at ex
  have r1 : ∀ H, pureCall (bound_Exact.f G (k + 3)) [instV op 0 0 0 0 K, Un (u64 a), Un (u64 b)] H = _ := fun H => pureCall_of (H := H) ex rfl (numS_clean _)
  have r2 : ∀ H, pureCall (words_Value.f G (k + 3)) [instV op 0 0 0 0 K, Un (u64 a), Un (u64 b), .int .u64 0] H = _ := fun H => pureCall_of (H := H) (value_spec G (k + 1) op 0 0 0 0 K (u64 a) (u64 b) 0 (u64_lt _) (u64_lt _) (by omega)) rfl rfl
  rw [hv] at r2
  have c1 := conv_u64 .i64 a
  have c2 := conv_u64 .i64 b
  have l1 : ∀ H, loadV G false 1 (.rp false (I6 op) 0) H = some (I6 op) := fun H => rfl
  have s1 : stS (storeV 6 (.ptr 0 1 0 0) (.agg [I6 op, .int .i64 0, .int .i64 0, .int .i64 0, .int .i64 0, .int .i64 0]) [⟨52, 6, [.agg [.int .i64 0, .int .i64 0, .int .i64 0, .int .i64 0, .int .i64 0, .int .i64 0]]⟩]) = some (.tup [], [⟨52, 6, [instV op 0 0 0 0 0]⟩]) := rfl
  have s2 : stS (storeV 1 (.ptr 0 1 0 5) (I6 n) [⟨52, 6, [instV op 0 0 0 0 0]⟩]) = some (.tup [], [⟨52, 6, [instV op 0 0 0 0 n]⟩]) := rfl
  have l2 : ∀ K, loadV G true 6 (.ptr 0 1 0 0) [⟨52, 6, [instV op 0 0 0 0 K]⟩] = some (instV op 0 0 0 0 K) := fun K => rfl
  have d1 : bin Tryd.prog .add 3 true (I6 j) (.int .i64 1) = some (I6 (j + 1)) := q_add (by omega) (by omega)
  refine e_id ?_
  refine eC hc ?_
  generalize exactF op K.toNat a b = E at *
  by_cases hE : Rg E
  · have e : numS E = .tup [I E, .bool true] := by unfold numS; rw [if_pos ⟨hE.1, hE.2⟩]
    rw [e] at r1
    have c3 := conv_u64 .i64 E
    rw [hw hE] at c3
    clear ex hw hsm hv e
    generalize u64 a = ua at *
    generalize u64 b = ub at *
    by_cases h10 : op = 10
    · obtain rfl := hK.1 h10
      repeat' first
        | (with_reducible refine eT ?_)
        | (with_reducible refine eN ?_)
        | (with_reducible refine eS ?_)
        | (with_reducible refine eXn ?_)
        | (with_reducible refine eXr ?_)
        | (with_reducible refine eX ?_)
        | (with_reducible refine eI ?_)
        | (with_reducible refine eK ?_)
        | (with_reducible refine eV0 ?_)
        | (with_reducible refine eGtt ?_)
        | (with_reducible refine eGff ?_)
        | (with_reducible refine eGtf ?_)
        | (with_reducible refine eGft ?_)
        | (with_reducible refine eGno ?_)
        | ((with_reducible apply eCn); (simp only [nth_zero, nth_succ]; done))
        | ((with_reducible apply eCn); (simp only [nth_zero, nth_succ]; (with_reducible exact rfl)))
        | ((with_reducible apply eJ); (rfl))
        | ((with_reducible apply eB); (first | (with_reducible exact rfl) | (simp (disch := omega) only [pu_val, nth_zero, nth_succ, gd_tt, gd_ff, gd_tf, gd_ft, gd_no, c1, c2, c3, r1, r2, l1, l2, s1, s2, d1, hidx]; first | done | (with_reducible exact rfl) | (with_reducible exact ⟨rfl, rfl⟩)) | (simp (disch := omega) only [pu_val, nth_zero, nth_succ, gd_tt, gd_ff, gd_tf, gd_ft, gd_no, pickA_true, pickA_false, q_notT, q_notF, q_eql_t, q_eql_f, q_neq_t, q_neq_f, q_lss_t, q_lss_f, q_leq_t, q_leq_f, q_gtr_t, q_gtr_f, q_geq_t, q_geq_f, q_add, q_sub, q_addU, q_cvI, q_cvU, q_cv8, q_cv32, q_idxSl, q_lenRo, q_lenSl, q_lenNil, q_nilp, q_nilrp, q_nilfn, q_nilgl, q_fap, q_farp, q_ldrp, q_boxAgg, q_ext0, q_ext1, q_ext2, List.getElem?_cons_zero, List.getElem?_cons_succ, List.getElem?_nil, q_stS, q_ldp0, q_ldpS, q_ldB, q_ldBT, q_ldrpT, q_ldBi, q_ldBb, q_boxA, q_boxI, q_boxB, List.length_cons, List.length_nil, List.cons_append, List.nil_append, List.drop_zero, List.drop_succ_cons, List.take_succ_cons, List.take_zero, q_stp0, q_stpS, q_stB, Option.map_some, putC, AV.cells, storable, buildSt, fillA, buildRo, buildOwn, fillE, List.replicate_succ, List.replicate_zero, List.set_cons_zero, List.set_cons_succ, Nat.reduceLeDiff, Nat.reduceLT, Nat.le_refl, and_self, true_and, and_true, ↓reduceIte, if_true, Bool.not_true, Bool.not_false, Int.toNat_natCast, Nat.zero_add, Nat.reduceAdd, c1, c2, c3, r1, r2, l1, l2, s1, s2, d1, hidx]; first | done | (with_reducible exact rfl) | (with_reducible exact ⟨rfl, rfl⟩))))
        | ((with_reducible apply eR); (simp only [nth_zero, nth_succ]; (with_reducible exact rfl)))
        | ((with_reducible refine sEql (fun hq => ?_) (fun hq => ?_)) <;> try subst hq)
        | ((with_reducible refine sNeq (fun hq => ?_) (fun hq => ?_)) <;> try subst hq)
        | ((with_reducible refine sLss (fun hq => ?_) (fun hq => ?_)) <;> try subst hq)
        | ((with_reducible refine sLeq (fun hq => ?_) (fun hq => ?_)) <;> try subst hq)
        | ((with_reducible refine sGtr (fun hq => ?_) (fun hq => ?_)) <;> try subst hq)
        | ((with_reducible refine sGeq (fun hq => ?_) (fun hq => ?_)) <;> try subst hq)
        | ((with_reducible refine sNot (fun hq => ?_) (fun hq => ?_)) <;> try subst hq)
        | ((with_reducible refine sPick (fun hq => ?_) (fun hq => ?_)) <;> try subst hq)
        | ((with_reducible refine sGd (fun hq => ?_) (fun hq => ?_)) <;> try subst hq)
        | ((with_reducible refine eBool (fun hq => ?_) (fun hq => ?_)) <;> try subst hq)
      all_goals first | omega | (refine e_out ?_; rfl)
    · obtain rfl := hK.2 h10
      repeat' first
        | (with_reducible refine eT ?_)
        | (with_reducible refine eN ?_)
        | (with_reducible refine eS ?_)
        | (with_reducible refine eXn ?_)
        | (with_reducible refine eXr ?_)
        | (with_reducible refine eX ?_)
        | (with_reducible refine eI ?_)
        | (with_reducible refine eK ?_)
        | (with_reducible refine eV0 ?_)
        | (with_reducible refine eGtt ?_)
        | (with_reducible refine eGff ?_)
        | (with_reducible refine eGtf ?_)
        | (with_reducible refine eGft ?_)
        | (with_reducible refine eGno ?_)
        | ((with_reducible apply eCn); (simp only [nth_zero, nth_succ]; done))
        | ((with_reducible apply eCn); (simp only [nth_zero, nth_succ]; (with_reducible exact rfl)))
        | ((with_reducible apply eJ); (rfl))
        | ((with_reducible apply eB); (first | (with_reducible exact rfl) | (simp (disch := omega) only [pu_val, nth_zero, nth_succ, gd_tt, gd_ff, gd_tf, gd_ft, gd_no, c1, c2, c3, r1, r2, l1, l2, s1, d1, hidx]; first | done | (with_reducible exact rfl) | (with_reducible exact ⟨rfl, rfl⟩)) | (simp (disch := omega) only [pu_val, nth_zero, nth_succ, gd_tt, gd_ff, gd_tf, gd_ft, gd_no, pickA_true, pickA_false, q_notT, q_notF, q_eql_t, q_eql_f, q_neq_t, q_neq_f, q_lss_t, q_lss_f, q_leq_t, q_leq_f, q_gtr_t, q_gtr_f, q_geq_t, q_geq_f, q_add, q_sub, q_addU, q_cvI, q_cvU, q_cv8, q_cv32, q_idxSl, q_lenRo, q_lenSl, q_lenNil, q_nilp, q_nilrp, q_nilfn, q_nilgl, q_fap, q_farp, q_ldrp, q_boxAgg, q_ext0, q_ext1, q_ext2, List.getElem?_cons_zero, List.getElem?_cons_succ, List.getElem?_nil, q_stS, q_ldp0, q_ldpS, q_ldB, q_ldBT, q_ldrpT, q_ldBi, q_ldBb, q_boxA, q_boxI, q_boxB, List.length_cons, List.length_nil, List.cons_append, List.nil_append, List.drop_zero, List.drop_succ_cons, List.take_succ_cons, List.take_zero, q_stp0, q_stpS, q_stB, Option.map_some, putC, AV.cells, storable, buildSt, fillA, buildRo, buildOwn, fillE, List.replicate_succ, List.replicate_zero, List.set_cons_zero, List.set_cons_succ, Nat.reduceLeDiff, Nat.reduceLT, Nat.le_refl, and_self, true_and, and_true, ↓reduceIte, if_true, Bool.not_true, Bool.not_false, Int.toNat_natCast, Nat.zero_add, Nat.reduceAdd, c1, c2, c3, r1, r2, l1, l2, s1, d1, hidx]; first | done | (with_reducible exact rfl) | (with_reducible exact ⟨rfl, rfl⟩))))
        | ((with_reducible apply eR); (simp only [nth_zero, nth_succ]; (with_reducible exact rfl)))
        | ((with_reducible refine sEql (fun hq => ?_) (fun hq => ?_)) <;> try subst hq)
        | ((with_reducible refine sNeq (fun hq => ?_) (fun hq => ?_)) <;> try subst hq)
        | ((with_reducible refine sLss (fun hq => ?_) (fun hq => ?_)) <;> try subst hq)
        | ((with_reducible refine sLeq (fun hq => ?_) (fun hq => ?_)) <;> try subst hq)
        | ((with_reducible refine sGtr (fun hq => ?_) (fun hq => ?_)) <;> try subst hq)
        | ((with_reducible refine sGeq (fun hq => ?_) (fun hq => ?_)) <;> try subst hq)
        | ((with_reducible refine sNot (fun hq => ?_) (fun hq => ?_)) <;> try subst hq)
        | ((with_reducible refine sPick (fun hq => ?_) (fun hq => ?_)) <;> try subst hq)
        | ((with_reducible refine sGd (fun hq => ?_) (fun hq => ?_)) <;> try subst hq)
        | ((with_reducible refine eBool (fun hq => ?_) (fun hq => ?_)) <;> try subst hq)
      all_goals first | omega | (refine e_out ?_; rfl)
  · have e : numS E = .tup [I 0, .bool false] := by unfold numS; rw [if_neg (fun h => hE ⟨h.1, h.2⟩)]
    rw [e] at r1
    have hns : ¬ (-1073741824 < a ∧ a < 1073741824 ∧ -1073741824 < b ∧ b < 1073741824 ∧ (op ≠ 10 ∨ n < 33)) := fun h => hE (hsm h.1 h.2.1 h.2.2.1 h.2.2.2.1 h.2.2.2.2)
    clear ex hw hsm hv e hE
    generalize u64 a = ua at *
    generalize u64 b = ub at *
    by_cases hs : -1073741824 < a ∧ a < 1073741824 ∧ -1073741824 < b ∧ b < 1073741824
    · have h33 : op = 10 ∧ 33 ≤ n := by omega
      obtain ⟨h10, h33⟩ := h33
      obtain ⟨s1_, s2_, s3_, s4_⟩ := hs
      clear hns
      obtain rfl := hK.1 h10
      repeat' first
        | (with_reducible refine eT ?_)
        | (with_reducible refine eN ?_)
        | (with_reducible refine eS ?_)
        | (with_reducible refine eXn ?_)
        | (with_reducible refine eXr ?_)
        | (with_reducible refine eX ?_)
        | (with_reducible refine eI ?_)
        | (with_reducible refine eK ?_)
        | (with_reducible refine eV0 ?_)
        | (with_reducible refine eGtt ?_)
        | (with_reducible refine eGff ?_)
        | (with_reducible refine eGtf ?_)
        | (with_reducible refine eGft ?_)
        | (with_reducible refine eGno ?_)
        | ((with_reducible apply eCn); (simp only [nth_zero, nth_succ]; done))
        | ((with_reducible apply eCn); (simp only [nth_zero, nth_succ]; (with_reducible exact rfl)))
        | ((with_reducible apply eJ); (rfl))
        | ((with_reducible apply eB); (first | (with_reducible exact rfl) | (simp (disch := omega) only [pu_val, nth_zero, nth_succ, gd_tt, gd_ff, gd_tf, gd_ft, gd_no, c1, c2, r1, r2, l1, l2, s1, s2, d1, hidx]; first | done | (with_reducible exact rfl) | (with_reducible exact ⟨rfl, rfl⟩)) | (simp (disch := omega) only [pu_val, nth_zero, nth_succ, gd_tt, gd_ff, gd_tf, gd_ft, gd_no, pickA_true, pickA_false, q_notT, q_notF, q_eql_t, q_eql_f, q_neq_t, q_neq_f, q_lss_t, q_lss_f, q_leq_t, q_leq_f, q_gtr_t, q_gtr_f, q_geq_t, q_geq_f, q_add, q_sub, q_addU, q_cvI, q_cvU, q_cv8, q_cv32, q_idxSl, q_lenRo, q_lenSl, q_lenNil, q_nilp, q_nilrp, q_nilfn, q_nilgl, q_fap, q_farp, q_ldrp, q_boxAgg, q_ext0, q_ext1, q_ext2, List.getElem?_cons_zero, List.getElem?_cons_succ, List.getElem?_nil, q_stS, q_ldp0, q_ldpS, q_ldB, q_ldBT, q_ldrpT, q_ldBi, q_ldBb, q_boxA, q_boxI, q_boxB, List.length_cons, List.length_nil, List.cons_append, List.nil_append, List.drop_zero, List.drop_succ_cons, List.take_succ_cons, List.take_zero, q_stp0, q_stpS, q_stB, Option.map_some, putC, AV.cells, storable, buildSt, fillA, buildRo, buildOwn, fillE, List.replicate_succ, List.replicate_zero, List.set_cons_zero, List.set_cons_succ, Nat.reduceLeDiff, Nat.reduceLT, Nat.le_refl, and_self, true_and, and_true, ↓reduceIte, if_true, Bool.not_true, Bool.not_false, Int.toNat_natCast, Nat.zero_add, Nat.reduceAdd, c1, c2, r1, r2, l1, l2, s1, s2, d1, hidx]; first | done | (with_reducible exact rfl) | (with_reducible exact ⟨rfl, rfl⟩))))
        | ((with_reducible apply eR); (simp only [nth_zero, nth_succ]; (with_reducible exact rfl)))
        | ((with_reducible refine sEql (fun hq => ?_) (fun hq => ?_)) <;> try subst hq)
        | ((with_reducible refine sNeq (fun hq => ?_) (fun hq => ?_)) <;> try subst hq)
        | ((with_reducible refine sLss (fun hq => ?_) (fun hq => ?_)) <;> try subst hq)
        | ((with_reducible refine sLeq (fun hq => ?_) (fun hq => ?_)) <;> try subst hq)
        | ((with_reducible refine sGtr (fun hq => ?_) (fun hq => ?_)) <;> try subst hq)
        | ((with_reducible refine sGeq (fun hq => ?_) (fun hq => ?_)) <;> try subst hq)
        | ((with_reducible refine sNot (fun hq => ?_) (fun hq => ?_)) <;> try subst hq)
        | ((with_reducible refine sPick (fun hq => ?_) (fun hq => ?_)) <;> try subst hq)
        | ((with_reducible refine sGd (fun hq => ?_) (fun hq => ?_)) <;> try subst hq)
        | ((with_reducible refine eBool (fun hq => ?_) (fun hq => ?_)) <;> try subst hq)
      all_goals first | omega | (refine e_out ?_; rfl)
    · clear hns
      by_cases h10 : op = 10
      · obtain rfl := hK.1 h10
        repeat' first
          | (with_reducible refine eT ?_)
          | (with_reducible refine eN ?_)
          | (with_reducible refine eS ?_)
          | (with_reducible refine eXn ?_)
          | (with_reducible refine eXr ?_)
          | (with_reducible refine eX ?_)
          | (with_reducible refine eI ?_)
          | (with_reducible refine eK ?_)
          | (with_reducible refine eV0 ?_)
          | (with_reducible refine eGtt ?_)
          | (with_reducible refine eGff ?_)
          | (with_reducible refine eGtf ?_)
          | (with_reducible refine eGft ?_)
          | (with_reducible refine eGno ?_)
          | ((with_reducible apply eCn); (simp only [nth_zero, nth_succ]; done))
          | ((with_reducible apply eCn); (simp only [nth_zero, nth_succ]; (with_reducible exact rfl)))
          | ((with_reducible apply eJ); (rfl))
          | ((with_reducible apply eB); (first | (with_reducible exact rfl) | (simp (disch := omega) only [pu_val, nth_zero, nth_succ, gd_tt, gd_ff, gd_tf, gd_ft, gd_no, c1, c2, r1, r2, l1, l2, s1, s2, d1, hidx]; first | done | (with_reducible exact rfl) | (with_reducible exact ⟨rfl, rfl⟩)) | (simp (disch := omega) only [pu_val, nth_zero, nth_succ, gd_tt, gd_ff, gd_tf, gd_ft, gd_no, pickA_true, pickA_false, q_notT, q_notF, q_eql_t, q_eql_f, q_neq_t, q_neq_f, q_lss_t, q_lss_f, q_leq_t, q_leq_f, q_gtr_t, q_gtr_f, q_geq_t, q_geq_f, q_add, q_sub, q_addU, q_cvI, q_cvU, q_cv8, q_cv32, q_idxSl, q_lenRo, q_lenSl, q_lenNil, q_nilp, q_nilrp, q_nilfn, q_nilgl, q_fap, q_farp, q_ldrp, q_boxAgg, q_ext0, q_ext1, q_ext2, List.getElem?_cons_zero, List.getElem?_cons_succ, List.getElem?_nil, q_stS, q_ldp0, q_ldpS, q_ldB, q_ldBT, q_ldrpT, q_ldBi, q_ldBb, q_boxA, q_boxI, q_boxB, List.length_cons, List.length_nil, List.cons_append, List.nil_append, List.drop_zero, List.drop_succ_cons, List.take_succ_cons, List.take_zero, q_stp0, q_stpS, q_stB, Option.map_some, putC, AV.cells, storable, buildSt, fillA, buildRo, buildOwn, fillE, List.replicate_succ, List.replicate_zero, List.set_cons_zero, List.set_cons_succ, Nat.reduceLeDiff, Nat.reduceLT, Nat.le_refl, and_self, true_and, and_true, ↓reduceIte, if_true, Bool.not_true, Bool.not_false, Int.toNat_natCast, Nat.zero_add, Nat.reduceAdd, c1, c2, r1, r2, l1, l2, s1, s2, d1, hidx]; first | done | (with_reducible exact rfl) | (with_reducible exact ⟨rfl, rfl⟩))))
          | ((with_reducible apply eR); (simp only [nth_zero, nth_succ]; (with_reducible exact rfl)))
          | ((with_reducible refine sEql (fun hq => ?_) (fun hq => ?_)) <;> try subst hq)
          | ((with_reducible refine sNeq (fun hq => ?_) (fun hq => ?_)) <;> try subst hq)
          | ((with_reducible refine sLss (fun hq => ?_) (fun hq => ?_)) <;> try subst hq)
          | ((with_reducible refine sLeq (fun hq => ?_) (fun hq => ?_)) <;> try subst hq)
          | ((with_reducible refine sGtr (fun hq => ?_) (fun hq => ?_)) <;> try subst hq)
          | ((with_reducible refine sGeq (fun hq => ?_) (fun hq => ?_)) <;> try subst hq)
          | ((with_reducible refine sNot (fun hq => ?_) (fun hq => ?_)) <;> try subst hq)
          | ((with_reducible refine sPick (fun hq => ?_) (fun hq => ?_)) <;> try subst hq)
          | ((with_reducible refine sGd (fun hq => ?_) (fun hq => ?_)) <;> try subst hq)
          | ((with_reducible refine eBool (fun hq => ?_) (fun hq => ?_)) <;> try subst hq)
        all_goals first | omega | (refine e_out ?_; rfl)
      · obtain rfl := hK.2 h10
        repeat' first
          | (with_reducible refine eT ?_)
          | (with_reducible refine eN ?_)
          | (with_reducible refine eS ?_)
          | (with_reducible refine eXn ?_)
          | (with_reducible refine eXr ?_)
          | (with_reducible refine eX ?_)
          | (with_reducible refine eI ?_)
          | (with_reducible refine eK ?_)
          | (with_reducible refine eV0 ?_)
          | (with_reducible refine eGtt ?_)
          | (with_reducible refine eGff ?_)
          | (with_reducible refine eGtf ?_)
          | (with_reducible refine eGft ?_)
          | (with_reducible refine eGno ?_)
          | ((with_reducible apply eCn); (simp only [nth_zero, nth_succ]; done))
          | ((with_reducible apply eCn); (simp only [nth_zero, nth_succ]; (with_reducible exact rfl)))
          | ((with_reducible apply eJ); (rfl))
          | ((with_reducible apply eB); (first | (with_reducible exact rfl) | (simp (disch := omega) only [pu_val, nth_zero, nth_succ, gd_tt, gd_ff, gd_tf, gd_ft, gd_no, c1, c2, r1, r2, l1, l2, s1, d1, hidx]; first | done | (with_reducible exact rfl) | (with_reducible exact ⟨rfl, rfl⟩)) | (simp (disch := omega) only [pu_val, nth_zero, nth_succ, gd_tt, gd_ff, gd_tf, gd_ft, gd_no, pickA_true, pickA_false, q_notT, q_notF, q_eql_t, q_eql_f, q_neq_t, q_neq_f, q_lss_t, q_lss_f, q_leq_t, q_leq_f, q_gtr_t, q_gtr_f, q_geq_t, q_geq_f, q_add, q_sub, q_addU, q_cvI, q_cvU, q_cv8, q_cv32, q_idxSl, q_lenRo, q_lenSl, q_lenNil, q_nilp, q_nilrp, q_nilfn, q_nilgl, q_fap, q_farp, q_ldrp, q_boxAgg, q_ext0, q_ext1, q_ext2, List.getElem?_cons_zero, List.getElem?_cons_succ, List.getElem?_nil, q_stS, q_ldp0, q_ldpS, q_ldB, q_ldBT, q_ldrpT, q_ldBi, q_ldBb, q_boxA, q_boxI, q_boxB, List.length_cons, List.length_nil, List.cons_append, List.nil_append, List.drop_zero, List.drop_succ_cons, List.take_succ_cons, List.take_zero, q_stp0, q_stpS, q_stB, Option.map_some, putC, AV.cells, storable, buildSt, fillA, buildRo, buildOwn, fillE, List.replicate_succ, List.replicate_zero, List.set_cons_zero, List.set_cons_succ, Nat.reduceLeDiff, Nat.reduceLT, Nat.le_refl, and_self, true_and, and_true, ↓reduceIte, if_true, Bool.not_true, Bool.not_false, Int.toNat_natCast, Nat.zero_add, Nat.reduceAdd, c1, c2, r1, r2, l1, l2, s1, d1, hidx]; first | done | (with_reducible exact rfl) | (with_reducible exact ⟨rfl, rfl⟩))))
          | ((with_reducible apply eR); (simp only [nth_zero, nth_succ]; (with_reducible exact rfl)))
          | ((with_reducible refine sEql (fun hq => ?_) (fun hq => ?_)) <;> try subst hq)
          | ((with_reducible refine sNeq (fun hq => ?_) (fun hq => ?_)) <;> try subst hq)
          | ((with_reducible refine sLss (fun hq => ?_) (fun hq => ?_)) <;> try subst hq)
          | ((with_reducible refine sLeq (fun hq => ?_) (fun hq => ?_)) <;> try subst hq)
          | ((with_reducible refine sGtr (fun hq => ?_) (fun hq => ?_)) <;> try subst hq)
          | ((with_reducible refine sGeq (fun hq => ?_) (fun hq => ?_)) <;> try subst hq)
          | ((with_reducible refine sNot (fun hq => ?_) (fun hq => ?_)) <;> try subst hq)
          | ((with_reducible refine sPick (fun hq => ?_) (fun hq => ?_)) <;> try subst hq)
          | ((with_reducible refine sGd (fun hq => ?_) (fun hq => ?_)) <;> try subst hq)
          | ((with_reducible refine eBool (fun hq => ?_) (fun hq => ?_)) <;> try subst hq)
        all_goals first | omega | (refine e_out ?_; rfl)
end

theorem val_add (a b : Int) : valF 3 0 (u64 a) (u64 b) 0 = (u64 (a + b), true) := by
  have e : (u64 a + u64 b) % 18446744073709551616 = u64 (a + b) := by unfold u64; omega
  simp [valF, e]
theorem val_sub (a b : Int) : valF 4 0 (u64 a) (u64 b) 0 = (u64 (a - b), true) := by
  have e : (u64 a + 18446744073709551616 - u64 b) % 18446744073709551616 = u64 (a - b) := by unfold u64; omega
  simp [valF, e]
theorem val_mul (a b : Int) : valF 5 0 (u64 a) (u64 b) 0 = (u64 (a * b), true) := by
  have e : u64 a * u64 b % 18446744073709551616 = u64 (a * b) := by
    have h1 : (u64 a : Int) = a % 18446744073709551616 := by unfold u64; omega
    have h2 : (u64 b : Int) = b % 18446744073709551616 := by unfold u64; omega
    have h3 : ((u64 a * u64 b % 18446744073709551616 : Nat) : Int) = a * b % 18446744073709551616 := by
      rw [Int.natCast_emod, Int.natCast_mul, h1, h2]
      exact (Int.mul_emod a b 18446744073709551616).symm
    have h4 : (u64 (a * b) : Int) = a * b % 18446744073709551616 := by unfold u64; omega
    omega
  simp [valF, e]
theorem val_shl (a : Int) (n : Nat) (hn : n ≤ 63) (b : Nat) : valF 10 n (u64 a) b 0 = (u64 (a * 2 ^ n), true) := by
  have e : u64 a * 2 ^ n % 18446744073709551616 = u64 (a * 2 ^ n) := by
    have h1 : (u64 a : Int) = a % 18446744073709551616 := by unfold u64; omega
    have h3 : ((u64 a * 2 ^ n % 18446744073709551616 : Nat) : Int) = a * 2 ^ n % 18446744073709551616 := by
      rw [Int.natCast_emod, Int.natCast_mul, h1, Int.natCast_pow]
      have e1 := Int.mul_emod (a % 18446744073709551616) ((2 : Nat) ^ n : Int) 18446744073709551616
      have e2 := Int.mul_emod a ((2 : Nat) ^ n : Int) 18446744073709551616
      rw [Int.emod_emod_of_dvd _ (Int.dvd_refl _)] at e1
      exact e1.trans e2.symm
    have h4 : (u64 (a * 2 ^ n) : Int) = a * 2 ^ n % 18446744073709551616 := by unfold u64; omega
    omega
  have h : ¬ ((n : Int) < 0 ∨ 63 < (n : Int)) := by omega
  simp [valF, shiftF, h, e]

theorem small_mul {a b : Int} (h1 : -1073741824 < a) (h2 : a < 1073741824) (h3 : -1073741824 < b) (h4 : b < 1073741824) : Rg (a * b) := by
  have h : (a * b).natAbs = a.natAbs * b.natAbs := Int.natAbs_mul a b
  have h5 : a.natAbs * b.natAbs ≤ 1073741824 * 1073741824 := Nat.mul_le_mul (by omega) (by omega)
  unfold Rg; omega
theorem small_shl {a : Int} {n : Nat} (h1 : -1073741824 < a) (h2 : a < 1073741824) (h3 : n < 33) : Rg (a * 2 ^ n) := by
  have h : (a * 2 ^ n).natAbs = a.natAbs * 2 ^ n := by
    rw [Int.natAbs_mul, Int.natAbs_pow]; rfl
  have h6 : 2 ^ n ≤ 2 ^ 32 := Nat.pow_le_pow_right (by omega) (by omega)
  have h5 : a.natAbs * 2 ^ n ≤ 1073741824 * 4294967296 := Nat.mul_le_mul (by omega) h6
  unfold Rg; omega

theorem LBoundExact.law (xs : List AV) (h : IsTs Tryd.prog [2, 2, 3] xs) : ∃ k, alembiclaw18_BoundExact.f (sentG 154 [2, 1, 0, 3, 4, 5]) k xs [] = some (.bool true, []) := by
  obtain ⟨x1, _, rfl, hx1, h⟩ := h.uncons
  obtain ⟨x2, _, rfl, hx2, h⟩ := h.uncons
  obtain ⟨x3, _, rfl, hx3, h⟩ := h.uncons
  obtain rfl := h.unnil
  obtain ⟨a, rfl, ha⟩ := hx1.of_int (k := .i64) Tryd.underlying2
  obtain ⟨b, rfl, hb⟩ := hx2.of_int (k := .i64) Tryd.underlying2
  obtain ⟨n, rfl, hn⟩ := hx3.of_int (k := .i64) Tryd.underlying3
  replace ha := wf_i64 ha
  replace hb := wf_i64 hb
  replace hn := wf_i64 hn
  clear h hx1 hx2 hx3
  refine ⟨8001, ?_⟩
  generalize sentG 154 [2, 1, 0, 3, 4, 5] = G
  have rf : ∀ H, pureCall (alembiclaw18_first.f G 8000) [] H = _ := fun H => pureCall_of (H := H) (first18 G 7940) rfl rfl
  have rn : ∀ H, pureCall (alembicworld_Number.f G 8000) [I6 n, .int .i64 64] H = _ := fun H => pureCall_of (H := H) (number G 7999 n 64 (by omega) (by omega) hn.1 hn.2) rfl rfl
  obtain ⟨p, hp⟩ : ∃ p : Nat, n % 64 = (p : Int) := ⟨(n % 64).toNat, by omega⟩
  have hp2 : p ≤ 63 := by omega
  rw [hp] at rn
  have q1 : ∀ H, pureCall (bound_Exact.f G 8000) [.agg [.int .i64 9, .int .i64 0, .int .i64 0, .int .i64 0, .int .i64 0, .int .i64 0], .int .u64 1, .int .u64 2] H = _ := fun H => pureCall_of (H := H) (r := .tup [.int .i64 0, .bool false]) (show bound_Exact.f G (7990 + 10) _ _ = _ by generalize 7990 = k; kernel_rfl) rfl rfl
  have q2 : ∀ H, pureCall (bound_Exact.f G 8000) [.agg [.int .i64 10, .int .i64 0, .int .i64 0, .int .i64 0, .int .i64 0, .int .i64 64], .int .u64 1, .int .u64 0] H = _ := fun H => pureCall_of (H := H) (r := .tup [.int .i64 0, .bool false]) (show bound_Exact.f G (7990 + 10) _ _ = _ by generalize 7990 = k; kernel_rfl) rfl rfl
  have q3 : ∀ H, pureCall (bound_Exact.f G 8000) [.agg [.int .i64 3, .int .i64 0, .int .i64 0, .int .i64 0, .int .i64 0, .int .i64 0], .int .u64 9223372036854775807, .int .u64 1] H = _ := fun H => pureCall_of (H := H) (r := .tup [.int .i64 0, .bool false]) (show bound_Exact.f G (7990 + 10) _ _ = _ by generalize 7990 = k; kernel_rfl) rfl rfl
  have q4 : ∀ H, pureCall (bound_Exact.f G 8000) [.agg [.int .i64 4, .int .i64 0, .int .i64 0, .int .i64 0, .int .i64 0, .int .i64 0], .int .u64 9223372036854775808, .int .u64 1] H = _ := fun H => pureCall_of (H := H) (r := .tup [.int .i64 0, .bool false]) (show bound_Exact.f G (7990 + 10) _ _ = _ by generalize 7990 = k; kernel_rfl) rfl rfl
  have lp : loopN (alembiclaw18_BoundExact.l7 G 8000 0 (alembiclaw18_BoundExact.f G 8000)) (7995 + 5) (xsE a b p 0 (.bool false)) [] = some (.exit 0, xsE a b p 4 .undef, []) := by
    rw [be_round G 7997 _ a b p ha hb hp2 3 0 0 (by omega) (by omega) (by omega) (by omega) rfl _ (val_add a b) (fun _ => rfl) (fun _ _ _ _ _ => by show Rg (a + b); unfold Rg; omega) _ _ rfl []]
    rw [show (0 : Int) + 1 = 1 from rfl, be_round G 7997 _ a b p ha hb hp2 4 0 1 (by omega) (by omega) (by omega) (by omega) rfl _ (val_sub a b) (fun _ => rfl) (fun _ _ _ _ _ => by show Rg (a - b); unfold Rg; omega) _ _ rfl]
    rw [show (1 : Int) + 1 = 2 from rfl, be_round G 7997 _ a b p ha hb hp2 5 0 2 (by omega) (by omega) (by omega) (by omega) rfl _ (val_mul a b) (fun _ => rfl) (fun h1 h2 h3 h4 _ => small_mul h1 h2 h3 h4) _ _ rfl]
    rw [show (2 : Int) + 1 = 3 from rfl, be_round G 7997 _ a b p ha hb hp2 10 p 3 (by omega) (by omega) (by omega) (by omega) rfl _ (val_shl a p hp2 _) (fun _ => rfl) (fun h1 h2 _ _ h5 => small_shl h1 h2 (by omega)) _ _ rfl]
    rw [show (3 : Int) + 1 = 4 from rfl, loopN_succ, alembiclaw18_BoundExact.l7]
    have hc : ∀ H, cutH 0 (xsE a b p 4 .undef) H = some [] := fun H => by simp [cutH, belowL, belowB, heapBelow]
    refine e_id ?_
    refine eC (hc _) ?_
    repeat' first
      | (with_reducible refine eT ?_)
      | (with_reducible refine eN ?_)
      | (with_reducible refine eS ?_)
      | (with_reducible refine eXn ?_)
      | (with_reducible refine eXr ?_)
      | (with_reducible refine eX ?_)
      | (with_reducible refine eI ?_)
      | (with_reducible refine eK ?_)
      | (with_reducible refine eV0 ?_)
      | (with_reducible refine eGtt ?_)
      | (with_reducible refine eGff ?_)
      | (with_reducible refine eGtf ?_)
      | (with_reducible refine eGft ?_)
      | (with_reducible refine eGno ?_)
      | ((with_reducible apply eCn); (simp only [nth_zero, nth_succ]; done))
      | ((with_reducible apply eCn); (simp only [nth_zero, nth_succ]; (with_reducible exact rfl)))
      | ((with_reducible apply eJ); (rfl))
      | ((with_reducible apply eB); (first | (with_reducible exact rfl) | (simp (disch := omega) only [pu_val, nth_zero, nth_succ, gd_tt, gd_ff, gd_tf, gd_ft, gd_no, pickA_true, pickA_false, q_notT, q_notF, q_eql_t, q_eql_f, q_neq_t, q_neq_f, q_lss_t, q_lss_f, q_leq_t, q_leq_f, q_gtr_t, q_gtr_f, q_geq_t, q_geq_f, q_add, q_sub, q_addU, q_cvI, q_cvU, q_cv8, q_cv32, q_idxSl, q_lenRo, q_lenSl, q_lenNil, q_nilp, q_nilrp, q_nilfn, q_nilgl, q_fap, q_farp, q_ldrp, q_boxAgg, q_ext0, q_ext1, q_ext2, List.getElem?_cons_zero, List.getElem?_cons_succ, List.getElem?_nil, q_stS, q_ldp0, q_ldpS, q_ldB, q_ldBT, q_ldrpT, q_ldBi, q_ldBb, q_boxA, q_boxI, q_boxB, List.length_cons, List.length_nil, List.cons_append, List.nil_append, List.drop_zero, List.drop_succ_cons, List.take_succ_cons, List.take_zero, q_stp0, q_stpS, q_stB, Option.map_some, putC, AV.cells, storable, buildSt, fillA, buildRo, buildOwn, fillE, List.replicate_succ, List.replicate_zero, List.set_cons_zero, List.set_cons_succ, Nat.reduceLeDiff, Nat.reduceLT, Nat.le_refl, and_self, true_and, and_true, ↓reduceIte, if_true, Bool.not_true, Bool.not_false, Int.toNat_natCast, Nat.zero_add, Nat.reduceAdd]; first | done | (with_reducible exact rfl) | (with_reducible exact ⟨rfl, rfl⟩))))
      | ((with_reducible apply eR); (simp only [nth_zero, nth_succ]; (with_reducible exact rfl)))
      | ((with_reducible refine sEql (fun hq => ?_) (fun hq => ?_)) <;> try subst hq)
      | ((with_reducible refine sNeq (fun hq => ?_) (fun hq => ?_)) <;> try subst hq)
      | ((with_reducible refine sLss (fun hq => ?_) (fun hq => ?_)) <;> try subst hq)
      | ((with_reducible refine sLeq (fun hq => ?_) (fun hq => ?_)) <;> try subst hq)
      | ((with_reducible refine sGtr (fun hq => ?_) (fun hq => ?_)) <;> try subst hq)
      | ((with_reducible refine sGeq (fun hq => ?_) (fun hq => ?_)) <;> try subst hq)
      | ((with_reducible refine sNot (fun hq => ?_) (fun hq => ?_)) <;> try subst hq)
      | ((with_reducible refine sPick (fun hq => ?_) (fun hq => ?_)) <;> try subst hq)
      | ((with_reducible refine sGd (fun hq => ?_) (fun hq => ?_)) <;> try subst hq)
      | ((with_reducible refine eBool (fun hq => ?_) (fun hq => ?_)) <;> try subst hq)
    refine e_out ?_; rfl
  rw [alembiclaw18_BoundExact.step]
  unfold alembiclaw18_BoundExact.c
  refine e_in ?_
  repeat' first
    | (with_reducible refine eT ?_)
    | (with_reducible refine eN ?_)
    | (with_reducible refine eS ?_)
    | (with_reducible refine eXn ?_)
    | (with_reducible refine eXr ?_)
    | (with_reducible refine eX ?_)
    | (with_reducible refine eI ?_)
    | (with_reducible refine eK ?_)
    | (with_reducible refine eV0 ?_)
    | (with_reducible refine eGtt ?_)
    | (with_reducible refine eGff ?_)
    | (with_reducible refine eGtf ?_)
    | (with_reducible refine eGft ?_)
    | (with_reducible refine eGno ?_)
    | ((with_reducible apply eCn); (simp only [nth_zero, nth_succ]; done))
    | ((with_reducible apply eCn); (simp only [nth_zero, nth_succ]; (with_reducible exact rfl)))
    | ((with_reducible apply eJ); (rfl))
    | ((with_reducible apply eL); (first | exact lp))
    | ((with_reducible apply eB); (first | (with_reducible exact rfl) | (simp (disch := omega) only [pu_val, nth_zero, nth_succ, gd_tt, gd_ff, gd_tf, gd_ft, gd_no, rf, rn, q1, q2, q3, q4]; first | done | (with_reducible exact rfl) | (with_reducible exact ⟨rfl, rfl⟩)) | (simp (disch := omega) only [pu_val, nth_zero, nth_succ, gd_tt, gd_ff, gd_tf, gd_ft, gd_no, pickA_true, pickA_false, q_notT, q_notF, q_eql_t, q_eql_f, q_neq_t, q_neq_f, q_lss_t, q_lss_f, q_leq_t, q_leq_f, q_gtr_t, q_gtr_f, q_geq_t, q_geq_f, q_add, q_sub, q_addU, q_cvI, q_cvU, q_cv8, q_cv32, q_idxSl, q_lenRo, q_lenSl, q_lenNil, q_nilp, q_nilrp, q_nilfn, q_nilgl, q_fap, q_farp, q_ldrp, q_boxAgg, q_ext0, q_ext1, q_ext2, List.getElem?_cons_zero, List.getElem?_cons_succ, List.getElem?_nil, q_stS, q_ldp0, q_ldpS, q_ldB, q_ldBT, q_ldrpT, q_ldBi, q_ldBb, q_boxA, q_boxI, q_boxB, List.length_cons, List.length_nil, List.cons_append, List.nil_append, List.drop_zero, List.drop_succ_cons, List.take_succ_cons, List.take_zero, q_stp0, q_stpS, q_stB, Option.map_some, putC, AV.cells, storable, buildSt, fillA, buildRo, buildOwn, fillE, List.replicate_succ, List.replicate_zero, List.set_cons_zero, List.set_cons_succ, Nat.reduceLeDiff, Nat.reduceLT, Nat.le_refl, and_self, true_and, and_true, ↓reduceIte, if_true, Bool.not_true, Bool.not_false, Int.toNat_natCast, Nat.zero_add, Nat.reduceAdd, rf, rn, q1, q2, q3, q4]; first | done | (with_reducible exact rfl) | (with_reducible exact ⟨rfl, rfl⟩))))
    | ((with_reducible apply eR); (simp only [nth_zero, nth_succ]; (with_reducible exact rfl)))
    | ((with_reducible refine sEql (fun hq => ?_) (fun hq => ?_)) <;> try subst hq)
    | ((with_reducible refine sNeq (fun hq => ?_) (fun hq => ?_)) <;> try subst hq)
    | ((with_reducible refine sLss (fun hq => ?_) (fun hq => ?_)) <;> try subst hq)
    | ((with_reducible refine sLeq (fun hq => ?_) (fun hq => ?_)) <;> try subst hq)
    | ((with_reducible refine sGtr (fun hq => ?_) (fun hq => ?_)) <;> try subst hq)
    | ((with_reducible refine sGeq (fun hq => ?_) (fun hq => ?_)) <;> try subst hq)
    | ((with_reducible refine sNot (fun hq => ?_) (fun hq => ?_)) <;> try subst hq)
    | ((with_reducible refine sPick (fun hq => ?_) (fun hq => ?_)) <;> try subst hq)
    | ((with_reducible refine sGd (fun hq => ?_) (fun hq => ?_)) <;> try subst hq)
    | ((with_reducible refine eBool (fun hq => ?_) (fun hq => ?_)) <;> try subst hq)
  exact w1b rfl
end Go.Proofs.YtcmblhedhgiofaaDoor
