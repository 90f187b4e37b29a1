/- The law of WordsFaults, in plain Lean. -/
import Derived.Test.YtcmblhedhgiofaaDoorWo
namespace Go.Proofs.YtcmblhedhgiofaaDoor
open Go Mir
set_option linter.unusedVariables false
set_option linter.unusedSimpArgs false
set_option maxHeartbeats 8000000
set_option maxRecDepth 20000

theorem first17 (G : Globs) (k : Nat) : alembiclaw17_first.f G (k + 60) [] [] = some (.bool true, []) := by kernel_rfl

theorem number (G : Globs) (k : Nat) (n m : Int) (h0 : 0 < m) (h1 : m < 9223372036854775808) (hn : -9223372036854775808 ≤ n) (hn' : n < 9223372036854775808) :
    alembicworld_Number.f G (k + 1) [.int .i64 n, .int .i64 m] [] = some (.int .i64 (n % m), []) := by
  rw [alembicworld_Number.step]
  unfold alembicworld_Number.c
  rw [bin_rem _ _ _ _ _ _ (by omega)]
  have hlt := Int.tmod_lt_of_pos n h0
  have hgt : -m < n.tmod m := by have := Int.tmod_lt_of_pos (-n) h0; rw [Int.neg_tmod] at this; omega
  have hm : n.tmod m % m = n % m := by
    rw [Int.tmod_eq_emod]; split
    · simp
    · have e : (m.natAbs : Int) = m := by omega
      simp [e]
  by_cases h : n.tmod m < 0
  · simp only [pu_val, bnd_some, bin_lss, h, decide_true, condA_true, bin_add, List.length_nil, finV_int, outV_ret]
    rw [wrap_of_i64 (by omega) (by omega)]
    congr 3
    rw [← hm, ← Int.add_emod_right]
    exact (Int.emod_eq_of_lt (by omega) (by omega)).symm
  · simp only [pu_val, bnd_some, bin_lss, h, decide_false, condA_false, List.length_nil, finV_int, outV_ret]
    congr 3
    rw [← hm]
    exact (Int.emod_eq_of_lt (by omega) (by omega)).symm

abbrev GF : Globs := sentG 154 [2, 1, 0, 3, 4, 5]
theorem GF_ok : GOk GF := ⟨rfl, rfl, rfl, rfl, rfl, rfl⟩

def iF (ld : Bool) : Ins := if ld = true then ⟨15, 1, 0, 0, 0, 3⟩ else ⟨16, 0, 0, 1, 0, 3⟩
def csF (a : Nat) (ld : Bool) : List Ins := [⟨1, 1, 0, 0, 0, 77⟩, ⟨16, 0, 0, 1, 0, 0⟩, ⟨1, 0, 0, 0, 0, s64 a⟩, iF ld, ⟨17, 0, 0, 0, 0, 5⟩]

theorem csF_valid (a m : Nat) (ld : Bool) (hm : m ≤ 50) : validF (csF a ld) 2 m = .ok := by
  refine validF_is (by simp [csF]) (by omega) ?_
  have hl : ((csF a ld).length : Int) = 5 := rfl
  rw [hl]
  unfold csF
  cases ld <;> (
    refine badF_cons (oneF_of (by simp [oneK, out4, off5, outR, frmD, formF, kindF]) (by simp)) ?_
    refine badF_cons (oneF_of (by simp [oneK, out4, off5, outR, frmD, formF, kindF, inK]) (by simp)) ?_
    refine badF_cons (oneF_of (by simp [oneK, out4, off5, outR, frmD, formF, kindF]) (by simp)) ?_
    refine badF_cons (oneF_of (by simp [iF, oneK, out4, off5, outR, frmD, formF, kindF, inK]) (by simp [iF])) ?_
    refine badF_cons (oneF_of (by simp [oneK, out4, off5, outR, frmD, formF, kindF, inK]) (by simp)) ?_
    exact badF_nil _ _ _)

def mem1 (m : Nat) : List Nat := (List.replicate m 0).set 0 77
theorem mem1_len (m : Nat) : (mem1 m).length = m := by simp [mem1]

/-- How it ends. -/
def sF (a m : Nat) (ld : Bool) : MS :=
  if m ≤ (a + 3) % 18446744073709551616 then ⟨[a, 77], 4, 3, mem1 m, [(1, 0), (1, 1), (3, 0), (1, 2), (1, 3), (3, s64 ((a + 3) % 18446744073709551616))], 4⟩
  else ⟨if ld = true then [a, (mem1 m).getD ((a + 3) % 18446744073709551616) 0] else [a, 77], 5, 3, if ld = true then mem1 m else (mem1 m).set ((a + 3) % 18446744073709551616) 77,
    [(1, 0), (1, 1), (3, 0), (1, 2), (1, 3), (3, s64 ((a + 3) % 18446744073709551616)), (1, 4)], 5⟩

theorem runF (a m : Nat) (ld : Bool) (ha : a < 18446744073709551616) (hm1 : 1 ≤ m) (hm : m ≤ 50) (f : Nat) : runM (csF a ld) 100 (f + 6) (s0 2 (List.replicate m 0)) = some (sF a m ld) := by
  rw [runM_go (i := ⟨1, 1, 0, 0, 0, 77⟩) (s2 := ⟨[0, 77], 1, 0, List.replicate m 0, [(1, 0)], 1⟩) (by simp [s0, csF]) (by simp [s0]) rfl rfl]
  rw [runM_go (i := ⟨16, 0, 0, 1, 0, 0⟩) (s2 := ⟨[0, 77], 2, 0, mem1 m, [(1, 0), (1, 1), (3, 0)], 2⟩) (by simp [csF]) (by simp) rfl (by
    have e : u64 0 = 0 := rfl
    have e2 : s64 0 = 0 := rfl
    have h0 : m ≠ 0 := by omega
    simp [MS.step, MS.touch, MS.tick, MS.leak, MS.rg, e, e2, h0, mem1])]
  have e3 : u64 (s64 a) = a := u64_s64 a ha
  rw [runM_go (i := ⟨1, 0, 0, 0, 0, s64 a⟩) (s2 := ⟨[a, 77], 3, 0, mem1 m, [(1, 0), (1, 1), (3, 0), (1, 2)], 3⟩) (by simp [csF]) (by simp) rfl (by
    simp [MS.step, MS.tick, MS.leak, MS.rg, MS.set, valF, e3])]
  have e4 : u64 3 = 3 := rfl
  have hl := mem1_len m
  by_cases h : m ≤ (a + 3) % 18446744073709551616
  · have e : sF a m ld = ⟨[a, 77], 4, 3, mem1 m, [(1, 0), (1, 1), (3, 0), (1, 2), (1, 3), (3, s64 ((a + 3) % 18446744073709551616))], 4⟩ := by unfold sF; rw [if_pos h]
    rw [e]
    rw [runM_end (i := iF ld) (s2 := ⟨[a, 77], 4, 3, mem1 m, [(1, 0), (1, 1), (3, 0), (1, 2), (1, 3), (3, s64 ((a + 3) % 18446744073709551616))], 4⟩) (by simp [csF]) (by simp) rfl (by
      cases ld <;> simp [iF, MS.step, MS.touch, MS.tick, MS.leak, MS.rg, e4, hl, h])]
  · have e : sF a m ld = ⟨if ld = true then [a, (mem1 m).getD ((a + 3) % 18446744073709551616) 0] else [a, 77], 5, 3, if ld = true then mem1 m else (mem1 m).set ((a + 3) % 18446744073709551616) 77,
      [(1, 0), (1, 1), (3, 0), (1, 2), (1, 3), (3, s64 ((a + 3) % 18446744073709551616)), (1, 4)], 5⟩ := by unfold sF; rw [if_neg h]
    rw [e]
    rw [runM_go (i := iF ld) (s2 := ⟨if ld = true then [a, (mem1 m).getD ((a + 3) % 18446744073709551616) 0] else [a, 77], 4, 0, if ld = true then mem1 m else (mem1 m).set ((a + 3) % 18446744073709551616) 77,
      [(1, 0), (1, 1), (3, 0), (1, 2), (1, 3), (3, s64 ((a + 3) % 18446744073709551616))], 4⟩) (by simp [csF]) (by simp) rfl (by
      cases ld <;> simp [iF, MS.step, MS.touch, MS.tick, MS.leak, MS.rg, MS.set, e4, hl, h])]
    rw [runM_go (i := ⟨17, 0, 0, 0, 0, 5⟩) (s2 := ⟨if ld = true then [a, (mem1 m).getD ((a + 3) % 18446744073709551616) 0] else [a, 77], 5, 0, if ld = true then mem1 m else (mem1 m).set ((a + 3) % 18446744073709551616) 77,
      [(1, 0), (1, 1), (3, 0), (1, 2), (1, 3), (3, s64 ((a + 3) % 18446744073709551616)), (1, 4)], 5⟩) (by simp [csF]) (by simp) rfl (by
      simp [MS.step, MS.branch, MS.tick, MS.leak])]
    rw [runM_out (by simp [csF])]

/-- What the first word is. -/
theorem sF_mem (a m : Nat) (ld : Bool) (hm1 : 1 ≤ m) : (sF a m ld).mem.length = m ∧ ((sF a m ld).mem.getD 0 0 = 77 ∨ ¬ m ≤ (a + 3) % 18446744073709551616 ∧ ld = false ∧ (a + 3) % 18446744073709551616 = 0) := by
  have h0 : (mem1 m).getD 0 0 = 77 := by
    unfold mem1
    have : 0 < m := by omega
    simp [List.getD, this]
  have hl := mem1_len m
  unfold sF
  split
  · exact ⟨hl, .inl h0⟩
  · rename_i h
    cases ld
    · simp only [Bool.false_eq_true, if_false]
      by_cases hz : (a + 3) % 18446744073709551616 = 0
      · exact ⟨by simp [hl], .inr ⟨h, trivial, hz⟩⟩
      · refine ⟨by simp [hl], .inl ?_⟩
        rw [List.getD_eq_getElem?_getD] at h0 ⊢
        rw [List.getElem?_set_ne hz]
        exact h0
    · simp only [if_true]
      exact ⟨hl, .inl h0⟩
theorem sF_rest (a m : Nat) (ld : Bool) : (sF a m ld).code = 3 ∧ (sF a m ld).steps = (if m ≤ (a + 3) % 18446744073709551616 then 4 else 5) := by
  unfold sF; split <;> exact ⟨rfl, rfl⟩

theorem LWordsFaults.law (xs : List AV) (h : IsTs Tryd.prog [48, 3, 4] xs) : ∃ k, alembiclaw17_WordsFaults.f (sentG 154 [2, 1, 0, 3, 4, 5]) k xs [] = some (.bool true, []) := by
  obtain ⟨x1, _, rfl, hx1, h⟩ := h.uncons
  obtain ⟨x2, _, rfl, hx2, h⟩ := h.uncons
  obtain ⟨x3, _, rfl, hx3, h⟩ := h.uncons
  obtain rfl := h.unnil
  obtain ⟨a, rfl, ha⟩ := hx1.of_int (k := .u64) Tryd.underlying48
  obtain ⟨n, rfl, hn⟩ := hx2.of_int (k := .i64) Tryd.underlying3
  obtain ⟨ld, rfl⟩ := hx3.of_bool Tryd.underlying4
  replace ha := wf_u64 ha
  replace hn := wf_i64 hn
  clear h hx1 hx2 hx3
  obtain ⟨a, rfl⟩ : ∃ m : Nat, a = (m : Int) := ⟨a.toNat, by omega⟩
  have ha' : a < 18446744073709551616 := by omega
  refine ⟨8001, ?_⟩
  change alembiclaw17_WordsFaults.f GF 8001 _ _ = _
  have rf : ∀ H, pureCall (alembiclaw17_first.f GF 8000) [] H = _ := fun H => pureCall_of (H := H) (first17 GF 7940) rfl rfl
  have rn : ∀ H, pureCall (alembicworld_Number.f GF 8000) [I6 n, .int .i64 50] H = _ := fun H => pureCall_of (H := H) (number GF 7999 n 50 (by omega) (by omega) hn.1 hn.2) rfl rfl
  obtain ⟨p, hp⟩ : ∃ p : Nat, n % 50 = (p : Int) := ⟨(n % 50).toNat, by omega⟩
  have hp2 : p < 50 := by omega
  rw [hp] at rn
  have q1 : bin Tryd.prog .add 3 true (Nn p) (.int .i64 1) = some (Nn (p + 1)) := by
    rw [bin_add, wrap_of_i64 (by omega) (by omega)]; congr 2
  have c1 : convInt .i64 (Un a) = some (I6 (s64 a)) := conv_i64 a ha'
  have c2 : convInt .u64 (Nn (p + 1)) = some (Un (p + 1)) := by rw [conv_u64, u64_nat _ (by omega)]
  have q2 : bin Tryd.prog .add 48 true (Un a) (.int .u64 3) = some (Un ((a + 3) % 18446744073709551616)) := u64_add Tryd.prog 48 true a 3
  have hv := csF_valid a (p + 1) ld (by omega)
  have hgv : givenF ((p + 1 : Nat) : Int) (List.replicate (p + 1) 0).length 100 = .ok := givenF_ok (by simp) (by omega) (by omega)
  have hr := Run_at (bor := false) GF GF_ok 7991 (csF a ld) 2 ((p + 1 : Nat) : Int) true (List.replicate (p + 1) 0) 100 (by simp [csF]) (by simp [csF]) hv hgv (fun x hx => by simp at hx; omega) (by omega) (by omega) (sF a (p + 1) ld) (runF a (p + 1) ld ha' (by omega) (by omega) 7992)
  have sm := sF_mem a (p + 1) ld (by omega)
  have sr := sF_rest a (p + 1) ld
  have hB : ∀ b0 b1 : ABlk, makeSliceV 48 1 (.int .u64 0) (Nn (p + 1)) (Nn (p + 1)) [b0, b1] = some (.sl 2 (p + 1) 0 (p + 1) 1, [b0, b1, ⟨48, 1, natsU (List.replicate (p + 1) 0)⟩]) := fun b0 b1 => by
    unfold makeSliceV
    have : (0 : Int) ≤ ((p + 1 : Nat) : Int) ∧ ((p + 1 : Nat) : Int) ≤ ((p + 1 : Nat) : Int) ∧ ((p + 1 : Nat) : Int) ≤ 1099511627776 := by omega
    simp only [this, and_self, if_true, Int.toNat_natCast, natsU, List.map_replicate]
    rfl
  have rr : ∀ b0 b1 : ABlk, pureCall (words_Run.f GF 8000) [cdV false (csF a ld) 2 ((p + 1 : Nat) : Int), .sl 2 (p + 1) 0 (p + 1) 1, .int .i64 100] [b0, b1, ⟨48, 1, natsU (List.replicate (p + 1) 0)⟩] = some (.tup [endV (sF a (p + 1) ld), .nili], [b0, b1, ⟨48, 1, natsU (List.replicate (p + 1) 0)⟩]) := fun b0 b1 =>
    pureCall_at (snapL_c (snap_plain (by simp [plainB, plainL, plainC, cdV])) (snapL_c (snap_own rfl (by simp [natsU_len]) (allSz_U _) (plainU _)) (snapL_c (snap_plain rfl) snapL_n))) hr (by simp [cleanB, cleanL, endV_clean])
  have d0 : idxAddrSl 1 (.ro false (natsU (sF a (p + 1) ld).mem)) (.int .i64 0) = some (.rp false (Un ((sF a (p + 1) ld).mem.getD 0 0)) 0) :=
    idxRo1 (j := 0) (natsU_get _ 0 (by rw [sm.1]; omega)) rfl
  have l0 : ∀ w H, loadV GF false 1 (.rp false (Un w) 0) H = some (Un w) := fun w H => rfl
  have lm : lenSl (.ro false (natsU (sF a (p + 1) ld).mem)) = some (Nn (p + 1)) := by simp [lenSl, natsU_len, sm.1]
  have eqn : bin Tryd.prog .eql 35 true .nili .nili = some (.bool true) := by kernel_rfl
  unfold endV at rr
  rw [sr.1, sr.2] at rr
  obtain ⟨_, sm⟩ := sm
  clear hr hv hgv sr hp
  generalize (sF a (p + 1) ld).mem.getD 0 0 = w at *
  generalize natsU (sF a (p + 1) ld).mem = mm at *
  generalize leaksV (sF a (p + 1) ld).leaks = ll at *
  generalize hb : natsU (List.replicate (p + 1) 0) = bb at *
  unfold cdV csF codeV at rr
  rw [alembiclaw17_WordsFaults.step]
  unfold alembiclaw17_WordsFaults.c
  refine e_in ?_
  generalize s64 a = sa at *
  generalize (a + 3) % 18446744073709551616 = ad at *
  cases ld
  · simp only [true_and] at sm
    simp only [iF, List.map, Ins.v, instV, Bool.false_eq_true, if_false] at rr
    by_cases hfar : p + 1 ≤ ad
    · rw [if_pos hfar] at rr
      repeat' first
        | (with_reducible refine eT ?_)
        | (with_reducible refine eN ?_)
        | (with_reducible refine eS ?_)
        | (with_reducible refine eXn ?_)
        | (with_reducible refine eXr ?_)
        | (with_reducible refine eX ?_)
        | (with_reducible refine eI ?_)
        | (with_reducible refine eK ?_)
        | (with_reducible refine eV0 ?_)
        | (with_reducible refine eGtt ?_)
        | (with_reducible refine eGff ?_)
        | (with_reducible refine eGtf ?_)
        | (with_reducible refine eGft ?_)
        | (with_reducible refine eGno ?_)
        | ((with_reducible apply eCn); (simp only [nth_zero, nth_succ]; done))
        | ((with_reducible apply eCn); (simp only [nth_zero, nth_succ]; (with_reducible exact rfl)))
        | ((with_reducible apply eJ); (rfl))
        | ((with_reducible apply eB); (first | (with_reducible exact rfl) | (simp (disch := omega) only [pu_val, nth_zero, nth_succ, gd_tt, gd_ff, gd_tf, gd_ft, gd_no, rf, rn, q1, q2, c1, c2, hB, rr, d0, l0, lm, eqn]; first | done | (with_reducible exact rfl) | (with_reducible exact ⟨rfl, rfl⟩)) | (simp (disch := omega) only [pu_val, nth_zero, nth_succ, gd_tt, gd_ff, gd_tf, gd_ft, gd_no, pickA_true, pickA_false, q_notT, q_notF, q_eql_t, q_eql_f, q_neq_t, q_neq_f, q_lss_t, q_lss_f, q_leq_t, q_leq_f, q_gtr_t, q_gtr_f, q_geq_t, q_geq_f, q_add, q_sub, q_addU, q_cvI, q_cvU, q_cv8, q_cv32, q_idxSl, q_lenRo, q_lenSl, q_lenNil, q_nilp, q_nilrp, q_nilfn, q_nilgl, q_fap, q_farp, q_ldrp, q_boxAgg, q_ext0, q_ext1, q_ext2, List.getElem?_cons_zero, List.getElem?_cons_succ, List.getElem?_nil, q_stS, q_ldp0, q_ldpS, q_ldB, q_ldBT, q_ldrpT, q_ldBi, q_ldBb, q_boxA, q_boxI, q_boxB, List.length_cons, List.length_nil, List.cons_append, List.nil_append, List.drop_zero, List.drop_succ_cons, List.take_succ_cons, List.take_zero, q_stp0, q_stpS, q_stB, Option.map_some, putC, AV.cells, storable, buildSt, fillA, buildRo, buildOwn, fillE, List.replicate_succ, List.replicate_zero, List.set_cons_zero, List.set_cons_succ, Nat.reduceLeDiff, Nat.reduceLT, Nat.le_refl, and_self, true_and, and_true, ↓reduceIte, if_true, Bool.not_true, Bool.not_false, Int.toNat_natCast, Nat.zero_add, Nat.reduceAdd, rf, rn, q1, q2, c1, c2, hB, rr, d0, l0, lm, eqn]; first | done | (with_reducible exact rfl) | (with_reducible exact ⟨rfl, rfl⟩))))
        | ((with_reducible apply eR); (simp only [nth_zero, nth_succ]; (with_reducible exact rfl)))
        | ((with_reducible refine sEql (fun hq => ?_) (fun hq => ?_)) <;> try subst hq)
        | ((with_reducible refine sNeq (fun hq => ?_) (fun hq => ?_)) <;> try subst hq)
        | ((with_reducible refine sLss (fun hq => ?_) (fun hq => ?_)) <;> try subst hq)
        | ((with_reducible refine sLeq (fun hq => ?_) (fun hq => ?_)) <;> try subst hq)
        | ((with_reducible refine sGtr (fun hq => ?_) (fun hq => ?_)) <;> try subst hq)
        | ((with_reducible refine sGeq (fun hq => ?_) (fun hq => ?_)) <;> try subst hq)
        | ((with_reducible refine sNot (fun hq => ?_) (fun hq => ?_)) <;> try subst hq)
        | ((with_reducible refine sPick (fun hq => ?_) (fun hq => ?_)) <;> try subst hq)
        | ((with_reducible refine sGd (fun hq => ?_) (fun hq => ?_)) <;> try subst hq)
        | ((with_reducible refine eBool (fun hq => ?_) (fun hq => ?_)) <;> try subst hq)
      all_goals first | omega | exact w1b rfl
    · rw [if_neg hfar] at rr
      repeat' first
        | (with_reducible refine eT ?_)
        | (with_reducible refine eN ?_)
        | (with_reducible refine eS ?_)
        | (with_reducible refine eXn ?_)
        | (with_reducible refine eXr ?_)
        | (with_reducible refine eX ?_)
        | (with_reducible refine eI ?_)
        | (with_reducible refine eK ?_)
        | (with_reducible refine eV0 ?_)
        | (with_reducible refine eGtt ?_)
        | (with_reducible refine eGff ?_)
        | (with_reducible refine eGtf ?_)
        | (with_reducible refine eGft ?_)
        | (with_reducible refine eGno ?_)
        | ((with_reducible apply eCn); (simp only [nth_zero, nth_succ]; done))
        | ((with_reducible apply eCn); (simp only [nth_zero, nth_succ]; (with_reducible exact rfl)))
        | ((with_reducible apply eJ); (rfl))
        | ((with_reducible apply eB); (first | (with_reducible exact rfl) | (simp (disch := omega) only [pu_val, nth_zero, nth_succ, gd_tt, gd_ff, gd_tf, gd_ft, gd_no, rf, rn, q1, q2, c1, c2, hB, rr, d0, l0, lm, eqn]; first | done | (with_reducible exact rfl) | (with_reducible exact ⟨rfl, rfl⟩)) | (simp (disch := omega) only [pu_val, nth_zero, nth_succ, gd_tt, gd_ff, gd_tf, gd_ft, gd_no, pickA_true, pickA_false, q_notT, q_notF, q_eql_t, q_eql_f, q_neq_t, q_neq_f, q_lss_t, q_lss_f, q_leq_t, q_leq_f, q_gtr_t, q_gtr_f, q_geq_t, q_geq_f, q_add, q_sub, q_addU, q_cvI, q_cvU, q_cv8, q_cv32, q_idxSl, q_lenRo, q_lenSl, q_lenNil, q_nilp, q_nilrp, q_nilfn, q_nilgl, q_fap, q_farp, q_ldrp, q_boxAgg, q_ext0, q_ext1, q_ext2, List.getElem?_cons_zero, List.getElem?_cons_succ, List.getElem?_nil, q_stS, q_ldp0, q_ldpS, q_ldB, q_ldBT, q_ldrpT, q_ldBi, q_ldBb, q_boxA, q_boxI, q_boxB, List.length_cons, List.length_nil, List.cons_append, List.nil_append, List.drop_zero, List.drop_succ_cons, List.take_succ_cons, List.take_zero, q_stp0, q_stpS, q_stB, Option.map_some, putC, AV.cells, storable, buildSt, fillA, buildRo, buildOwn, fillE, List.replicate_succ, List.replicate_zero, List.set_cons_zero, List.set_cons_succ, Nat.reduceLeDiff, Nat.reduceLT, Nat.le_refl, and_self, true_and, and_true, ↓reduceIte, if_true, Bool.not_true, Bool.not_false, Int.toNat_natCast, Nat.zero_add, Nat.reduceAdd, rf, rn, q1, q2, c1, c2, hB, rr, d0, l0, lm, eqn]; first | done | (with_reducible exact rfl) | (with_reducible exact ⟨rfl, rfl⟩))))
        | ((with_reducible apply eR); (simp only [nth_zero, nth_succ]; (with_reducible exact rfl)))
        | ((with_reducible refine sEql (fun hq => ?_) (fun hq => ?_)) <;> try subst hq)
        | ((with_reducible refine sNeq (fun hq => ?_) (fun hq => ?_)) <;> try subst hq)
        | ((with_reducible refine sLss (fun hq => ?_) (fun hq => ?_)) <;> try subst hq)
        | ((with_reducible refine sLeq (fun hq => ?_) (fun hq => ?_)) <;> try subst hq)
        | ((with_reducible refine sGtr (fun hq => ?_) (fun hq => ?_)) <;> try subst hq)
        | ((with_reducible refine sGeq (fun hq => ?_) (fun hq => ?_)) <;> try subst hq)
        | ((with_reducible refine sNot (fun hq => ?_) (fun hq => ?_)) <;> try subst hq)
        | ((with_reducible refine sPick (fun hq => ?_) (fun hq => ?_)) <;> try subst hq)
        | ((with_reducible refine sGd (fun hq => ?_) (fun hq => ?_)) <;> try subst hq)
        | ((with_reducible refine eBool (fun hq => ?_) (fun hq => ?_)) <;> try subst hq)
      all_goals first | omega | exact w1b rfl
  · simp only [Bool.true_eq_false, false_and, and_false, or_false] at sm
    simp only [iF, List.map, Ins.v, instV, if_true] at rr
    by_cases hfar : p + 1 ≤ ad
    · rw [if_pos hfar] at rr
      repeat' first
        | (with_reducible refine eT ?_)
        | (with_reducible refine eN ?_)
        | (with_reducible refine eS ?_)
        | (with_reducible refine eXn ?_)
        | (with_reducible refine eXr ?_)
        | (with_reducible refine eX ?_)
        | (with_reducible refine eI ?_)
        | (with_reducible refine eK ?_)
        | (with_reducible refine eV0 ?_)
        | (with_reducible refine eGtt ?_)
        | (with_reducible refine eGff ?_)
        | (with_reducible refine eGtf ?_)
        | (with_reducible refine eGft ?_)
        | (with_reducible refine eGno ?_)
        | ((with_reducible apply eCn); (simp only [nth_zero, nth_succ]; done))
        | ((with_reducible apply eCn); (simp only [nth_zero, nth_succ]; (with_reducible exact rfl)))
        | ((with_reducible apply eJ); (rfl))
        | ((with_reducible apply eB); (first | (with_reducible exact rfl) | (simp (disch := omega) only [pu_val, nth_zero, nth_succ, gd_tt, gd_ff, gd_tf, gd_ft, gd_no, rf, rn, q1, q2, c1, c2, hB, rr, d0, l0, lm, eqn]; first | done | (with_reducible exact rfl) | (with_reducible exact ⟨rfl, rfl⟩)) | (simp (disch := omega) only [pu_val, nth_zero, nth_succ, gd_tt, gd_ff, gd_tf, gd_ft, gd_no, pickA_true, pickA_false, q_notT, q_notF, q_eql_t, q_eql_f, q_neq_t, q_neq_f, q_lss_t, q_lss_f, q_leq_t, q_leq_f, q_gtr_t, q_gtr_f, q_geq_t, q_geq_f, q_add, q_sub, q_addU, q_cvI, q_cvU, q_cv8, q_cv32, q_idxSl, q_lenRo, q_lenSl, q_lenNil, q_nilp, q_nilrp, q_nilfn, q_nilgl, q_fap, q_farp, q_ldrp, q_boxAgg, q_ext0, q_ext1, q_ext2, List.getElem?_cons_zero, List.getElem?_cons_succ, List.getElem?_nil, q_stS, q_ldp0, q_ldpS, q_ldB, q_ldBT, q_ldrpT, q_ldBi, q_ldBb, q_boxA, q_boxI, q_boxB, List.length_cons, List.length_nil, List.cons_append, List.nil_append, List.drop_zero, List.drop_succ_cons, List.take_succ_cons, List.take_zero, q_stp0, q_stpS, q_stB, Option.map_some, putC, AV.cells, storable, buildSt, fillA, buildRo, buildOwn, fillE, List.replicate_succ, List.replicate_zero, List.set_cons_zero, List.set_cons_succ, Nat.reduceLeDiff, Nat.reduceLT, Nat.le_refl, and_self, true_and, and_true, ↓reduceIte, if_true, Bool.not_true, Bool.not_false, Int.toNat_natCast, Nat.zero_add, Nat.reduceAdd, rf, rn, q1, q2, c1, c2, hB, rr, d0, l0, lm, eqn]; first | done | (with_reducible exact rfl) | (with_reducible exact ⟨rfl, rfl⟩))))
        | ((with_reducible apply eR); (simp only [nth_zero, nth_succ]; (with_reducible exact rfl)))
        | ((with_reducible refine sEql (fun hq => ?_) (fun hq => ?_)) <;> try subst hq)
        | ((with_reducible refine sNeq (fun hq => ?_) (fun hq => ?_)) <;> try subst hq)
        | ((with_reducible refine sLss (fun hq => ?_) (fun hq => ?_)) <;> try subst hq)
        | ((with_reducible refine sLeq (fun hq => ?_) (fun hq => ?_)) <;> try subst hq)
        | ((with_reducible refine sGtr (fun hq => ?_) (fun hq => ?_)) <;> try subst hq)
        | ((with_reducible refine sGeq (fun hq => ?_) (fun hq => ?_)) <;> try subst hq)
        | ((with_reducible refine sNot (fun hq => ?_) (fun hq => ?_)) <;> try subst hq)
        | ((with_reducible refine sPick (fun hq => ?_) (fun hq => ?_)) <;> try subst hq)
        | ((with_reducible refine sGd (fun hq => ?_) (fun hq => ?_)) <;> try subst hq)
        | ((with_reducible refine eBool (fun hq => ?_) (fun hq => ?_)) <;> try subst hq)
      all_goals first | omega | exact w1b rfl
    · rw [if_neg hfar] at rr
      repeat' first
        | (with_reducible refine eT ?_)
        | (with_reducible refine eN ?_)
        | (with_reducible refine eS ?_)
        | (with_reducible refine eXn ?_)
        | (with_reducible refine eXr ?_)
        | (with_reducible refine eX ?_)
        | (with_reducible refine eI ?_)
        | (with_reducible refine eK ?_)
        | (with_reducible refine eV0 ?_)
        | (with_reducible refine eGtt ?_)
        | (with_reducible refine eGff ?_)
        | (with_reducible refine eGtf ?_)
        | (with_reducible refine eGft ?_)
        | (with_reducible refine eGno ?_)
        | ((with_reducible apply eCn); (simp only [nth_zero, nth_succ]; done))
        | ((with_reducible apply eCn); (simp only [nth_zero, nth_succ]; (with_reducible exact rfl)))
        | ((with_reducible apply eJ); (rfl))
        | ((with_reducible apply eB); (first | (with_reducible exact rfl) | (simp (disch := omega) only [pu_val, nth_zero, nth_succ, gd_tt, gd_ff, gd_tf, gd_ft, gd_no, rf, rn, q1, q2, c1, c2, hB, rr, d0, l0, lm, eqn]; first | done | (with_reducible exact rfl) | (with_reducible exact ⟨rfl, rfl⟩)) | (simp (disch := omega) only [pu_val, nth_zero, nth_succ, gd_tt, gd_ff, gd_tf, gd_ft, gd_no, pickA_true, pickA_false, q_notT, q_notF, q_eql_t, q_eql_f, q_neq_t, q_neq_f, q_lss_t, q_lss_f, q_leq_t, q_leq_f, q_gtr_t, q_gtr_f, q_geq_t, q_geq_f, q_add, q_sub, q_addU, q_cvI, q_cvU, q_cv8, q_cv32, q_idxSl, q_lenRo, q_lenSl, q_lenNil, q_nilp, q_nilrp, q_nilfn, q_nilgl, q_fap, q_farp, q_ldrp, q_boxAgg, q_ext0, q_ext1, q_ext2, List.getElem?_cons_zero, List.getElem?_cons_succ, List.getElem?_nil, q_stS, q_ldp0, q_ldpS, q_ldB, q_ldBT, q_ldrpT, q_ldBi, q_ldBb, q_boxA, q_boxI, q_boxB, List.length_cons, List.length_nil, List.cons_append, List.nil_append, List.drop_zero, List.drop_succ_cons, List.take_succ_cons, List.take_zero, q_stp0, q_stpS, q_stB, Option.map_some, putC, AV.cells, storable, buildSt, fillA, buildRo, buildOwn, fillE, List.replicate_succ, List.replicate_zero, List.set_cons_zero, List.set_cons_succ, Nat.reduceLeDiff, Nat.reduceLT, Nat.le_refl, and_self, true_and, and_true, ↓reduceIte, if_true, Bool.not_true, Bool.not_false, Int.toNat_natCast, Nat.zero_add, Nat.reduceAdd, rf, rn, q1, q2, c1, c2, hB, rr, d0, l0, lm, eqn]; first | done | (with_reducible exact rfl) | (with_reducible exact ⟨rfl, rfl⟩))))
        | ((with_reducible apply eR); (simp only [nth_zero, nth_succ]; (with_reducible exact rfl)))
        | ((with_reducible refine sEql (fun hq => ?_) (fun hq => ?_)) <;> try subst hq)
        | ((with_reducible refine sNeq (fun hq => ?_) (fun hq => ?_)) <;> try subst hq)
        | ((with_reducible refine sLss (fun hq => ?_) (fun hq => ?_)) <;> try subst hq)
        | ((with_reducible refine sLeq (fun hq => ?_) (fun hq => ?_)) <;> try subst hq)
        | ((with_reducible refine sGtr (fun hq => ?_) (fun hq => ?_)) <;> try subst hq)
        | ((with_reducible refine sGeq (fun hq => ?_) (fun hq => ?_)) <;> try subst hq)
        | ((with_reducible refine sNot (fun hq => ?_) (fun hq => ?_)) <;> try subst hq)
        | ((with_reducible refine sPick (fun hq => ?_) (fun hq => ?_)) <;> try subst hq)
        | ((with_reducible refine sGd (fun hq => ?_) (fun hq => ?_)) <;> try subst hq)
        | ((with_reducible refine eBool (fun hq => ?_) (fun hq => ?_)) <;> try subst hq)
      all_goals first | omega | exact w1b rfl
end Go.Proofs.YtcmblhedhgiofaaDoor
