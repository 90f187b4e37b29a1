/- The law of WordsRun, in plain Lean. -/
import Derived.Test.YtcmblhedhgiofaaDoorWn
namespace Go.Proofs.YtcmblhedhgiofaaDoor
open Go Mir
set_option linter.unusedVariables false
set_option linter.unusedSimpArgs false
set_option maxHeartbeats 8000000
set_option maxRecDepth 20000

theorem first17 (G : Globs) (k : Nat) : alembiclaw17_first.f G (k + 60) [] [] = some (.bool true, []) := by kernel_rfl

theorem of_words {x : AV} {t e : TypeId} (hu : Tryd.prog.underlying t = some (.slice e)) (he : Tryd.prog.underlying e = some (.int .u64)) (h : IsT Tryd.prog t x) :
    ∃ l : List Nat, x = .ro false (natsU l) ∧ (∀ n ∈ l, n < 18446744073709551616) := by
  obtain ⟨l, rfl, hw, hl⟩ := h.of_ints hu he
  refine ⟨l.map Int.toNat, ?_, ?_⟩
  · unfold natsU
    rw [List.map_map]
    congr 1
    apply List.map_congr_left
    intro n hn
    obtain ⟨h1, h2⟩ := wf_u64 (hw n hn)
    show AV.int .u64 n = AV.int .u64 ((n.toNat : Nat) : Int)
    rw [Int.toNat_of_nonneg h1]
  · intro n hn
    obtain ⟨z, hz, rfl⟩ := List.mem_map.1 hn
    have := wf_u64 (hw z hz)
    omega

theorem of_ins {x : AV} (h : IsT Tryd.prog 52 x) : ∃ i : Ins, x = i.v ∧ (-9223372036854775808 ≤ i.k ∧ i.k < 9223372036854775808) := by
  obtain ⟨cs, rfl, hf⟩ := h.of_struct Tryd.underlying52
  cases hf with
  | cons h1 hf =>
  cases hf with
  | cons h2 hf =>
  cases hf with
  | cons h3 hf =>
  cases hf with
  | cons h4 hf =>
  cases hf with
  | cons h5 hf =>
  cases hf with
  | cons h6 hf =>
  cases hf with
  | nil =>
  obtain ⟨a, rfl, _⟩ := h1.of_int (k := .i64) Tryd.underlying3
  obtain ⟨b, rfl, _⟩ := h2.of_int (k := .i64) Tryd.underlying3
  obtain ⟨c, rfl, _⟩ := h3.of_int (k := .i64) Tryd.underlying3
  obtain ⟨d, rfl, _⟩ := h4.of_int (k := .i64) Tryd.underlying3
  obtain ⟨e, rfl, _⟩ := h5.of_int (k := .i64) Tryd.underlying3
  obtain ⟨f, rfl, hw⟩ := h6.of_int (k := .i64) Tryd.underlying2
  exact ⟨⟨a, b, c, d, e, f⟩, rfl, wf_i64 hw⟩

theorem of_list {α : Type} {P : AV → Prop} {e : α → AV} {Q : α → Prop} (h : ∀ x, P x → ∃ a, x = e a ∧ Q a) : ∀ xs : List AV, (∀ x ∈ xs, P x) → ∃ l : List α, xs = l.map e ∧ ∀ a ∈ l, Q a
  | [], _ => ⟨[], rfl, fun a h => by cases h⟩
  | x :: xs, hx => by
    obtain ⟨a, rfl, ha⟩ := h x (hx x (by simp))
    obtain ⟨l, rfl, hl⟩ := of_list h xs (fun y hy => hx y (by simp [hy]))
    refine ⟨a :: l, rfl, fun b hb => ?_⟩
    rcases List.mem_cons.1 hb with rfl | hb
    · exact ha
    · exact hl b hb

theorem of_code {x : AV} (h : IsT Tryd.prog 24 x) : ∃ (cs : List Ins) (R M : Int), x = cdV false cs R M ∧ (-9223372036854775808 ≤ R ∧ R < 9223372036854775808) ∧ (-9223372036854775808 ≤ M ∧ M < 9223372036854775808) := by
  obtain ⟨cs, rfl, hf⟩ := h.of_struct Tryd.underlying24
  cases hf with
  | cons h1 hf =>
  cases hf with
  | cons h2 hf =>
  cases hf with
  | cons h3 hf =>
  cases hf with
  | nil =>
  obtain ⟨xs, rfl, hx, _⟩ := h1.of_slice Tryd.underlying22
  obtain ⟨l, rfl, _⟩ := of_list (e := Ins.v) (fun x hx => of_ins hx) xs hx
  obtain ⟨R, rfl, hR⟩ := h2.of_int (k := .i64) Tryd.underlying3
  obtain ⟨M, rfl, hM⟩ := h3.of_int (k := .i64) Tryd.underlying3
  exact ⟨l, R, M, rfl, wf_i64 hR, wf_i64 hM⟩

def lightF (n : Nat) (R M : Int) (m : Nat) (fuel : Int) : Prop := n ≤ 80 ∧ R ≤ 100 ∧ M ≤ 200 ∧ m ≤ 220 ∧ (fuel ≤ 2000 ∨ 1073741824 < fuel)
instance (n : Nat) (R M : Int) (m : Nat) (fuel : Int) : Decidable (lightF n R M m fuel) := by unfold lightF; infer_instance

theorem light_spec (G : Globs) (k : Nat) (cs : List Ins) (R M : Int) (mem : List Nat) (fuel : Int) :
    alembiclaw17_light.f G (k + 1) [cdV false cs R M, .ro false (natsU mem), I6 fuel] [] = some (.bool (decide (lightF cs.length R M mem.length fuel)), []) := by
  rw [alembiclaw17_light.step]
  unfold alembiclaw17_light.c cdV
  have l1 : lenSl (.ro false (codeV cs)) = some (I6 cs.length) := by simp [lenSl, codeV_len]
  have l2 : lenSl (.ro false (natsU mem)) = some (I6 mem.length) := by simp [lenSl, natsU_len]
  refine e_in ?_
  repeat' first
    | (with_reducible refine eT ?_)
    | (with_reducible refine eN ?_)
    | (with_reducible refine eS ?_)
    | (with_reducible refine eXn ?_)
    | (with_reducible refine eXr ?_)
    | (with_reducible refine eX ?_)
    | (with_reducible refine eI ?_)
    | (with_reducible refine eK ?_)
    | (with_reducible refine eV0 ?_)
    | (with_reducible refine eGtt ?_)
    | (with_reducible refine eGff ?_)
    | (with_reducible refine eGtf ?_)
    | (with_reducible refine eGft ?_)
    | (with_reducible refine eGno ?_)
    | ((with_reducible apply eCn); (simp only [nth_zero, nth_succ]; done))
    | ((with_reducible apply eCn); (simp only [nth_zero, nth_succ]; (with_reducible exact rfl)))
    | ((with_reducible apply eJ); (rfl))
    | ((with_reducible apply eB); (first | (with_reducible exact rfl) | (simp (disch := omega) only [pu_val, nth_zero, nth_succ, gd_tt, gd_ff, gd_tf, gd_ft, gd_no, l1, l2]; first | done | (with_reducible exact rfl) | (with_reducible exact ⟨rfl, rfl⟩)) | (simp (disch := omega) only [pu_val, nth_zero, nth_succ, gd_tt, gd_ff, gd_tf, gd_ft, gd_no, pickA_true, pickA_false, q_notT, q_notF, q_eql_t, q_eql_f, q_neq_t, q_neq_f, q_lss_t, q_lss_f, q_leq_t, q_leq_f, q_gtr_t, q_gtr_f, q_geq_t, q_geq_f, q_add, q_sub, q_addU, q_cvI, q_cvU, q_cv8, q_cv32, q_idxSl, q_lenRo, q_lenSl, q_lenNil, q_nilp, q_nilrp, q_nilfn, q_nilgl, q_fap, q_farp, q_ldrp, q_boxAgg, q_ext0, q_ext1, q_ext2, List.getElem?_cons_zero, List.getElem?_cons_succ, List.getElem?_nil, q_stS, q_ldp0, q_ldpS, q_ldB, q_ldBT, q_ldrpT, q_ldBi, q_ldBb, q_boxA, q_boxI, q_boxB, List.length_cons, List.length_nil, List.cons_append, List.nil_append, List.drop_zero, List.drop_succ_cons, List.take_succ_cons, List.take_zero, q_stp0, q_stpS, q_stB, Option.map_some, putC, AV.cells, storable, buildSt, fillA, buildRo, buildOwn, fillE, List.replicate_succ, List.replicate_zero, List.set_cons_zero, List.set_cons_succ, Nat.reduceLeDiff, Nat.reduceLT, Nat.le_refl, and_self, true_and, and_true, ↓reduceIte, if_true, Bool.not_true, Bool.not_false, Int.toNat_natCast, Nat.zero_add, Nat.reduceAdd, l1, l2]; first | done | (with_reducible exact rfl) | (with_reducible exact ⟨rfl, rfl⟩))))
    | ((with_reducible apply eR); (simp only [nth_zero, nth_succ]; (with_reducible exact rfl)))
    | ((with_reducible refine sEql (fun hq => ?_) (fun hq => ?_)) <;> try subst hq)
    | ((with_reducible refine sNeq (fun hq => ?_) (fun hq => ?_)) <;> try subst hq)
    | ((with_reducible refine sLss (fun hq => ?_) (fun hq => ?_)) <;> try subst hq)
    | ((with_reducible refine sLeq (fun hq => ?_) (fun hq => ?_)) <;> try subst hq)
    | ((with_reducible refine sGtr (fun hq => ?_) (fun hq => ?_)) <;> try subst hq)
    | ((with_reducible refine sGeq (fun hq => ?_) (fun hq => ?_)) <;> try subst hq)
    | ((with_reducible refine sNot (fun hq => ?_) (fun hq => ?_)) <;> try subst hq)
    | ((with_reducible refine sPick (fun hq => ?_) (fun hq => ?_)) <;> try subst hq)
    | ((with_reducible refine sGd (fun hq => ?_) (fun hq => ?_)) <;> try subst hq)
    | ((with_reducible refine eBool (fun hq => ?_) (fun hq => ?_)) <;> try subst hq)
  all_goals (refine w1b ?_; first | exact (decide_eq_true (by unfold lightF; omega)).symm | exact (decide_eq_false (by unfold lightF; omega)).symm)

theorem other_spec (G : Globs) (k : Nat) (cs : List Ins) (R M : Int) : alembiclaw17_other.f G (k + 1) [cdV false cs R M] [] = some (cdV false cs R M, []) := by
  rw [alembiclaw17_other.step]
  unfold alembiclaw17_other.c cdV
  refine e_in ?_
  repeat' first
    | (with_reducible refine eT ?_)
    | (with_reducible refine eN ?_)
    | (with_reducible refine eS ?_)
    | (with_reducible refine eXn ?_)
    | (with_reducible refine eXr ?_)
    | (with_reducible refine eX ?_)
    | (with_reducible refine eI ?_)
    | (with_reducible refine eK ?_)
    | (with_reducible refine eV0 ?_)
    | (with_reducible refine eGtt ?_)
    | (with_reducible refine eGff ?_)
    | (with_reducible refine eGtf ?_)
    | (with_reducible refine eGft ?_)
    | (with_reducible refine eGno ?_)
    | ((with_reducible apply eCn); (simp only [nth_zero, nth_succ]; done))
    | ((with_reducible apply eCn); (simp only [nth_zero, nth_succ]; (with_reducible exact rfl)))
    | ((with_reducible apply eJ); (rfl))
    | ((with_reducible apply eB); (first | (with_reducible exact rfl) | (simp (disch := omega) only [pu_val, nth_zero, nth_succ, gd_tt, gd_ff, gd_tf, gd_ft, gd_no, pickA_true, pickA_false, q_notT, q_notF, q_eql_t, q_eql_f, q_neq_t, q_neq_f, q_lss_t, q_lss_f, q_leq_t, q_leq_f, q_gtr_t, q_gtr_f, q_geq_t, q_geq_f, q_add, q_sub, q_addU, q_cvI, q_cvU, q_cv8, q_cv32, q_idxSl, q_lenRo, q_lenSl, q_lenNil, q_nilp, q_nilrp, q_nilfn, q_nilgl, q_fap, q_farp, q_ldrp, q_boxAgg, q_ext0, q_ext1, q_ext2, List.getElem?_cons_zero, List.getElem?_cons_succ, List.getElem?_nil, q_stS, q_ldp0, q_ldpS, q_ldB, q_ldBT, q_ldrpT, q_ldBi, q_ldBb, q_boxA, q_boxI, q_boxB, List.length_cons, List.length_nil, List.cons_append, List.nil_append, List.drop_zero, List.drop_succ_cons, List.take_succ_cons, List.take_zero, q_stp0, q_stpS, q_stB, Option.map_some, putC, AV.cells, storable, buildSt, fillA, buildRo, buildOwn, fillE, List.replicate_succ, List.replicate_zero, List.set_cons_zero, List.set_cons_succ, Nat.reduceLeDiff, Nat.reduceLT, Nat.le_refl, and_self, true_and, and_true, ↓reduceIte, if_true, Bool.not_true, Bool.not_false, Int.toNat_natCast, Nat.zero_add, Nat.reduceAdd]; first | done | (with_reducible exact rfl) | (with_reducible exact ⟨rfl, rfl⟩))))
    | ((with_reducible apply eR); (simp only [nth_zero, nth_succ]; (with_reducible exact rfl)))
    | ((with_reducible refine sEql (fun hq => ?_) (fun hq => ?_)) <;> try subst hq)
    | ((with_reducible refine sNeq (fun hq => ?_) (fun hq => ?_)) <;> try subst hq)
    | ((with_reducible refine sLss (fun hq => ?_) (fun hq => ?_)) <;> try subst hq)
    | ((with_reducible refine sLeq (fun hq => ?_) (fun hq => ?_)) <;> try subst hq)
    | ((with_reducible refine sGtr (fun hq => ?_) (fun hq => ?_)) <;> try subst hq)
    | ((with_reducible refine sGeq (fun hq => ?_) (fun hq => ?_)) <;> try subst hq)
    | ((with_reducible refine sNot (fun hq => ?_) (fun hq => ?_)) <;> try subst hq)
    | ((with_reducible refine sPick (fun hq => ?_) (fun hq => ?_)) <;> try subst hq)
    | ((with_reducible refine sGd (fun hq => ?_) (fun hq => ?_)) <;> try subst hq)
    | ((with_reducible refine eBool (fun hq => ?_) (fun hq => ?_)) <;> try subst hq)
  refine oF ?_
  unfold finL
  exact finV_zero (by simp [belowB, belowL, codeV_below, AV.cells]) _

theorem runM_more (cs : List Ins) (fuel : Int) : ∀ (f : Nat) (s s' : MS), runM cs fuel f s = some s' → ∀ d, runM cs fuel (f + d) s = some s'
  | 0, s, s', h, d => by simp [runM] at h
  | f + 1, s, s', h, d => by
    rw [show f + 1 + d = (f + d) + 1 by omega]
    simp only [runM] at h ⊢
    by_cases h1 : cs.length ≤ s.at_
    · rw [if_pos h1] at h ⊢; exact h
    rw [if_neg h1] at h ⊢
    by_cases h2 : (s.steps : Int) = fuel
    · rw [if_pos h2] at h ⊢; exact h
    rw [if_neg h2] at h ⊢
    obtain ⟨s2, b, hsb⟩ : ∃ s2 b, s.tick.step (cs.getD s.at_ default) = (s2, b) := ⟨_, _, rfl⟩
    rw [hsb] at h ⊢
    cases b
    · exact h
    · exact runM_more cs fuel f s2 s' h d

theorem runM_ok (cs : List Ins) (fuel : Int) (R : Nat) (hf : fuel ≤ 99999) (hcs : ∀ j, j < cs.length → (cs.getD j default).Ok R cs.length) : ∀ (f : Nat) (s s' : MS), runM cs fuel f s = some s' → s.Ok R → s.at_ ≤ cs.length → (s.steps : Int) ≤ fuel →
    s'.Ok R ∧ (s'.steps : Int) ≤ fuel ∧ s'.mem.length = s.mem.length
  | 0, s, s', h, _, _, _ => by simp [runM] at h
  | f + 1, s, s', h, hs, hat, hst => by
    simp only [runM] at h
    by_cases h1 : cs.length ≤ s.at_
    · rw [if_pos h1] at h; simp only [Option.some.injEq] at h; subst h
      exact ⟨⟨hs.len, hs.regs, hs.mem, hs.leaks, hs.big, hs.few⟩, hst, rfl⟩
    rw [if_neg h1] at h
    by_cases h2 : (s.steps : Int) = fuel
    · rw [if_pos h2] at h; simp only [Option.some.injEq] at h; subst h
      exact ⟨⟨hs.len, hs.regs, hs.mem, hs.leaks, hs.big, hs.few⟩, hst, rfl⟩
    rw [if_neg h2] at h
    have okt : s.tick.Ok R := ⟨hs.len, hs.regs, hs.mem, by have := hs.leaks; simp [MS.tick, MS.leak]; omega, hs.big, by simp [MS.tick, MS.leak]; omega⟩
    obtain ⟨o1, o2, o3, o4⟩ := MS.step_ok okt (hcs s.at_ (by omega)) (by have := hs.leaks; simp [MS.tick, MS.leak]; omega) (show s.tick.at_ < cs.length from by show s.at_ < _; omega)
    have tst : s.tick.steps = s.steps + 1 := rfl
    have tm : s.tick.mem = s.mem := rfl
    obtain ⟨s2, b, hsb⟩ : ∃ s2 b, s.tick.step (cs.getD s.at_ default) = (s2, b) := ⟨_, _, rfl⟩
    rw [hsb] at h o1 o2 o3 o4
    simp only at h o1 o2 o3 o4
    cases b
    · simp only [Option.some.injEq] at h
      subst h
      exact ⟨o1, by rw [o3, tst]; omega, by rw [o4, tm]⟩
    · obtain ⟨r1, r2, r3⟩ := runM_ok cs fuel R hf hcs f s2 s' h o1 o2 (by rw [o3, tst]; omega)
      exact ⟨r1, r2, by rw [r3, o4, tm]⟩

theorem codE_ne (e : Nat) : codE e ≠ 0 := by unfold codE; repeat' split <;> try omega

theorem badF_ok2 {R n : Int} (hR : 0 ≤ R) : ∀ {l : List Ins} {j : Nat}, badF R n l j = .ok → ∀ i ∈ l, i.Ok2 R.toNat n.toNat
  | [], _, _, i, hi => by cases hi
  | x :: l, j, h, i, hi => by
    unfold badF at h
    split at h
    · cases h
    · rename_i ho
      rcases List.mem_cons.1 hi with rfl | hi
      · exact oneF_ok2 ho hR
      · exact badF_ok2 hR h i hi
theorem validF_ok2 {cs : List Ins} {R M : Int} (h : validF cs R M = .ok) : ∀ j, j < cs.length → (cs.getD j default).Ok2 R.toNat cs.length := by
  obtain ⟨⟨hR0, _⟩, _⟩ := validF_ok h
  unfold validF at h
  by_cases h1 : 262144 < cs.length
  · rw [if_pos h1] at h; cases h
  rw [if_neg h1] at h
  by_cases h2 : R < 0 ∨ 65536 < R ∨ M < 0 ∨ 65536 < M
  · rw [if_pos h2] at h; cases h
  rw [if_neg h2] at h
  intro j hj
  have := badF_ok2 (by omega) h (cs.getD j default) (by simp [List.getD, List.getElem?_eq_getElem hj])
  rwa [Int.toNat_natCast] at this

theorem LWordsRun.law (xs : List AV) (h : IsTs Tryd.prog [24, 25, 2] xs) : ∃ k, alembiclaw17_WordsRun.f (sentG 154 [2, 1, 0, 3, 6, 4, 7, 8, 5, 9, 10, 11, 12, 13]) k xs [] = some (.bool true, []) := by
  obtain ⟨x1, _, rfl, hx1, h⟩ := h.uncons
  obtain ⟨x2, _, rfl, hx2, h⟩ := h.uncons
  obtain ⟨x3, _, rfl, hx3, h⟩ := h.uncons
  obtain rfl := h.unnil
  obtain ⟨cs, R, M, rfl, hR, hM⟩ := of_code hx1
  obtain ⟨mem, rfl, hm⟩ := of_words Tryd.underlying25 Tryd.underlying48 hx2
  obtain ⟨fuel, rfl, hfu⟩ := hx3.of_int (k := .i64) Tryd.underlying2
  replace hfu := wf_i64 hfu
  clear h hx1 hx2 hx3
  refine ⟨8001, ?_⟩
  have hG := GA_ok
  have rf : ∀ H, pureCall (alembiclaw17_first.f GA 8000) [] H = _ := fun H => pureCall_of (H := H) (first17 GA 7940) rfl rfl
  have pc : plainB (cdV false cs R M) = true := by simp [plainB, plainL, plainC, cdV]
  have pm : plainB (.ro false (natsU mem)) = true := by simp [plainB, plainU]
  have rl : ∀ H, pureCall (alembiclaw17_light.f GA 8000) [cdV false cs R M, .ro false (natsU mem), I6 fuel] H = _ := fun H => pureCall_of (H := H) (light_spec GA 7999 cs R M mem fuel) (by simp [plainL, pc, plainU, plainB]) rfl
  have ro_ : ∀ H, pureCall (alembiclaw17_other.f GA 8000) [cdV false cs R M] H = _ := fun H => pureCall_of (H := H) (other_spec GA 7999 cs R M) (by simp [plainL, pc]) (by simp [cdV, cleanB, cleanL, cleanC])
  have b1 : ∀ H, boxRoA (cdV false cs R M) H = some (.rp false (cdV false cs R M) 0, H) := fun H => rfl
  have d1 : ∀ H, loadV GA true 3 (.rp false (cdV false cs R M) 0) H = some (cdV false cs R M) := fun H => rfl
  have d2 : fieldAddrV 2 (.rp false (cdV false cs R M) 0) = some (.rp false (cdV false cs R M) 2) := rfl
  have d3 : ∀ H, loadV GA false 1 (.rp false (cdV false cs R M) 2) H = some (I6 M) := fun H => rfl
  have lm : lenSl (.ro false (natsU mem)) = some (I6 mem.length) := by simp [lenSl, natsU_len]
  change alembiclaw17_WordsRun.f GA 8001 _ _ = _
  rw [alembiclaw17_WordsRun.step]
  unfold alembiclaw17_WordsRun.c
  refine e_in ?_
  by_cases hl : ¬ lightF cs.length R M mem.length fuel
  · rw [decide_eq_false hl] at rl
    repeat' first
      | (with_reducible refine eT ?_)
      | (with_reducible refine eN ?_)
      | (with_reducible refine eS ?_)
      | (with_reducible refine eXn ?_)
      | (with_reducible refine eXr ?_)
      | (with_reducible refine eX ?_)
      | (with_reducible refine eI ?_)
      | (with_reducible refine eK ?_)
      | (with_reducible refine eV0 ?_)
      | (with_reducible refine eGtt ?_)
      | (with_reducible refine eGff ?_)
      | (with_reducible refine eGtf ?_)
      | (with_reducible refine eGft ?_)
      | (with_reducible refine eGno ?_)
      | ((with_reducible apply eCn); (simp only [nth_zero, nth_succ]; done))
      | ((with_reducible apply eCn); (simp only [nth_zero, nth_succ]; (with_reducible exact rfl)))
      | ((with_reducible apply eJ); (rfl))
      | ((with_reducible apply eB); (first | (with_reducible exact rfl) | (simp (disch := omega) only [pu_val, nth_zero, nth_succ, gd_tt, gd_ff, gd_tf, gd_ft, gd_no, rf, rl, b1, d1]; first | done | (with_reducible exact rfl) | (with_reducible exact ⟨rfl, rfl⟩)) | (simp (disch := omega) only [pu_val, nth_zero, nth_succ, gd_tt, gd_ff, gd_tf, gd_ft, gd_no, pickA_true, pickA_false, q_notT, q_notF, q_eql_t, q_eql_f, q_neq_t, q_neq_f, q_lss_t, q_lss_f, q_leq_t, q_leq_f, q_gtr_t, q_gtr_f, q_geq_t, q_geq_f, q_add, q_sub, q_addU, q_cvI, q_cvU, q_cv8, q_cv32, q_idxSl, q_lenRo, q_lenSl, q_lenNil, q_nilp, q_nilrp, q_nilfn, q_nilgl, q_fap, q_farp, q_ldrp, q_boxAgg, q_ext0, q_ext1, q_ext2, List.getElem?_cons_zero, List.getElem?_cons_succ, List.getElem?_nil, q_stS, q_ldp0, q_ldpS, q_ldB, q_ldBT, q_ldrpT, q_ldBi, q_ldBb, q_boxA, q_boxI, q_boxB, List.length_cons, List.length_nil, List.cons_append, List.nil_append, List.drop_zero, List.drop_succ_cons, List.take_succ_cons, List.take_zero, q_stp0, q_stpS, q_stB, Option.map_some, putC, AV.cells, storable, buildSt, fillA, buildRo, buildOwn, fillE, List.replicate_succ, List.replicate_zero, List.set_cons_zero, List.set_cons_succ, Nat.reduceLeDiff, Nat.reduceLT, Nat.le_refl, and_self, true_and, and_true, ↓reduceIte, if_true, Bool.not_true, Bool.not_false, Int.toNat_natCast, Nat.zero_add, Nat.reduceAdd, rf, rl, b1, d1]; first | done | (with_reducible exact rfl) | (with_reducible exact ⟨rfl, rfl⟩))))
      | ((with_reducible apply eR); (simp only [nth_zero, nth_succ]; (with_reducible exact rfl)))
      | ((with_reducible refine sEql (fun hq => ?_) (fun hq => ?_)) <;> try subst hq)
      | ((with_reducible refine sNeq (fun hq => ?_) (fun hq => ?_)) <;> try subst hq)
      | ((with_reducible refine sLss (fun hq => ?_) (fun hq => ?_)) <;> try subst hq)
      | ((with_reducible refine sLeq (fun hq => ?_) (fun hq => ?_)) <;> try subst hq)
      | ((with_reducible refine sGtr (fun hq => ?_) (fun hq => ?_)) <;> try subst hq)
      | ((with_reducible refine sGeq (fun hq => ?_) (fun hq => ?_)) <;> try subst hq)
      | ((with_reducible refine sNot (fun hq => ?_) (fun hq => ?_)) <;> try subst hq)
      | ((with_reducible refine sPick (fun hq => ?_) (fun hq => ?_)) <;> try subst hq)
      | ((with_reducible refine sGd (fun hq => ?_) (fun hq => ?_)) <;> try subst hq)
      | ((with_reducible refine eBool (fun hq => ?_) (fun hq => ?_)) <;> try subst hq)
    exact w1b rfl
  replace hl := Classical.not_not.1 hl
  rw [decide_eq_true hl] at rl
  unfold lightF at hl
  have rv : ∀ H, pureCall (alembicref17_Valid.f GA 8000) [cdV false cs R M] H = _ := fun H => pureCall_of (H := H) (rValid_spec GA 7997 cs R M (by omega) (by omega)) (by simp [plainL, pc]) (ftO_clean _)
  have rw_ : ∀ H, pureCall (words_Valid.f GA 8000) [cdV false cs R M] H = _ := fun H => pureCall_of (H := H) (Valid_spec GA hG 7992 cs R M (by omega) (by omega)) (by simp [plainL, pc]) (veV_clean _)
  have rs : ∀ v, v.low → ∀ H, pureCall (alembicsee_Same.f GA 8000) [veV v, ftO v] H = _ := fun v hv H => pureCall_of (H := H) (see_same 7959 v hv) (by simp [plainL, veV_plain, ftO_plain]) rfl
  have rb : ∀ c H, pureCall (alembicref_Bare.f GA 8000) [I6 c] H = _ := fun c H => pureCall_of (H := H) (Bare_spec GA 7999 c) rfl rfl
  have st : ∀ v, stS (storeV 3 (.ptr 0 1 0 0) (ftO v) [⟨29, 3, [.agg [.int .i64 0, .bool false, .int .i64 0]]⟩]) = some (.tup [], [⟨29, 3, [ftO v]⟩]) := fun v => by cases v <;> rfl
  have ld : ∀ v l, loadV GA true 3 (.ptr 0 1 0 0) (⟨29, 3, [ftO v]⟩ :: l) = some (ftO v) := fun v l => by cases v <;> rfl
  have hlow := validF_low cs R M
  have bad : ∀ (v : VE) (l : AHeap) (Q : Nat), v ≠ .ok → True := fun _ _ _ _ => trivial
  cases hv : validF cs R M with
  | bare e =>
    rw [hv] at rv rw_ hlow
    have rr : ∀ H, pureCall (words_Run.f GA 8000) [cdV false cs R M, .ro false (natsU mem), I6 fuel] H = _ := fun H => pureCall_of (H := H) (Run_bad GA hG 7991 cs R M false mem fuel (by omega) (by omega) (by rw [hv]; simp)) (by simp [plainL, pc, plainU, plainB]) (by simp [cleanB, cleanL, zeroRes, veV_clean])
    rw [hv] at rr
    have rs' := rs _ hlow
    have sv := st (.bare e)
    have lv := ld (.bare e)
    have ne := codE_ne e
    simp only [ftO, veV, ftV] at *
    generalize codE e = c at *
    unfold zeroRes at rr
    repeat' first
      | (with_reducible refine eT ?_)
      | (with_reducible refine eN ?_)
      | (with_reducible refine eS ?_)
      | (with_reducible refine eXn ?_)
      | (with_reducible refine eXr ?_)
      | (with_reducible refine eX ?_)
      | (with_reducible refine eI ?_)
      | (with_reducible refine eK ?_)
      | (with_reducible refine eV0 ?_)
      | (with_reducible refine eGtt ?_)
      | (with_reducible refine eGff ?_)
      | (with_reducible refine eGtf ?_)
      | (with_reducible refine eGft ?_)
      | (with_reducible refine eGno ?_)
      | ((with_reducible apply eCn); (simp only [nth_zero, nth_succ]; done))
      | ((with_reducible apply eCn); (simp only [nth_zero, nth_succ]; (with_reducible exact rfl)))
      | ((with_reducible apply eJ); (rfl))
      | ((with_reducible apply eB); (first | (with_reducible exact rfl) | (simp (disch := omega) only [pu_val, nth_zero, nth_succ, gd_tt, gd_ff, gd_tf, gd_ft, gd_no, rf, rl, b1, d1, d2, d3, ro_, rv, rw_, rs', sv, lv, rr, lm]; first | done | (with_reducible exact rfl) | (with_reducible exact ⟨rfl, rfl⟩)) | (simp (disch := omega) only [pu_val, nth_zero, nth_succ, gd_tt, gd_ff, gd_tf, gd_ft, gd_no, pickA_true, pickA_false, q_notT, q_notF, q_eql_t, q_eql_f, q_neq_t, q_neq_f, q_lss_t, q_lss_f, q_leq_t, q_leq_f, q_gtr_t, q_gtr_f, q_geq_t, q_geq_f, q_add, q_sub, q_addU, q_cvI, q_cvU, q_cv8, q_cv32, q_idxSl, q_lenRo, q_lenSl, q_lenNil, q_nilp, q_nilrp, q_nilfn, q_nilgl, q_fap, q_farp, q_ldrp, q_boxAgg, q_ext0, q_ext1, q_ext2, List.getElem?_cons_zero, List.getElem?_cons_succ, List.getElem?_nil, q_stS, q_ldp0, q_ldpS, q_ldB, q_ldBT, q_ldrpT, q_ldBi, q_ldBb, q_boxA, q_boxI, q_boxB, List.length_cons, List.length_nil, List.cons_append, List.nil_append, List.drop_zero, List.drop_succ_cons, List.take_succ_cons, List.take_zero, q_stp0, q_stpS, q_stB, Option.map_some, putC, AV.cells, storable, buildSt, fillA, buildRo, buildOwn, fillE, List.replicate_succ, List.replicate_zero, List.set_cons_zero, List.set_cons_succ, Nat.reduceLeDiff, Nat.reduceLT, Nat.le_refl, and_self, true_and, and_true, ↓reduceIte, if_true, Bool.not_true, Bool.not_false, Int.toNat_natCast, Nat.zero_add, Nat.reduceAdd, rf, rl, b1, d1, d2, d3, ro_, rv, rw_, rs', sv, lv, rr, lm]; first | done | (with_reducible exact rfl) | (with_reducible exact ⟨rfl, rfl⟩))))
      | ((with_reducible apply eR); (simp only [nth_zero, nth_succ]; (with_reducible exact rfl)))
      | ((with_reducible refine sEql (fun hq => ?_) (fun hq => ?_)) <;> try subst hq)
      | ((with_reducible refine sNeq (fun hq => ?_) (fun hq => ?_)) <;> try subst hq)
      | ((with_reducible refine sLss (fun hq => ?_) (fun hq => ?_)) <;> try subst hq)
      | ((with_reducible refine sLeq (fun hq => ?_) (fun hq => ?_)) <;> try subst hq)
      | ((with_reducible refine sGtr (fun hq => ?_) (fun hq => ?_)) <;> try subst hq)
      | ((with_reducible refine sGeq (fun hq => ?_) (fun hq => ?_)) <;> try subst hq)
      | ((with_reducible refine sNot (fun hq => ?_) (fun hq => ?_)) <;> try subst hq)
      | ((with_reducible refine sPick (fun hq => ?_) (fun hq => ?_)) <;> try subst hq)
      | ((with_reducible refine sGd (fun hq => ?_) (fun hq => ?_)) <;> try subst hq)
      | ((with_reducible refine eBool (fun hq => ?_) (fun hq => ?_)) <;> try subst hq)
    exact w1b rfl
  | at_ j e =>
    rw [hv] at rv rw_ hlow
    have rr : ∀ H, pureCall (words_Run.f GA 8000) [cdV false cs R M, .ro false (natsU mem), I6 fuel] H = _ := fun H => pureCall_of (H := H) (Run_bad GA hG 7991 cs R M false mem fuel (by omega) (by omega) (by rw [hv]; simp)) (by simp [plainL, pc, plainU, plainB]) (by simp [cleanB, cleanL, zeroRes, veV_clean])
    rw [hv] at rr
    have rs' := rs _ hlow
    have sv := st (.at_ j e)
    have lv := ld (.at_ j e)
    have ne := codE_ne e
    simp only [ftO, veV, ftV] at *
    generalize codE e = c at *
    unfold zeroRes at rr
    repeat' first
      | (with_reducible refine eT ?_)
      | (with_reducible refine eN ?_)
      | (with_reducible refine eS ?_)
      | (with_reducible refine eXn ?_)
      | (with_reducible refine eXr ?_)
      | (with_reducible refine eX ?_)
      | (with_reducible refine eI ?_)
      | (with_reducible refine eK ?_)
      | (with_reducible refine eV0 ?_)
      | (with_reducible refine eGtt ?_)
      | (with_reducible refine eGff ?_)
      | (with_reducible refine eGtf ?_)
      | (with_reducible refine eGft ?_)
      | (with_reducible refine eGno ?_)
      | ((with_reducible apply eCn); (simp only [nth_zero, nth_succ]; done))
      | ((with_reducible apply eCn); (simp only [nth_zero, nth_succ]; (with_reducible exact rfl)))
      | ((with_reducible apply eJ); (rfl))
      | ((with_reducible apply eB); (first | (with_reducible exact rfl) | (simp (disch := omega) only [pu_val, nth_zero, nth_succ, gd_tt, gd_ff, gd_tf, gd_ft, gd_no, rf, rl, b1, d1, d2, d3, ro_, rv, rw_, rs', sv, lv, rr, lm]; first | done | (with_reducible exact rfl) | (with_reducible exact ⟨rfl, rfl⟩)) | (simp (disch := omega) only [pu_val, nth_zero, nth_succ, gd_tt, gd_ff, gd_tf, gd_ft, gd_no, pickA_true, pickA_false, q_notT, q_notF, q_eql_t, q_eql_f, q_neq_t, q_neq_f, q_lss_t, q_lss_f, q_leq_t, q_leq_f, q_gtr_t, q_gtr_f, q_geq_t, q_geq_f, q_add, q_sub, q_addU, q_cvI, q_cvU, q_cv8, q_cv32, q_idxSl, q_lenRo, q_lenSl, q_lenNil, q_nilp, q_nilrp, q_nilfn, q_nilgl, q_fap, q_farp, q_ldrp, q_boxAgg, q_ext0, q_ext1, q_ext2, List.getElem?_cons_zero, List.getElem?_cons_succ, List.getElem?_nil, q_stS, q_ldp0, q_ldpS, q_ldB, q_ldBT, q_ldrpT, q_ldBi, q_ldBb, q_boxA, q_boxI, q_boxB, List.length_cons, List.length_nil, List.cons_append, List.nil_append, List.drop_zero, List.drop_succ_cons, List.take_succ_cons, List.take_zero, q_stp0, q_stpS, q_stB, Option.map_some, putC, AV.cells, storable, buildSt, fillA, buildRo, buildOwn, fillE, List.replicate_succ, List.replicate_zero, List.set_cons_zero, List.set_cons_succ, Nat.reduceLeDiff, Nat.reduceLT, Nat.le_refl, and_self, true_and, and_true, ↓reduceIte, if_true, Bool.not_true, Bool.not_false, Int.toNat_natCast, Nat.zero_add, Nat.reduceAdd, rf, rl, b1, d1, d2, d3, ro_, rv, rw_, rs', sv, lv, rr, lm]; first | done | (with_reducible exact rfl) | (with_reducible exact ⟨rfl, rfl⟩))))
      | ((with_reducible apply eR); (simp only [nth_zero, nth_succ]; (with_reducible exact rfl)))
      | ((with_reducible refine sEql (fun hq => ?_) (fun hq => ?_)) <;> try subst hq)
      | ((with_reducible refine sNeq (fun hq => ?_) (fun hq => ?_)) <;> try subst hq)
      | ((with_reducible refine sLss (fun hq => ?_) (fun hq => ?_)) <;> try subst hq)
      | ((with_reducible refine sLeq (fun hq => ?_) (fun hq => ?_)) <;> try subst hq)
      | ((with_reducible refine sGtr (fun hq => ?_) (fun hq => ?_)) <;> try subst hq)
      | ((with_reducible refine sGeq (fun hq => ?_) (fun hq => ?_)) <;> try subst hq)
      | ((with_reducible refine sNot (fun hq => ?_) (fun hq => ?_)) <;> try subst hq)
      | ((with_reducible refine sPick (fun hq => ?_) (fun hq => ?_)) <;> try subst hq)
      | ((with_reducible refine sGd (fun hq => ?_) (fun hq => ?_)) <;> try subst hq)
      | ((with_reducible refine eBool (fun hq => ?_) (fun hq => ?_)) <;> try subst hq)
    exact w1b rfl
  | ok =>
    rw [hv] at rv rw_ hlow
    have rs0 := rs .ok trivial
    have sv := st .ok
    have lv := ld .ok
    by_cases hg : givenF M mem.length fuel ≠ .ok
    · have rr : ∀ H, pureCall (words_Run.f GA 8000) [cdV false cs R M, .ro false (natsU mem), I6 fuel] H = _ := fun H => pureCall_of (H := H) (Run_none GA hG 7991 cs R M false mem fuel (by omega) (by omega) hv hg) (by simp [plainL, pc, plainU, plainB]) (by simp [cleanB, cleanL, zeroRes, veV_clean])
      have rs1 := rs (.bare 1) (show 1 < 6 by omega)
      have rs2 := rs (.bare 2) (show 2 < 6 by omega)
      have sv1 : ∀ c, stS (storeV 3 (.ptr 0 1 0 0) (ftV c false 0) [⟨29, 3, [ftV 0 false 0]⟩]) = some (.tup [], [⟨29, 3, [ftV c false 0]⟩]) := fun c => rfl
      have ld1 : ∀ c l, loadV GA true 3 (.ptr 0 1 0 0) (⟨29, 3, [ftV c false 0]⟩ :: l) = some (ftV c false 0) := fun c l => rfl
      have e1 : codE 1 = 102 := rfl
      have e2 : codE 2 = 101 := rfl
      simp only [ftO, veV, e1, e2] at *
      unfold zeroRes givenF at rr
      unfold ftV at *
      by_cases hM2 : (mem.length : Int) ≠ M
      · rw [if_pos hM2] at rr
        simp only [veV] at rr
        repeat' first
          | (with_reducible refine eT ?_)
          | (with_reducible refine eN ?_)
          | (with_reducible refine eS ?_)
          | (with_reducible refine eXn ?_)
          | (with_reducible refine eXr ?_)
          | (with_reducible refine eX ?_)
          | (with_reducible refine eI ?_)
          | (with_reducible refine eK ?_)
          | (with_reducible refine eV0 ?_)
          | (with_reducible refine eGtt ?_)
          | (with_reducible refine eGff ?_)
          | (with_reducible refine eGtf ?_)
          | (with_reducible refine eGft ?_)
          | (with_reducible refine eGno ?_)
          | ((with_reducible apply eCn); (simp only [nth_zero, nth_succ]; done))
          | ((with_reducible apply eCn); (simp only [nth_zero, nth_succ]; (with_reducible exact rfl)))
          | ((with_reducible apply eJ); (rfl))
          | ((with_reducible apply eB); (first | (with_reducible exact rfl) | (simp (disch := omega) only [pu_val, nth_zero, nth_succ, gd_tt, gd_ff, gd_tf, gd_ft, gd_no, rf, rl, b1, d1, d2, d3, ro_, rv, rw_, rs0, rs1, rs2, rb, sv, sv1, lv, ld1, rr, lm]; first | done | (with_reducible exact rfl) | (with_reducible exact ⟨rfl, rfl⟩)) | (simp (disch := omega) only [pu_val, nth_zero, nth_succ, gd_tt, gd_ff, gd_tf, gd_ft, gd_no, pickA_true, pickA_false, q_notT, q_notF, q_eql_t, q_eql_f, q_neq_t, q_neq_f, q_lss_t, q_lss_f, q_leq_t, q_leq_f, q_gtr_t, q_gtr_f, q_geq_t, q_geq_f, q_add, q_sub, q_addU, q_cvI, q_cvU, q_cv8, q_cv32, q_idxSl, q_lenRo, q_lenSl, q_lenNil, q_nilp, q_nilrp, q_nilfn, q_nilgl, q_fap, q_farp, q_ldrp, q_boxAgg, q_ext0, q_ext1, q_ext2, List.getElem?_cons_zero, List.getElem?_cons_succ, List.getElem?_nil, q_stS, q_ldp0, q_ldpS, q_ldB, q_ldBT, q_ldrpT, q_ldBi, q_ldBb, q_boxA, q_boxI, q_boxB, List.length_cons, List.length_nil, List.cons_append, List.nil_append, List.drop_zero, List.drop_succ_cons, List.take_succ_cons, List.take_zero, q_stp0, q_stpS, q_stB, Option.map_some, putC, AV.cells, storable, buildSt, fillA, buildRo, buildOwn, fillE, List.replicate_succ, List.replicate_zero, List.set_cons_zero, List.set_cons_succ, Nat.reduceLeDiff, Nat.reduceLT, Nat.le_refl, and_self, true_and, and_true, ↓reduceIte, if_true, Bool.not_true, Bool.not_false, Int.toNat_natCast, Nat.zero_add, Nat.reduceAdd, rf, rl, b1, d1, d2, d3, ro_, rv, rw_, rs0, rs1, rs2, rb, sv, sv1, lv, ld1, rr, lm]; first | done | (with_reducible exact rfl) | (with_reducible exact ⟨rfl, rfl⟩))))
          | ((with_reducible apply eR); (simp only [nth_zero, nth_succ]; (with_reducible exact rfl)))
          | ((with_reducible refine sEql (fun hq => ?_) (fun hq => ?_)) <;> try subst hq)
          | ((with_reducible refine sNeq (fun hq => ?_) (fun hq => ?_)) <;> try subst hq)
          | ((with_reducible refine sLss (fun hq => ?_) (fun hq => ?_)) <;> try subst hq)
          | ((with_reducible refine sLeq (fun hq => ?_) (fun hq => ?_)) <;> try subst hq)
          | ((with_reducible refine sGtr (fun hq => ?_) (fun hq => ?_)) <;> try subst hq)
          | ((with_reducible refine sGeq (fun hq => ?_) (fun hq => ?_)) <;> try subst hq)
          | ((with_reducible refine sNot (fun hq => ?_) (fun hq => ?_)) <;> try subst hq)
          | ((with_reducible refine sPick (fun hq => ?_) (fun hq => ?_)) <;> try subst hq)
          | ((with_reducible refine sGd (fun hq => ?_) (fun hq => ?_)) <;> try subst hq)
          | ((with_reducible refine eBool (fun hq => ?_) (fun hq => ?_)) <;> try subst hq)
        exact w1b rfl
      · rw [if_neg hM2] at rr
        by_cases hF : fuel < 0 ∨ 1073741824 < fuel
        · rw [if_pos hF] at rr
          simp only [veV] at rr
          repeat' first
            | (with_reducible refine eT ?_)
            | (with_reducible refine eN ?_)
            | (with_reducible refine eS ?_)
            | (with_reducible refine eXn ?_)
            | (with_reducible refine eXr ?_)
            | (with_reducible refine eX ?_)
            | (with_reducible refine eI ?_)
            | (with_reducible refine eK ?_)
            | (with_reducible refine eV0 ?_)
            | (with_reducible refine eGtt ?_)
            | (with_reducible refine eGff ?_)
            | (with_reducible refine eGtf ?_)
            | (with_reducible refine eGft ?_)
            | (with_reducible refine eGno ?_)
            | ((with_reducible apply eCn); (simp only [nth_zero, nth_succ]; done))
            | ((with_reducible apply eCn); (simp only [nth_zero, nth_succ]; (with_reducible exact rfl)))
            | ((with_reducible apply eJ); (rfl))
            | ((with_reducible apply eB); (first | (with_reducible exact rfl) | (simp (disch := omega) only [pu_val, nth_zero, nth_succ, gd_tt, gd_ff, gd_tf, gd_ft, gd_no, rf, rl, b1, d1, d2, d3, ro_, rv, rw_, rs0, rs1, rs2, rb, sv, sv1, lv, ld1, rr, lm]; first | done | (with_reducible exact rfl) | (with_reducible exact ⟨rfl, rfl⟩)) | (simp (disch := omega) only [pu_val, nth_zero, nth_succ, gd_tt, gd_ff, gd_tf, gd_ft, gd_no, pickA_true, pickA_false, q_notT, q_notF, q_eql_t, q_eql_f, q_neq_t, q_neq_f, q_lss_t, q_lss_f, q_leq_t, q_leq_f, q_gtr_t, q_gtr_f, q_geq_t, q_geq_f, q_add, q_sub, q_addU, q_cvI, q_cvU, q_cv8, q_cv32, q_idxSl, q_lenRo, q_lenSl, q_lenNil, q_nilp, q_nilrp, q_nilfn, q_nilgl, q_fap, q_farp, q_ldrp, q_boxAgg, q_ext0, q_ext1, q_ext2, List.getElem?_cons_zero, List.getElem?_cons_succ, List.getElem?_nil, q_stS, q_ldp0, q_ldpS, q_ldB, q_ldBT, q_ldrpT, q_ldBi, q_ldBb, q_boxA, q_boxI, q_boxB, List.length_cons, List.length_nil, List.cons_append, List.nil_append, List.drop_zero, List.drop_succ_cons, List.take_succ_cons, List.take_zero, q_stp0, q_stpS, q_stB, Option.map_some, putC, AV.cells, storable, buildSt, fillA, buildRo, buildOwn, fillE, List.replicate_succ, List.replicate_zero, List.set_cons_zero, List.set_cons_succ, Nat.reduceLeDiff, Nat.reduceLT, Nat.le_refl, and_self, true_and, and_true, ↓reduceIte, if_true, Bool.not_true, Bool.not_false, Int.toNat_natCast, Nat.zero_add, Nat.reduceAdd, rf, rl, b1, d1, d2, d3, ro_, rv, rw_, rs0, rs1, rs2, rb, sv, sv1, lv, ld1, rr, lm]; first | done | (with_reducible exact rfl) | (with_reducible exact ⟨rfl, rfl⟩))))
            | ((with_reducible apply eR); (simp only [nth_zero, nth_succ]; (with_reducible exact rfl)))
            | ((with_reducible refine sEql (fun hq => ?_) (fun hq => ?_)) <;> try subst hq)
            | ((with_reducible refine sNeq (fun hq => ?_) (fun hq => ?_)) <;> try subst hq)
            | ((with_reducible refine sLss (fun hq => ?_) (fun hq => ?_)) <;> try subst hq)
            | ((with_reducible refine sLeq (fun hq => ?_) (fun hq => ?_)) <;> try subst hq)
            | ((with_reducible refine sGtr (fun hq => ?_) (fun hq => ?_)) <;> try subst hq)
            | ((with_reducible refine sGeq (fun hq => ?_) (fun hq => ?_)) <;> try subst hq)
            | ((with_reducible refine sNot (fun hq => ?_) (fun hq => ?_)) <;> try subst hq)
            | ((with_reducible refine sPick (fun hq => ?_) (fun hq => ?_)) <;> try subst hq)
            | ((with_reducible refine sGd (fun hq => ?_) (fun hq => ?_)) <;> try subst hq)
            | ((with_reducible refine eBool (fun hq => ?_) (fun hq => ?_)) <;> try subst hq)
          all_goals first | omega | exact w1b rfl
        · exfalso; apply hg; unfold givenF; rw [if_neg hM2, if_neg hF]
    · replace hg := Classical.not_not.1 hg
      have hgv : (mem.length : Int) = M ∧ 0 ≤ fuel ∧ fuel ≤ 1073741824 := by
        unfold givenF at hg
        split at hg
        · cases hg
        · split at hg
          · cases hg
          · omega
      obtain ⟨s', h1, h2⟩ := Run_spec GA hG 7991 cs R M false mem fuel (by omega) (by omega) hv hg hm (by omega) (by omega)
      have rr : ∀ H, pureCall (words_Run.f GA 8000) [cdV false cs R M, .ro false (natsU mem), I6 fuel] H = _ := fun H => pureCall_of (H := H) h2 (by simp [plainL, pc, plainU, plainB]) (by simp [cleanB, cleanL, endV_clean])
      obtain ⟨⟨hR0, hR1, hM0, hM1, hcl2⟩, hok⟩ := validF_ok hv
      have hok2 := validF_ok2 hv
      obtain ⟨o1, o2, o3⟩ := runM_ok cs fuel R.toNat (by omega) hok _ _ _ h1 (s0_ok R.toNat mem hm (by omega)) (by simp [s0]) (by simp only [s0]; omega)
      have hRn : ((R.toNat : Nat) : Int) = R := Int.toNat_of_nonneg hR0
      have h3 := rRun_spec GA 7996 fuel false cs R.toNat M mem false (by omega) hm (by omega) (by omega) (by omega) (by omega) (by omega) hok2 (by omega) s' (runM_more cs fuel _ _ _ h1 1)
      rw [hRn] at h3
      have ra : ∀ H, pureCall (alembicref17_Run.f GA 8000) [cdV false cs R M, .nils, .ro false (natsU mem), I6 fuel] H = _ := fun H => pureCall_of (H := H) h3 (by simp [plainL, pc, plainU, plainB]) (endQ_clean _ _)
      have hll := o1.leaks
      have hmm : s'.mem.length = mem.length := o3
      have sw : ∀ H, pureCall (alembicref_SameWords.f GA 8000) [.ro false (natsU s'.mem), .ro false (natsU s'.mem)] H = _ := fun H => pureCall_of (H := H) (SameWords_self GA 7999 false false s'.mem (by omega) (by omega)) (by simp [plainL, plainU, plainB]) rfl
      have sl : ∀ H, pureCall (alembicref_SameLeaks.f GA 8000) [.ro false (leaksV s'.leaks), .ro false (leaksV s'.leaks)] H = _ := fun H => pureCall_of (H := H) (SameLeaks_self GA 7998 false false s'.leaks (by omega) (by omega)) (by simp [plainL, plainLk, plainB]) rfl
      clear o1 o2 o3 hll hmm h1 h2 h3 hok hok2 hRn hv hg
      simp only [ftO, veV] at *
      unfold ftV endV endQ at *
      generalize natsU s'.mem = mm at *
      generalize leaksV s'.leaks = ll at *
      generalize s'.code = cc at *
      generalize s'.steps = tt at *
      repeat' first
        | (with_reducible refine eT ?_)
        | (with_reducible refine eN ?_)
        | (with_reducible refine eS ?_)
        | (with_reducible refine eXn ?_)
        | (with_reducible refine eXr ?_)
        | (with_reducible refine eX ?_)
        | (with_reducible refine eI ?_)
        | (with_reducible refine eK ?_)
        | (with_reducible refine eV0 ?_)
        | (with_reducible refine eGtt ?_)
        | (with_reducible refine eGff ?_)
        | (with_reducible refine eGtf ?_)
        | (with_reducible refine eGft ?_)
        | (with_reducible refine eGno ?_)
        | ((with_reducible apply eCn); (simp only [nth_zero, nth_succ]; done))
        | ((with_reducible apply eCn); (simp only [nth_zero, nth_succ]; (with_reducible exact rfl)))
        | ((with_reducible apply eJ); (rfl))
        | ((with_reducible apply eB); (first | (with_reducible exact rfl) | (simp (disch := omega) only [pu_val, nth_zero, nth_succ, gd_tt, gd_ff, gd_tf, gd_ft, gd_no, rf, rl, b1, d1, d2, d3, ro_, rv, rw_, rs0, sv, lv, rr, ra, lm, sw, sl]; first | done | (with_reducible exact rfl) | (with_reducible exact ⟨rfl, rfl⟩)) | (simp (disch := omega) only [pu_val, nth_zero, nth_succ, gd_tt, gd_ff, gd_tf, gd_ft, gd_no, pickA_true, pickA_false, q_notT, q_notF, q_eql_t, q_eql_f, q_neq_t, q_neq_f, q_lss_t, q_lss_f, q_leq_t, q_leq_f, q_gtr_t, q_gtr_f, q_geq_t, q_geq_f, q_add, q_sub, q_addU, q_cvI, q_cvU, q_cv8, q_cv32, q_idxSl, q_lenRo, q_lenSl, q_lenNil, q_nilp, q_nilrp, q_nilfn, q_nilgl, q_fap, q_farp, q_ldrp, q_boxAgg, q_ext0, q_ext1, q_ext2, List.getElem?_cons_zero, List.getElem?_cons_succ, List.getElem?_nil, q_stS, q_ldp0, q_ldpS, q_ldB, q_ldBT, q_ldrpT, q_ldBi, q_ldBb, q_boxA, q_boxI, q_boxB, List.length_cons, List.length_nil, List.cons_append, List.nil_append, List.drop_zero, List.drop_succ_cons, List.take_succ_cons, List.take_zero, q_stp0, q_stpS, q_stB, Option.map_some, putC, AV.cells, storable, buildSt, fillA, buildRo, buildOwn, fillE, List.replicate_succ, List.replicate_zero, List.set_cons_zero, List.set_cons_succ, Nat.reduceLeDiff, Nat.reduceLT, Nat.le_refl, and_self, true_and, and_true, ↓reduceIte, if_true, Bool.not_true, Bool.not_false, Int.toNat_natCast, Nat.zero_add, Nat.reduceAdd, rf, rl, b1, d1, d2, d3, ro_, rv, rw_, rs0, sv, lv, rr, ra, lm, sw, sl]; first | done | (with_reducible exact rfl) | (with_reducible exact ⟨rfl, rfl⟩))))
        | ((with_reducible apply eR); (simp only [nth_zero, nth_succ]; (with_reducible exact rfl)))
        | ((with_reducible refine sEql (fun hq => ?_) (fun hq => ?_)) <;> try subst hq)
        | ((with_reducible refine sNeq (fun hq => ?_) (fun hq => ?_)) <;> try subst hq)
        | ((with_reducible refine sLss (fun hq => ?_) (fun hq => ?_)) <;> try subst hq)
        | ((with_reducible refine sLeq (fun hq => ?_) (fun hq => ?_)) <;> try subst hq)
        | ((with_reducible refine sGtr (fun hq => ?_) (fun hq => ?_)) <;> try subst hq)
        | ((with_reducible refine sGeq (fun hq => ?_) (fun hq => ?_)) <;> try subst hq)
        | ((with_reducible refine sNot (fun hq => ?_) (fun hq => ?_)) <;> try subst hq)
        | ((with_reducible refine sPick (fun hq => ?_) (fun hq => ?_)) <;> try subst hq)
        | ((with_reducible refine sGd (fun hq => ?_) (fun hq => ?_)) <;> try subst hq)
        | ((with_reducible refine eBool (fun hq => ?_) (fun hq => ?_)) <;> try subst hq)
      all_goals first | omega | exact w1b rfl
end Go.Proofs.YtcmblhedhgiofaaDoor
