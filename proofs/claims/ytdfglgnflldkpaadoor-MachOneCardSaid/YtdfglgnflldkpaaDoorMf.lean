/- The document's machine: one instruction. Printed by mf.py. -/
import Derived.Test.YtdfglgnflldkpaaDoorIi
import Derived.Test.YtdfglgnflldkpaaDoorMc
namespace Go.Proofs.YtdfglgnflldkpaaDoor.Mir
open Go
set_option linter.unusedVariables false
set_option linter.unusedSimpArgs false
set_option maxHeartbeats 8000000
set_option maxRecDepth 20000

theorem rget_spec (G : Globs) (k : Nat) (r : List Nat) (hr : r.length = 31) (j : Int) (h0 : 0 ≤ j) (h1 : j ≤ 31) : alembicref17_get.f G (k + 1) [rgV r, I6 j] [] = some (Un (getF r j), []) := by
  rw [alembicref17_get.step]
  unfold alembicref17_get.c getF
  have b1 : ∀ H, boxRoA (rgV r) H = some (.rp false (rgV r) 0, H) := fun H => rfl
  refine e_in ?_
  by_cases h : j = 31
  · rw [if_pos h]
    repeat' first
      | (with_reducible first | refine eT ?_ | refine eN ?_ | refine eS ?_ | refine eXn ?_ | refine eXr ?_ | refine eX ?_ | refine eI ?_ | refine eK ?_ | refine eV0 ?_ | refine eGr0 ?_ | refine eGtt ?_ | refine eGff ?_ | refine eGtf ?_ | refine eGft ?_ | refine eGno ?_)
      | ((with_reducible apply eCn); (simp only [nth_zero, nth_succ]; first | done | (with_reducible exact rfl)))
      | ((with_reducible apply eJ); (rfl))
      | ((with_reducible apply eGr1); (first | rfl | (simp only [nth_zero, nth_succ]; rfl)))
      | ((with_reducible apply eB); (first | (with_reducible exact rfl) | (simp (disch := omega) only [qf, b1]; first | done | (with_reducible exact rfl) | (with_reducible exact ⟨rfl, rfl⟩)) | (simp (disch := omega) only [qa, putC, AV.cells, storable, buildSt, fillA, buildRo, buildOwn, fillE, Nat.reduceLeDiff, Nat.reduceLT, Nat.reduceAdd, ↓reduceIte, b1]; first | done | (with_reducible exact rfl) | (with_reducible exact ⟨rfl, rfl⟩))))
      | ((with_reducible apply eR); (simp only [nth_zero, nth_succ]; (with_reducible exact rfl)))
      | ((with_reducible first | refine sEql ?_ ?_ | refine sNeq ?_ ?_ | refine sLss ?_ ?_ | refine sLeq ?_ ?_ | refine sGtr ?_ ?_ | refine sGeq ?_ ?_ | refine sNot ?_ ?_ | refine sPick ?_ ?_ | refine sGd ?_ ?_ | refine eBool ?_ ?_) <;> intro hq <;> try subst hq)
    exact w1i rfl
  · rw [if_neg h]
    have i1 : idxAddrArr 31 1 (.rp false (rgV r) 0) (I6 j) = some (.rp false (rgV r) j.toNat) := by
      unfold idxAddrArr
      simp only
      rw [if_pos ⟨h0, by omega⟩, Nat.zero_add, Nat.mul_one]
    have l1 : ∀ H, loadV G false 1 (.rp false (rgV r) j.toNat) H = some (Un (r.getD j.toNat 0)) := fun H => by
      rw [q_ldrp, natsU_get _ _ (by omega)]
    repeat' first
      | (with_reducible first | refine eT ?_ | refine eN ?_ | refine eS ?_ | refine eXn ?_ | refine eXr ?_ | refine eX ?_ | refine eI ?_ | refine eK ?_ | refine eV0 ?_ | refine eGr0 ?_ | refine eGtt ?_ | refine eGff ?_ | refine eGtf ?_ | refine eGft ?_ | refine eGno ?_)
      | ((with_reducible apply eCn); (simp only [nth_zero, nth_succ]; first | done | (with_reducible exact rfl)))
      | ((with_reducible apply eJ); (rfl))
      | ((with_reducible apply eGr1); (first | rfl | (simp only [nth_zero, nth_succ]; rfl)))
      | ((with_reducible apply eB); (first | (with_reducible exact rfl) | (simp (disch := omega) only [qf, b1, i1, l1]; first | done | (with_reducible exact rfl) | (with_reducible exact ⟨rfl, rfl⟩)) | (simp (disch := omega) only [qa, putC, AV.cells, storable, buildSt, fillA, buildRo, buildOwn, fillE, Nat.reduceLeDiff, Nat.reduceLT, Nat.reduceAdd, ↓reduceIte, b1, i1, l1]; first | done | (with_reducible exact rfl) | (with_reducible exact ⟨rfl, rfl⟩))))
      | ((with_reducible apply eR); (simp only [nth_zero, nth_succ]; (with_reducible exact rfl)))
      | ((with_reducible first | refine sEql ?_ ?_ | refine sNeq ?_ ?_ | refine sLss ?_ ?_ | refine sLeq ?_ ?_ | refine sGtr ?_ ?_ | refine sGeq ?_ ?_ | refine sNot ?_ ?_ | refine sPick ?_ ?_ | refine sGd ?_ ?_ | refine eBool ?_ ?_) <;> intro hq <;> try subst hq)
    exact w1i rfl

theorem zeroRg : (AV.agg [(.int .u64 0), (.int .u64 0), (.int .u64 0), (.int .u64 0), (.int .u64 0), (.int .u64 0), (.int .u64 0), (.int .u64 0), (.int .u64 0), (.int .u64 0), (.int .u64 0), (.int .u64 0), (.int .u64 0), (.int .u64 0), (.int .u64 0), (.int .u64 0), (.int .u64 0), (.int .u64 0), (.int .u64 0), (.int .u64 0), (.int .u64 0), (.int .u64 0), (.int .u64 0), (.int .u64 0), (.int .u64 0), (.int .u64 0), (.int .u64 0), (.int .u64 0), (.int .u64 0), (.int .u64 0), (.int .u64 0)]) = rgV (List.replicate 31 0) := rfl
theorem zeroRgL : [(AV.int .u64 0), (.int .u64 0), (.int .u64 0), (.int .u64 0), (.int .u64 0), (.int .u64 0), (.int .u64 0), (.int .u64 0), (.int .u64 0), (.int .u64 0), (.int .u64 0), (.int .u64 0), (.int .u64 0), (.int .u64 0), (.int .u64 0), (.int .u64 0), (.int .u64 0), (.int .u64 0), (.int .u64 0), (.int .u64 0), (.int .u64 0), (.int .u64 0), (.int .u64 0), (.int .u64 0), (.int .u64 0), (.int .u64 0), (.int .u64 0), (.int .u64 0), (.int .u64 0), (.int .u64 0), (.int .u64 0)] = natsU (List.replicate 31 0) := rfl
theorem boxRg (r : List Nat) (hr : r.length = 31) (H : AHeap) : boxA 44 (rgV r) H = some (.ptr H.length 1 0 0, H ++ [⟨44, 31, [rgV r]⟩]) := by
  simp [boxA, storable, AV.cells, natsU_len, hr]
theorem stReg {j i : Nat} {H : AHeap} {r : List Nat} (hr : r.length = 31) (hi : i < 31) (x : Nat) (e : H[j]? = some ⟨44, 31, [rgV r]⟩) : stS (storeV 1 (.ptr j 1 0 i) (Un x) H) = some (.tup [], H.set j ⟨44, 31, [rgV (r.set i x)]⟩) := by
  have e2 : putC (natsU r) i [Un x] = natsU (r.set i x) := by
    rw [natsU_set, List.set_eq_take_append_cons_drop, if_pos (by rw [natsU_len]; omega)]
    rfl
  unfold storeV
  simp only [e, AV.cells, natsU_len, hr, List.length_singleton, storable, List.getElem?_cons_zero]
  rw [if_pos (by simp), if_pos (by omega), e2]
  rfl
theorem stRgA {j : Nat} {H : AHeap} {q r : List Nat} (hq : q.length = 31) (hr : r.length = 31) (e : H[j]? = some ⟨44, 31, [rgV r]⟩) : stS (storeV 31 (.ptr j 1 0 0) (rgV q) H) = some (.tup [], H.set j ⟨44, 31, [rgV q]⟩) := by
  have e2 : putC (natsU r) 0 (natsU q) = natsU q := by
    unfold putC
    rw [List.take_zero, List.nil_append, List.drop_of_length_le (by rw [natsU_len, natsU_len]; omega), List.append_nil]
  unfold storeV
  simp only [e, AV.cells, natsU_len, hq, List.length_singleton, storable, List.getElem?_cons_zero]
  rw [if_pos (by simp), if_pos (by omega), e2]
  rfl

theorem rset_spec (G : Globs) (k : Nat) (r : List Nat) (hr : r.length = 31) (j : Int) (h0 : 0 ≤ j) (h1 : j ≤ 31) (x : Nat) : alembicref17_set.f G (k + 1) [rgV r, I6 j, Un x] [] = some (rgV (setF r j x), []) := by
  rw [alembicref17_set.step]
  unfold alembicref17_set.c setF
  rw [zeroRg]
  have hZ : (List.replicate 31 0 : List Nat).length = 31 := rfl
  obtain ⟨Z, hz⟩ : ∃ Z : List Nat, Z = List.replicate 31 0 := ⟨_, rfl⟩
  rw [← hz] at hZ ⊢
  clear hz
  have b1 : boxA 44 (rgV r) [] = some (.ptr 0 1 0 0, [⟨44, 31, [rgV r]⟩]) := boxRg r hr []
  have b2 : boxA 44 (rgV Z) [⟨44, 31, [rgV r]⟩] = some (.ptr 1 1 0 0, [⟨44, 31, [rgV r]⟩, ⟨44, 31, [rgV Z]⟩]) := boxRg Z hZ _
  refine e_in ?_
  by_cases h : j = 31
  · rw [if_pos h]
    have l1 : loadV G true 31 (.ptr 0 1 0 0) [⟨44, 31, [rgV r]⟩, ⟨44, 31, [rgV Z]⟩] = some (rgV r) := ldRg G hr rfl
    have s1 : stS (storeV 31 (.ptr 1 1 0 0) (rgV r) [⟨44, 31, [rgV r]⟩, ⟨44, 31, [rgV Z]⟩]) = some (.tup [], [⟨44, 31, [rgV r]⟩, ⟨44, 31, [rgV r]⟩]) := stRgA hr hZ rfl
    repeat' first
      | (with_reducible first | refine eT ?_ | refine eN ?_ | refine eS ?_ | refine eXn ?_ | refine eXr ?_ | refine eX ?_ | refine eI ?_ | refine eK ?_ | refine eV0 ?_ | refine eGr0 ?_ | refine eGtt ?_ | refine eGff ?_ | refine eGtf ?_ | refine eGft ?_ | refine eGno ?_)
      | ((with_reducible apply eCn); (simp only [nth_zero, nth_succ]; first | done | (with_reducible exact rfl)))
      | ((with_reducible apply eJ); (rfl))
      | ((with_reducible apply eGr1); (first | rfl | (simp only [nth_zero, nth_succ]; rfl)))
      | ((with_reducible apply eB); (first | (with_reducible exact rfl) | (simp (disch := omega) only [qf, b1, b2, l1, s1]; first | done | (with_reducible exact rfl) | (with_reducible exact ⟨rfl, rfl⟩)) | (simp (disch := omega) only [qa, putC, AV.cells, storable, buildSt, fillA, buildRo, buildOwn, fillE, Nat.reduceLeDiff, Nat.reduceLT, Nat.reduceAdd, ↓reduceIte, b1, b2, l1, s1]; first | done | (with_reducible exact rfl) | (with_reducible exact ⟨rfl, rfl⟩))))
      | ((with_reducible apply eR); (simp only [nth_zero, nth_succ]; (with_reducible exact rfl)))
      | ((with_reducible first | refine sEql ?_ ?_ | refine sNeq ?_ ?_ | refine sLss ?_ ?_ | refine sLeq ?_ ?_ | refine sGtr ?_ ?_ | refine sGeq ?_ ?_ | refine sNot ?_ ?_ | refine sPick ?_ ?_ | refine sGd ?_ ?_ | refine eBool ?_ ?_) <;> intro hq <;> try subst hq)
    exact oF (finL_one (by simp [belowB, natsU_below]) (ldRg G hr rfl))
  · rw [if_neg h]
    have i1 : idxAddrArr 31 1 (.ptr 0 1 0 0) (I6 j) = some (.ptr 0 1 0 j.toNat) := by
      unfold idxAddrArr
      simp only
      rw [if_pos ⟨h0, by omega⟩, Nat.zero_add, Nat.mul_one]
    have hr' : (r.set j.toNat x).length = 31 := by rw [List.length_set]; exact hr
    have s0 : stS (storeV 1 (.ptr 0 1 0 j.toNat) (Un x) [⟨44, 31, [rgV r]⟩, ⟨44, 31, [rgV Z]⟩]) = some (.tup [], [⟨44, 31, [rgV (r.set j.toNat x)]⟩, ⟨44, 31, [rgV Z]⟩]) := stReg hr (by omega) x rfl
    generalize r.set j.toNat x = q at *
    have l1 : loadV G true 31 (.ptr 0 1 0 0) [⟨44, 31, [rgV q]⟩, ⟨44, 31, [rgV Z]⟩] = some (rgV q) := ldRg G hr' rfl
    have s1 : stS (storeV 31 (.ptr 1 1 0 0) (rgV q) [⟨44, 31, [rgV q]⟩, ⟨44, 31, [rgV Z]⟩]) = some (.tup [], [⟨44, 31, [rgV q]⟩, ⟨44, 31, [rgV q]⟩]) := stRgA hr' hZ rfl
    repeat' first
      | (with_reducible first | refine eT ?_ | refine eN ?_ | refine eS ?_ | refine eXn ?_ | refine eXr ?_ | refine eX ?_ | refine eI ?_ | refine eK ?_ | refine eV0 ?_ | refine eGr0 ?_ | refine eGtt ?_ | refine eGff ?_ | refine eGtf ?_ | refine eGft ?_ | refine eGno ?_)
      | ((with_reducible apply eCn); (simp only [nth_zero, nth_succ]; first | done | (with_reducible exact rfl)))
      | ((with_reducible apply eJ); (rfl))
      | ((with_reducible apply eGr1); (first | rfl | (simp only [nth_zero, nth_succ]; rfl)))
      | ((with_reducible apply eB); (first | (with_reducible exact rfl) | (simp (disch := omega) only [qf, b1, b2, i1, s0, l1, s1]; first | done | (with_reducible exact rfl) | (with_reducible exact ⟨rfl, rfl⟩)) | (simp (disch := omega) only [qa, putC, AV.cells, storable, buildSt, fillA, buildRo, buildOwn, fillE, Nat.reduceLeDiff, Nat.reduceLT, Nat.reduceAdd, ↓reduceIte, b1, b2, i1, s0, l1, s1]; first | done | (with_reducible exact rfl) | (with_reducible exact ⟨rfl, rfl⟩))))
      | ((with_reducible apply eR); (simp only [nth_zero, nth_succ]; (with_reducible exact rfl)))
      | ((with_reducible first | refine sEql ?_ ?_ | refine sNeq ?_ ?_ | refine sLss ?_ ?_ | refine sLeq ?_ ?_ | refine sGtr ?_ ?_ | refine sGeq ?_ ?_ | refine sNot ?_ ?_ | refine sPick ?_ ?_ | refine sGd ?_ ?_ | refine eBool ?_ ?_) <;> intro hq <;> try subst hq)
    exact oF (finL_one (by simp [belowB, natsU_below]) (ldRg G hr' rfl))

theorem rholds_spec (G : Globs) (k : Nat) (c : Int) (f : FL) : alembicref17_Holds.f G (k + 1) [I6 c, f.a] [] = some (.bool (holdsF c f), []) := by
  obtain ⟨n, z, cc, v⟩ := f
  rw [alembicref17_Holds.step]
  unfold alembicref17_Holds.c holdsF FL.a
  have i1 : idxAddrArr 4 1 (.rp false (.agg [.bool n, .bool z, .bool cc, .bool v]) 0) (.int .i64 1) = some (.rp false (.agg [.bool n, .bool z, .bool cc, .bool v]) 1) := rfl
  have i2 : idxAddrArr 4 1 (.rp false (.agg [.bool n, .bool z, .bool cc, .bool v]) 0) (.int .i64 2) = some (.rp false (.agg [.bool n, .bool z, .bool cc, .bool v]) 2) := rfl
  refine e_in ?_
  simp only
  cases z <;> cases cc
  all_goals (
    repeat' first
      | (with_reducible first | refine eT ?_ | refine eN ?_ | refine eS ?_ | refine eXn ?_ | refine eXr ?_ | refine eX ?_ | refine eI ?_ | refine eK ?_ | refine eV0 ?_ | refine eGr0 ?_ | refine eGtt ?_ | refine eGff ?_ | refine eGtf ?_ | refine eGft ?_ | refine eGno ?_)
      | ((with_reducible apply eCn); (simp only [nth_zero, nth_succ]; first | done | (with_reducible exact rfl)))
      | ((with_reducible apply eJ); (rfl))
      | ((with_reducible apply eGr1); (first | rfl | (simp only [nth_zero, nth_succ]; rfl)))
      | ((with_reducible apply eB); (first | (with_reducible exact rfl) | (simp (disch := omega) only [qf, i1, i2]; first | done | (with_reducible exact rfl) | (with_reducible exact ⟨rfl, rfl⟩)) | (simp (disch := omega) only [qa, putC, AV.cells, storable, buildSt, fillA, buildRo, buildOwn, fillE, Nat.reduceLeDiff, Nat.reduceLT, Nat.reduceAdd, ↓reduceIte, i1, i2]; first | done | (with_reducible exact rfl) | (with_reducible exact ⟨rfl, rfl⟩))))
      | ((with_reducible apply eR); (simp only [nth_zero, nth_succ]; (with_reducible exact rfl)))
      | ((with_reducible first | refine sEql ?_ ?_ | refine sNeq ?_ ?_ | refine sLss ?_ ?_ | refine sLeq ?_ ?_ | refine sGtr ?_ ?_ | refine sGeq ?_ ?_ | refine sNot ?_ ?_ | refine sPick ?_ ?_ | refine sGd ?_ ?_ | refine eBool ?_ ?_) <;> intro hq <;> try subst hq)
    all_goals (refine w1b ?_; simp (disch := omega) only [if_pos, if_neg, if_true, Bool.false_eq_true, if_false, ↓reduceIte]; try rfl))

theorem i64_and63 (P : Program) (t : Nat) (c : Bool) {x : Int} (h0 : 0 ≤ x) (h1 : x < 9223372036854775808) : bin P .and t c (I6 x) (.int .i64 63) = some (I6 (x % 64)) := by
  obtain ⟨X, rfl⟩ : ∃ X : Nat, x = X := ⟨x.toNat, by omega⟩
  rw [bin_and]
  show some (AV.int .i64 (IntKind.i64.wrap ((BitVec.ofInt 64 (X : Int) &&& BitVec.ofInt 64 (63 : Int)).toNat : Int))) = _
  have e1 : (BitVec.ofInt 64 (X : Int)).toNat = X := ofInt_u64 X (by omega)
  have e2 : (BitVec.ofInt 64 (63 : Int)).toNat = 2 ^ 6 - 1 := by decide
  rw [BitVec.toNat_and, e1, e2, Nat.and_two_pow_sub_one_eq_mod, wrap_of_i64 (by omega) (by omega)]
  rfl

/-- The blocks of the document's. -/
def hp2 (r : List Nat) (f : FL) : AHeap := [⟨44, 31, [rgV r]⟩, ⟨53, 4, [f.a]⟩]
theorem rone_fin (G : Globs) (r : List Nat) (hr : r.length = 31) (f : FL) (b : Bool) : finL [loadV G true 31 (.ptr 0 1 0 0) (hp2 r f), loadV G true 4 (.ptr 1 1 0 0) (hp2 r f), some (.bool b)] 0 (hp2 r f) = some (.ret, [oneV (r, f, b)], []) := by
  have e1 := ldRg G (j := 0) (H := hp2 r f) hr rfl
  have e2 : loadV G true 4 (.ptr 1 1 0 0) (hp2 r f) = some f.a := rfl
  unfold finL
  rw [e1, e2]
  exact finV_three (by simp [belowB, natsU_below]) rfl rfl _
theorem setF_len (r : List Nat) (hr : r.length = 31) (j : Int) (x : Nat) : (setF r j x).length = 31 := by
  unfold setF; split
  · exact hr
  · rw [List.length_set]; exact hr

theorem rone_1 (G : Globs) (k : Nat) (d n m a imm : Int) (hw : rightB ⟨1, d, n, m, a, imm⟩ = true) (r : List Nat) (hr : RgOk r) (f : FL) :
    alembicref17_One.f G (k + 7) [mV 1 d n m a imm, rgV r, f.a] [] = some (oneV ((doesF ⟨1, d, n, m, a, imm⟩ r f).1, (doesF ⟨1, d, n, m, a, imm⟩ r f).2, true), []) := by
  have r1 : ∀ H, pureCall (alembicref17_Word.f G (k + 6)) [mV 1 d n m a imm] H = _ := fun H => pureCall_of (H := H) (rword_spec G k ⟨1, d, n, m, a, imm⟩) rfl rfl
  rw [hw] at r1
  obtain ⟨_, hd, hn, hm, ha, hf⟩ := right_ok hw
  have himm : 0 ≤ imm ∧ imm < 65536 := by
    unfold rightB at hw
    rw [Bool.and_eq_true] at hw
    obtain ⟨_, h⟩ := hw
    simp [formF, fairB, regB, extraB, immB, halfI, stackB] at h
    omega
  simp only at hd hn hm ha hf
  clear hw
  have ld := hr.get d
  have ln := hr.get n
  have lm := hr.get m
  have la := hr.get a
  have g : ∀ j, 0 ≤ j → j ≤ 31 → ∀ H, pureCall (alembicref17_get.f G (k + 6)) [rgV r, I6 j] H = some (Un (getF r j), H) := fun j h0 h1 H => pureCall_of (H := H) (rget_spec G (k + 5) r hr.len j h0 h1) (by simp [plainL, plainB, plainU]) rfl
  have g1 := g d hd.1 hd.2
  have g2 := g n hn.1 hn.2
  have g3 := g m hm.1 hm.2
  have g4 := g a ha.1 ha.2
  clear g
  have st : ∀ x H, pureCall (alembicref17_set.f G (k + 6)) [rgV r, I6 d, Un x] H = some (rgV (setF r d x), H) := fun x H => pureCall_of (H := H) (rset_spec G (k + 5) r hr.len d hd.1 hd.2 x) (by simp [plainL, plainB, plainU]) (by simp [cleanB, cleanU])
  obtain ⟨ki, hki⟩ : ∃ z, z = u64 imm := ⟨_, rfl⟩
  have hkl : ki < 18446744073709551616 := by rw [hki]; exact u64_lt _
  have hkv : (ki : Int) = imm := by rw [hki]; unfold u64; omega
  have k1 : convInt .u64 (I6 imm) = some (Un ki) := by rw [conv_u64, hki]
  have k2 : bin Tryd.prog .and 3 true (I6 imm) (.int .i64 63) = some (I6 (imm % 64)) := i64_and63 _ _ _ (by omega) (by omega)
  obtain ⟨kj, hkj⟩ : ∃ z : Nat, (z : Int) = imm % 64 := ⟨(imm % 64).toNat, by omega⟩
  rw [← hkj] at k2
  have k3 : convInt .u64 (Nn kj) = some (Un kj) := by rw [convInt_int, wrap_of_u64 (by omega) (by omega)]
  have ed : doesF ⟨1, d, n, m, a, imm⟩ r f = (setF r d (u64 imm * 2 ^ (16 * a).toNat % 18446744073709551616), f) := by
    unfold doesF madeF
    simp only [Int.reduceEq, or_false, false_or, or_self, or_true, true_or, if_false, if_true, ↓reduceIte]
  rw [ed]
  clear ed
  simp only
  try rw [← hki]
  generalize getF r d = rd at *
  generalize getF r n = rn at *
  generalize getF r m = rm at *
  generalize getF r a = ra at *
  obtain ⟨a0, a3⟩ := hf.1 (by omega)
  obtain ⟨s, hs⟩ : ∃ s : Nat, s = (16 * a).toNat := ⟨_, rfl⟩
  have e16 : bin Tryd.prog .mul 3 true (.int .i64 16) (I6 a) = some (Nn s) := by
    rw [bin_mul, wrap_of_i64 (by omega) (by omega)]; congr 2; omega
  rw [← hs]
  have e17 : convInt .u64 (Nn s) = some (Un s) := by rw [convInt_int, wrap_of_u64 (by omega) (by omega)]
  have k17 := u64_shl Tryd.prog 43 false .u64 ki s (by omega)
  clear hs
  generalize ki * 2 ^ s % 18446744073709551616 = xx at *
  rw [alembicref17_One.step]
  unfold alembicref17_One.c
  rw [zeroRg, zeroRgL]
  have hZ : (List.replicate 31 0 : List Nat).length = 31 := rfl
  have z1 : buildArr 1 (natsU (List.replicate 31 0)) [] = some (rgV (List.replicate 31 0)) := rfl
  have z2 : buildArr 1 [.bool false, .bool false, .bool false, .bool false] [] = some f00.a := rfl
  have b1 : boxA 44 (rgV (List.replicate 31 0)) [] = some (.ptr 0 1 0 0, [⟨44, 31, [rgV (List.replicate 31 0)]⟩]) := boxRg _ rfl []
  have b2 : boxA 53 (.agg [.bool false, .bool false, .bool false, .bool false]) [⟨44, 31, [rgV (List.replicate 31 0)]⟩] = some (.ptr 1 1 0 0, hp2 (List.replicate 31 0) f00) := rfl
  generalize List.replicate 31 0 = Z at *
  have c0 : ∀ H, boxRoA (rgV r) H = some (.rp false (rgV r) 0, H) := fun H => rfl
  have c1 : ∀ H, boxRoA f.a H = some (.rp false f.a 0, H) := fun H => rfl
  have c2 : ∀ H, loadV G true 31 (.rp false (rgV r) 0) H = some (rgV r) := fun H => by
    rw [q_ldrpT, if_pos (by rw [natsU_len, hr.len]; exact Nat.le_refl _), List.drop_zero, List.take_of_length_le (by rw [natsU_len, hr.len]; exact Nat.le_refl _)]
  have c3 : ∀ H, loadV G true 4 (.rp false f.a 0) H = some f.a := fun H => rfl
  have c4 : ∀ q : List Nat, q.length = 31 → stS (storeV 31 (.ptr 0 1 0 0) (rgV q) (hp2 Z f00)) = some (.tup [], hp2 q f00) := fun q hq => stRgA hq hZ rfl
  have c5 : ∀ (q : List Nat) (g : FL), stS (storeV 4 (.ptr 1 1 0 0) g.a (hp2 q f00)) = some (.tup [], hp2 q g) := fun q g => rfl
  have st' := st xx
  have hq := setF_len r hr.len d xx
  generalize setF r d xx = q at *
  have c4' := c4 q hq
  have c5' := c5 q f
  refine e_in ?_
  repeat first
    | (with_reducible first | refine eT ?_ | refine eN ?_ | refine eS ?_ | refine eXn ?_ | refine eXr ?_ | refine eX ?_ | refine eI ?_ | refine eK ?_ | refine eV0 ?_ | refine eGr0 ?_ | refine eGtt ?_ | refine eGff ?_ | refine eGtf ?_ | refine eGft ?_ | refine eGno ?_)
    | ((with_reducible apply eCn); (simp only [nth_zero, nth_succ]; first | done | (with_reducible exact rfl)))
    | ((with_reducible apply eJ); (rfl))
    | ((with_reducible apply eGr1); (first | rfl | (simp only [nth_zero, nth_succ]; rfl)))
    | ((with_reducible apply eB); (first | (with_reducible exact rfl) | (simp (disch := omega) only [qf, r1, g1, g2, g3, g4, k1, k2, k3, b1, b2, c0, c1, c2, c3, z1, z2, e16, e17, k17, st', c4', c5']; first | done | (with_reducible exact rfl) | (with_reducible exact ⟨rfl, rfl⟩)) | (simp (disch := omega) only [qa, putC, AV.cells, storable, buildSt, fillA, buildRo, buildOwn, fillE, Nat.reduceLeDiff, Nat.reduceLT, Nat.reduceAdd, ↓reduceIte, r1, g1, g2, g3, g4, k1, k2, k3, b1, b2, c0, c1, c2, c3, z1, z2, e16, e17, k17, st', c4', c5']; first | done | (with_reducible exact rfl) | (with_reducible exact ⟨rfl, rfl⟩))))
    | ((with_reducible apply eR); (simp only [nth_zero, nth_succ]; (with_reducible exact rfl)))
  exact oF (rone_fin G q hq f true)
theorem rone_2 (G : Globs) (k : Nat) (d n m a imm : Int) (hw : rightB ⟨2, d, n, m, a, imm⟩ = true) (r : List Nat) (hr : RgOk r) (f : FL) :
    alembicref17_One.f G (k + 7) [mV 2 d n m a imm, rgV r, f.a] [] = some (oneV ((doesF ⟨2, d, n, m, a, imm⟩ r f).1, (doesF ⟨2, d, n, m, a, imm⟩ r f).2, true), []) := by
  have r1 : ∀ H, pureCall (alembicref17_Word.f G (k + 6)) [mV 2 d n m a imm] H = _ := fun H => pureCall_of (H := H) (rword_spec G k ⟨2, d, n, m, a, imm⟩) rfl rfl
  rw [hw] at r1
  obtain ⟨_, hd, hn, hm, ha, hf⟩ := right_ok hw
  have himm : 0 ≤ imm ∧ imm < 65536 := by
    unfold rightB at hw
    rw [Bool.and_eq_true] at hw
    obtain ⟨_, h⟩ := hw
    simp [formF, fairB, regB, extraB, immB, halfI, stackB] at h
    omega
  simp only at hd hn hm ha hf
  clear hw
  have ld := hr.get d
  have ln := hr.get n
  have lm := hr.get m
  have la := hr.get a
  have g : ∀ j, 0 ≤ j → j ≤ 31 → ∀ H, pureCall (alembicref17_get.f G (k + 6)) [rgV r, I6 j] H = some (Un (getF r j), H) := fun j h0 h1 H => pureCall_of (H := H) (rget_spec G (k + 5) r hr.len j h0 h1) (by simp [plainL, plainB, plainU]) rfl
  have g1 := g d hd.1 hd.2
  have g2 := g n hn.1 hn.2
  have g3 := g m hm.1 hm.2
  have g4 := g a ha.1 ha.2
  clear g
  have st : ∀ x H, pureCall (alembicref17_set.f G (k + 6)) [rgV r, I6 d, Un x] H = some (rgV (setF r d x), H) := fun x H => pureCall_of (H := H) (rset_spec G (k + 5) r hr.len d hd.1 hd.2 x) (by simp [plainL, plainB, plainU]) (by simp [cleanB, cleanU])
  obtain ⟨ki, hki⟩ : ∃ z, z = u64 imm := ⟨_, rfl⟩
  have hkl : ki < 18446744073709551616 := by rw [hki]; exact u64_lt _
  have hkv : (ki : Int) = imm := by rw [hki]; unfold u64; omega
  have k1 : convInt .u64 (I6 imm) = some (Un ki) := by rw [conv_u64, hki]
  have k2 : bin Tryd.prog .and 3 true (I6 imm) (.int .i64 63) = some (I6 (imm % 64)) := i64_and63 _ _ _ (by omega) (by omega)
  obtain ⟨kj, hkj⟩ : ∃ z : Nat, (z : Int) = imm % 64 := ⟨(imm % 64).toNat, by omega⟩
  rw [← hkj] at k2
  have k3 : convInt .u64 (Nn kj) = some (Un kj) := by rw [convInt_int, wrap_of_u64 (by omega) (by omega)]
  have ed : doesF ⟨2, d, n, m, a, imm⟩ r f = (setF r d (movkF (getF r d) (u64 imm) (16 * a).toNat), f) := by
    unfold doesF madeF
    simp only [Int.reduceEq, or_false, false_or, or_self, or_true, true_or, if_false, if_true, ↓reduceIte]
  rw [ed]
  clear ed
  simp only
  try rw [← hki]
  generalize getF r d = rd at *
  generalize getF r n = rn at *
  generalize getF r m = rm at *
  generalize getF r a = ra at *
  obtain ⟨a0, a3⟩ := hf.1 (by omega)
  obtain ⟨s, hs⟩ : ∃ s : Nat, s = (16 * a).toNat := ⟨_, rfl⟩
  have e16 : bin Tryd.prog .mul 3 true (.int .i64 16) (I6 a) = some (Nn s) := by
    rw [bin_mul, wrap_of_i64 (by omega) (by omega)]; congr 2; omega
  rw [← hs]
  have e17 : convInt .u64 (Nn s) = some (Un s) := by rw [convInt_int, wrap_of_u64 (by omega) (by omega)]
  have k17 := u64_shl Tryd.prog 43 false .u64 ki s (by omega)
  have k18 : bin Tryd.prog .shl 43 true (.int .u64 65535) (Un s) = some (Un (65535 * 2 ^ s % 18446744073709551616)) := u64_shl Tryd.prog 43 true .u64 65535 s (by omega)
  have k19 := bin_andNot Tryd.prog 43 false .u64 (rd : Int) ((65535 * 2 ^ s % 18446744073709551616 : Nat) : Int)
  have k20 : bin Tryd.prog .or 43 false (.int .u64 (bits .andNot .u64 (rd : Int) ((65535 * 2 ^ s % 18446744073709551616 : Nat) : Int))) (Un (ki * 2 ^ s % 18446744073709551616)) = some (Un (movkF rd ki s)) := by
    rw [bin_or]
    unfold movkF
    have hb : ∀ p q : Int, 0 ≤ bits .or .u64 p q ∧ bits .or .u64 p q < 18446744073709551616 := fun p q => by
      show 0 ≤ IntKind.u64.wrap _ ∧ IntKind.u64.wrap _ < _
      rw [wrap_u64_eq]; omega
    have := hb (bits .andNot .u64 (rd : Int) ((65535 * 2 ^ s % 18446744073709551616 : Nat) : Int)) ((ki * 2 ^ s % 18446744073709551616 : Nat) : Int)
    congr 2
    unfold u64
    omega
  clear hs
  generalize ki * 2 ^ s % 18446744073709551616 = z1' at *
  generalize 65535 * 2 ^ s % 18446744073709551616 = z2' at *
  generalize movkF rd ki s = xx at *
  generalize bits .andNot .u64 (rd : Int) (z2' : Int) = z4' at *
  rw [alembicref17_One.step]
  unfold alembicref17_One.c
  rw [zeroRg, zeroRgL]
  have hZ : (List.replicate 31 0 : List Nat).length = 31 := rfl
  have z1 : buildArr 1 (natsU (List.replicate 31 0)) [] = some (rgV (List.replicate 31 0)) := rfl
  have z2 : buildArr 1 [.bool false, .bool false, .bool false, .bool false] [] = some f00.a := rfl
  have b1 : boxA 44 (rgV (List.replicate 31 0)) [] = some (.ptr 0 1 0 0, [⟨44, 31, [rgV (List.replicate 31 0)]⟩]) := boxRg _ rfl []
  have b2 : boxA 53 (.agg [.bool false, .bool false, .bool false, .bool false]) [⟨44, 31, [rgV (List.replicate 31 0)]⟩] = some (.ptr 1 1 0 0, hp2 (List.replicate 31 0) f00) := rfl
  generalize List.replicate 31 0 = Z at *
  have c0 : ∀ H, boxRoA (rgV r) H = some (.rp false (rgV r) 0, H) := fun H => rfl
  have c1 : ∀ H, boxRoA f.a H = some (.rp false f.a 0, H) := fun H => rfl
  have c2 : ∀ H, loadV G true 31 (.rp false (rgV r) 0) H = some (rgV r) := fun H => by
    rw [q_ldrpT, if_pos (by rw [natsU_len, hr.len]; exact Nat.le_refl _), List.drop_zero, List.take_of_length_le (by rw [natsU_len, hr.len]; exact Nat.le_refl _)]
  have c3 : ∀ H, loadV G true 4 (.rp false f.a 0) H = some f.a := fun H => rfl
  have c4 : ∀ q : List Nat, q.length = 31 → stS (storeV 31 (.ptr 0 1 0 0) (rgV q) (hp2 Z f00)) = some (.tup [], hp2 q f00) := fun q hq => stRgA hq hZ rfl
  have c5 : ∀ (q : List Nat) (g : FL), stS (storeV 4 (.ptr 1 1 0 0) g.a (hp2 q f00)) = some (.tup [], hp2 q g) := fun q g => rfl
  have st' := st xx
  have hq := setF_len r hr.len d xx
  generalize setF r d xx = q at *
  have c4' := c4 q hq
  have c5' := c5 q f
  refine e_in ?_
  repeat first
    | (with_reducible first | refine eT ?_ | refine eN ?_ | refine eS ?_ | refine eXn ?_ | refine eXr ?_ | refine eX ?_ | refine eI ?_ | refine eK ?_ | refine eV0 ?_ | refine eGr0 ?_ | refine eGtt ?_ | refine eGff ?_ | refine eGtf ?_ | refine eGft ?_ | refine eGno ?_)
    | ((with_reducible apply eCn); (simp only [nth_zero, nth_succ]; first | done | (with_reducible exact rfl)))
    | ((with_reducible apply eJ); (rfl))
    | ((with_reducible apply eGr1); (first | rfl | (simp only [nth_zero, nth_succ]; rfl)))
    | ((with_reducible apply eB); (first | (with_reducible exact rfl) | (simp (disch := omega) only [qf, r1, g1, g2, g3, g4, k1, k2, k3, b1, b2, c0, c1, c2, c3, z1, z2, e16, e17, k17, k18, k19, k20, st', c4', c5']; first | done | (with_reducible exact rfl) | (with_reducible exact ⟨rfl, rfl⟩)) | (simp (disch := omega) only [qa, putC, AV.cells, storable, buildSt, fillA, buildRo, buildOwn, fillE, Nat.reduceLeDiff, Nat.reduceLT, Nat.reduceAdd, ↓reduceIte, r1, g1, g2, g3, g4, k1, k2, k3, b1, b2, c0, c1, c2, c3, z1, z2, e16, e17, k17, k18, k19, k20, st', c4', c5']; first | done | (with_reducible exact rfl) | (with_reducible exact ⟨rfl, rfl⟩))))
    | ((with_reducible apply eR); (simp only [nth_zero, nth_succ]; (with_reducible exact rfl)))
  exact oF (rone_fin G q hq f true)
theorem rone_3 (G : Globs) (k : Nat) (d n m a imm : Int) (hw : rightB ⟨3, d, n, m, a, imm⟩ = true) (r : List Nat) (hr : RgOk r) (f : FL) :
    alembicref17_One.f G (k + 7) [mV 3 d n m a imm, rgV r, f.a] [] = some (oneV ((doesF ⟨3, d, n, m, a, imm⟩ r f).1, (doesF ⟨3, d, n, m, a, imm⟩ r f).2, true), []) := by
  have r1 : ∀ H, pureCall (alembicref17_Word.f G (k + 6)) [mV 3 d n m a imm] H = _ := fun H => pureCall_of (H := H) (rword_spec G k ⟨3, d, n, m, a, imm⟩) rfl rfl
  rw [hw] at r1
  obtain ⟨_, hd, hn, hm, ha, hf⟩ := right_ok hw
  have himm : 0 ≤ imm ∧ imm < 65536 := by
    unfold rightB at hw
    rw [Bool.and_eq_true] at hw
    obtain ⟨_, h⟩ := hw
    simp [formF, fairB, regB, extraB, immB, halfI, stackB] at h
    omega
  simp only at hd hn hm ha hf
  clear hw
  have ld := hr.get d
  have ln := hr.get n
  have lm := hr.get m
  have la := hr.get a
  have g : ∀ j, 0 ≤ j → j ≤ 31 → ∀ H, pureCall (alembicref17_get.f G (k + 6)) [rgV r, I6 j] H = some (Un (getF r j), H) := fun j h0 h1 H => pureCall_of (H := H) (rget_spec G (k + 5) r hr.len j h0 h1) (by simp [plainL, plainB, plainU]) rfl
  have g1 := g d hd.1 hd.2
  have g2 := g n hn.1 hn.2
  have g3 := g m hm.1 hm.2
  have g4 := g a ha.1 ha.2
  clear g
  have st : ∀ x H, pureCall (alembicref17_set.f G (k + 6)) [rgV r, I6 d, Un x] H = some (rgV (setF r d x), H) := fun x H => pureCall_of (H := H) (rset_spec G (k + 5) r hr.len d hd.1 hd.2 x) (by simp [plainL, plainB, plainU]) (by simp [cleanB, cleanU])
  obtain ⟨ki, hki⟩ : ∃ z, z = u64 imm := ⟨_, rfl⟩
  have hkl : ki < 18446744073709551616 := by rw [hki]; exact u64_lt _
  have hkv : (ki : Int) = imm := by rw [hki]; unfold u64; omega
  have k1 : convInt .u64 (I6 imm) = some (Un ki) := by rw [conv_u64, hki]
  have k2 : bin Tryd.prog .and 3 true (I6 imm) (.int .i64 63) = some (I6 (imm % 64)) := i64_and63 _ _ _ (by omega) (by omega)
  obtain ⟨kj, hkj⟩ : ∃ z : Nat, (z : Int) = imm % 64 := ⟨(imm % 64).toNat, by omega⟩
  rw [← hkj] at k2
  have k3 : convInt .u64 (Nn kj) = some (Un kj) := by rw [convInt_int, wrap_of_u64 (by omega) (by omega)]
  have ed : doesF ⟨3, d, n, m, a, imm⟩ r f = (setF r d ((getF r n + getF r m) % 18446744073709551616), f) := by
    unfold doesF madeF
    simp only [Int.reduceEq, or_false, false_or, or_self, or_true, true_or, if_false, if_true, ↓reduceIte]
  rw [ed]
  clear ed
  simp only
  try rw [← hki]
  generalize getF r d = rd at *
  generalize getF r n = rn at *
  generalize getF r m = rm at *
  generalize getF r a = ra at *
  have o1 := u64_add Tryd.prog 43 false rn rm
  generalize (rn + rm) % 18446744073709551616 = xx at *
  rw [alembicref17_One.step]
  unfold alembicref17_One.c
  rw [zeroRg, zeroRgL]
  have hZ : (List.replicate 31 0 : List Nat).length = 31 := rfl
  have z1 : buildArr 1 (natsU (List.replicate 31 0)) [] = some (rgV (List.replicate 31 0)) := rfl
  have z2 : buildArr 1 [.bool false, .bool false, .bool false, .bool false] [] = some f00.a := rfl
  have b1 : boxA 44 (rgV (List.replicate 31 0)) [] = some (.ptr 0 1 0 0, [⟨44, 31, [rgV (List.replicate 31 0)]⟩]) := boxRg _ rfl []
  have b2 : boxA 53 (.agg [.bool false, .bool false, .bool false, .bool false]) [⟨44, 31, [rgV (List.replicate 31 0)]⟩] = some (.ptr 1 1 0 0, hp2 (List.replicate 31 0) f00) := rfl
  generalize List.replicate 31 0 = Z at *
  have c0 : ∀ H, boxRoA (rgV r) H = some (.rp false (rgV r) 0, H) := fun H => rfl
  have c1 : ∀ H, boxRoA f.a H = some (.rp false f.a 0, H) := fun H => rfl
  have c2 : ∀ H, loadV G true 31 (.rp false (rgV r) 0) H = some (rgV r) := fun H => by
    rw [q_ldrpT, if_pos (by rw [natsU_len, hr.len]; exact Nat.le_refl _), List.drop_zero, List.take_of_length_le (by rw [natsU_len, hr.len]; exact Nat.le_refl _)]
  have c3 : ∀ H, loadV G true 4 (.rp false f.a 0) H = some f.a := fun H => rfl
  have c4 : ∀ q : List Nat, q.length = 31 → stS (storeV 31 (.ptr 0 1 0 0) (rgV q) (hp2 Z f00)) = some (.tup [], hp2 q f00) := fun q hq => stRgA hq hZ rfl
  have c5 : ∀ (q : List Nat) (g : FL), stS (storeV 4 (.ptr 1 1 0 0) g.a (hp2 q f00)) = some (.tup [], hp2 q g) := fun q g => rfl
  have st' := st xx
  have hq := setF_len r hr.len d xx
  generalize setF r d xx = q at *
  have c4' := c4 q hq
  have c5' := c5 q f
  refine e_in ?_
  repeat first
    | (with_reducible first | refine eT ?_ | refine eN ?_ | refine eS ?_ | refine eXn ?_ | refine eXr ?_ | refine eX ?_ | refine eI ?_ | refine eK ?_ | refine eV0 ?_ | refine eGr0 ?_ | refine eGtt ?_ | refine eGff ?_ | refine eGtf ?_ | refine eGft ?_ | refine eGno ?_)
    | ((with_reducible apply eCn); (simp only [nth_zero, nth_succ]; first | done | (with_reducible exact rfl)))
    | ((with_reducible apply eJ); (rfl))
    | ((with_reducible apply eGr1); (first | rfl | (simp only [nth_zero, nth_succ]; rfl)))
    | ((with_reducible apply eB); (first | (with_reducible exact rfl) | (simp (disch := omega) only [qf, r1, g1, g2, g3, g4, k1, k2, k3, b1, b2, c0, c1, c2, c3, z1, z2, o1, st', c4', c5']; first | done | (with_reducible exact rfl) | (with_reducible exact ⟨rfl, rfl⟩)) | (simp (disch := omega) only [qa, putC, AV.cells, storable, buildSt, fillA, buildRo, buildOwn, fillE, Nat.reduceLeDiff, Nat.reduceLT, Nat.reduceAdd, ↓reduceIte, r1, g1, g2, g3, g4, k1, k2, k3, b1, b2, c0, c1, c2, c3, z1, z2, o1, st', c4', c5']; first | done | (with_reducible exact rfl) | (with_reducible exact ⟨rfl, rfl⟩))))
    | ((with_reducible apply eR); (simp only [nth_zero, nth_succ]; (with_reducible exact rfl)))
  exact oF (rone_fin G q hq f true)
theorem rone_4 (G : Globs) (k : Nat) (d n m a imm : Int) (hw : rightB ⟨4, d, n, m, a, imm⟩ = true) (r : List Nat) (hr : RgOk r) (f : FL) :
    alembicref17_One.f G (k + 7) [mV 4 d n m a imm, rgV r, f.a] [] = some (oneV ((doesF ⟨4, d, n, m, a, imm⟩ r f).1, (doesF ⟨4, d, n, m, a, imm⟩ r f).2, true), []) := by
  have r1 : ∀ H, pureCall (alembicref17_Word.f G (k + 6)) [mV 4 d n m a imm] H = _ := fun H => pureCall_of (H := H) (rword_spec G k ⟨4, d, n, m, a, imm⟩) rfl rfl
  rw [hw] at r1
  obtain ⟨_, hd, hn, hm, ha, hf⟩ := right_ok hw
  have himm : 0 ≤ imm ∧ imm < 65536 := by
    unfold rightB at hw
    rw [Bool.and_eq_true] at hw
    obtain ⟨_, h⟩ := hw
    simp [formF, fairB, regB, extraB, immB, halfI, stackB] at h
    omega
  simp only at hd hn hm ha hf
  clear hw
  have ld := hr.get d
  have ln := hr.get n
  have lm := hr.get m
  have la := hr.get a
  have g : ∀ j, 0 ≤ j → j ≤ 31 → ∀ H, pureCall (alembicref17_get.f G (k + 6)) [rgV r, I6 j] H = some (Un (getF r j), H) := fun j h0 h1 H => pureCall_of (H := H) (rget_spec G (k + 5) r hr.len j h0 h1) (by simp [plainL, plainB, plainU]) rfl
  have g1 := g d hd.1 hd.2
  have g2 := g n hn.1 hn.2
  have g3 := g m hm.1 hm.2
  have g4 := g a ha.1 ha.2
  clear g
  have st : ∀ x H, pureCall (alembicref17_set.f G (k + 6)) [rgV r, I6 d, Un x] H = some (rgV (setF r d x), H) := fun x H => pureCall_of (H := H) (rset_spec G (k + 5) r hr.len d hd.1 hd.2 x) (by simp [plainL, plainB, plainU]) (by simp [cleanB, cleanU])
  obtain ⟨ki, hki⟩ : ∃ z, z = u64 imm := ⟨_, rfl⟩
  have hkl : ki < 18446744073709551616 := by rw [hki]; exact u64_lt _
  have hkv : (ki : Int) = imm := by rw [hki]; unfold u64; omega
  have k1 : convInt .u64 (I6 imm) = some (Un ki) := by rw [conv_u64, hki]
  have k2 : bin Tryd.prog .and 3 true (I6 imm) (.int .i64 63) = some (I6 (imm % 64)) := i64_and63 _ _ _ (by omega) (by omega)
  obtain ⟨kj, hkj⟩ : ∃ z : Nat, (z : Int) = imm % 64 := ⟨(imm % 64).toNat, by omega⟩
  rw [← hkj] at k2
  have k3 : convInt .u64 (Nn kj) = some (Un kj) := by rw [convInt_int, wrap_of_u64 (by omega) (by omega)]
  have ed : doesF ⟨4, d, n, m, a, imm⟩ r f = (setF r d ((getF r n + 18446744073709551616 - getF r m) % 18446744073709551616), f) := by
    unfold doesF madeF
    simp only [Int.reduceEq, or_false, false_or, or_self, or_true, true_or, if_false, if_true, ↓reduceIte]
  rw [ed]
  clear ed
  simp only
  try rw [← hki]
  generalize getF r d = rd at *
  generalize getF r n = rn at *
  generalize getF r m = rm at *
  generalize getF r a = ra at *
  have o1 := u64_sub Tryd.prog 43 false rn rm lm
  generalize (rn + 18446744073709551616 - rm) % 18446744073709551616 = xx at *
  rw [alembicref17_One.step]
  unfold alembicref17_One.c
  rw [zeroRg, zeroRgL]
  have hZ : (List.replicate 31 0 : List Nat).length = 31 := rfl
  have z1 : buildArr 1 (natsU (List.replicate 31 0)) [] = some (rgV (List.replicate 31 0)) := rfl
  have z2 : buildArr 1 [.bool false, .bool false, .bool false, .bool false] [] = some f00.a := rfl
  have b1 : boxA 44 (rgV (List.replicate 31 0)) [] = some (.ptr 0 1 0 0, [⟨44, 31, [rgV (List.replicate 31 0)]⟩]) := boxRg _ rfl []
  have b2 : boxA 53 (.agg [.bool false, .bool false, .bool false, .bool false]) [⟨44, 31, [rgV (List.replicate 31 0)]⟩] = some (.ptr 1 1 0 0, hp2 (List.replicate 31 0) f00) := rfl
  generalize List.replicate 31 0 = Z at *
  have c0 : ∀ H, boxRoA (rgV r) H = some (.rp false (rgV r) 0, H) := fun H => rfl
  have c1 : ∀ H, boxRoA f.a H = some (.rp false f.a 0, H) := fun H => rfl
  have c2 : ∀ H, loadV G true 31 (.rp false (rgV r) 0) H = some (rgV r) := fun H => by
    rw [q_ldrpT, if_pos (by rw [natsU_len, hr.len]; exact Nat.le_refl _), List.drop_zero, List.take_of_length_le (by rw [natsU_len, hr.len]; exact Nat.le_refl _)]
  have c3 : ∀ H, loadV G true 4 (.rp false f.a 0) H = some f.a := fun H => rfl
  have c4 : ∀ q : List Nat, q.length = 31 → stS (storeV 31 (.ptr 0 1 0 0) (rgV q) (hp2 Z f00)) = some (.tup [], hp2 q f00) := fun q hq => stRgA hq hZ rfl
  have c5 : ∀ (q : List Nat) (g : FL), stS (storeV 4 (.ptr 1 1 0 0) g.a (hp2 q f00)) = some (.tup [], hp2 q g) := fun q g => rfl
  have st' := st xx
  have hq := setF_len r hr.len d xx
  generalize setF r d xx = q at *
  have c4' := c4 q hq
  have c5' := c5 q f
  refine e_in ?_
  repeat first
    | (with_reducible first | refine eT ?_ | refine eN ?_ | refine eS ?_ | refine eXn ?_ | refine eXr ?_ | refine eX ?_ | refine eI ?_ | refine eK ?_ | refine eV0 ?_ | refine eGr0 ?_ | refine eGtt ?_ | refine eGff ?_ | refine eGtf ?_ | refine eGft ?_ | refine eGno ?_)
    | ((with_reducible apply eCn); (simp only [nth_zero, nth_succ]; first | done | (with_reducible exact rfl)))
    | ((with_reducible apply eJ); (rfl))
    | ((with_reducible apply eGr1); (first | rfl | (simp only [nth_zero, nth_succ]; rfl)))
    | ((with_reducible apply eB); (first | (with_reducible exact rfl) | (simp (disch := omega) only [qf, r1, g1, g2, g3, g4, k1, k2, k3, b1, b2, c0, c1, c2, c3, z1, z2, o1, st', c4', c5']; first | done | (with_reducible exact rfl) | (with_reducible exact ⟨rfl, rfl⟩)) | (simp (disch := omega) only [qa, putC, AV.cells, storable, buildSt, fillA, buildRo, buildOwn, fillE, Nat.reduceLeDiff, Nat.reduceLT, Nat.reduceAdd, ↓reduceIte, r1, g1, g2, g3, g4, k1, k2, k3, b1, b2, c0, c1, c2, c3, z1, z2, o1, st', c4', c5']; first | done | (with_reducible exact rfl) | (with_reducible exact ⟨rfl, rfl⟩))))
    | ((with_reducible apply eR); (simp only [nth_zero, nth_succ]; (with_reducible exact rfl)))
  exact oF (rone_fin G q hq f true)
theorem rone_5 (G : Globs) (k : Nat) (d n m a imm : Int) (hw : rightB ⟨5, d, n, m, a, imm⟩ = true) (r : List Nat) (hr : RgOk r) (f : FL) :
    alembicref17_One.f G (k + 7) [mV 5 d n m a imm, rgV r, f.a] [] = some (oneV ((doesF ⟨5, d, n, m, a, imm⟩ r f).1, (doesF ⟨5, d, n, m, a, imm⟩ r f).2, true), []) := by
  have r1 : ∀ H, pureCall (alembicref17_Word.f G (k + 6)) [mV 5 d n m a imm] H = _ := fun H => pureCall_of (H := H) (rword_spec G k ⟨5, d, n, m, a, imm⟩) rfl rfl
  rw [hw] at r1
  obtain ⟨_, hd, hn, hm, ha, hf⟩ := right_ok hw
  have himm : 0 ≤ imm ∧ imm < 65536 := by
    unfold rightB at hw
    rw [Bool.and_eq_true] at hw
    obtain ⟨_, h⟩ := hw
    simp [formF, fairB, regB, extraB, immB, halfI, stackB] at h
    omega
  simp only at hd hn hm ha hf
  clear hw
  have ld := hr.get d
  have ln := hr.get n
  have lm := hr.get m
  have la := hr.get a
  have g : ∀ j, 0 ≤ j → j ≤ 31 → ∀ H, pureCall (alembicref17_get.f G (k + 6)) [rgV r, I6 j] H = some (Un (getF r j), H) := fun j h0 h1 H => pureCall_of (H := H) (rget_spec G (k + 5) r hr.len j h0 h1) (by simp [plainL, plainB, plainU]) rfl
  have g1 := g d hd.1 hd.2
  have g2 := g n hn.1 hn.2
  have g3 := g m hm.1 hm.2
  have g4 := g a ha.1 ha.2
  clear g
  have st : ∀ x H, pureCall (alembicref17_set.f G (k + 6)) [rgV r, I6 d, Un x] H = some (rgV (setF r d x), H) := fun x H => pureCall_of (H := H) (rset_spec G (k + 5) r hr.len d hd.1 hd.2 x) (by simp [plainL, plainB, plainU]) (by simp [cleanB, cleanU])
  obtain ⟨ki, hki⟩ : ∃ z, z = u64 imm := ⟨_, rfl⟩
  have hkl : ki < 18446744073709551616 := by rw [hki]; exact u64_lt _
  have hkv : (ki : Int) = imm := by rw [hki]; unfold u64; omega
  have k1 : convInt .u64 (I6 imm) = some (Un ki) := by rw [conv_u64, hki]
  have k2 : bin Tryd.prog .and 3 true (I6 imm) (.int .i64 63) = some (I6 (imm % 64)) := i64_and63 _ _ _ (by omega) (by omega)
  obtain ⟨kj, hkj⟩ : ∃ z : Nat, (z : Int) = imm % 64 := ⟨(imm % 64).toNat, by omega⟩
  rw [← hkj] at k2
  have k3 : convInt .u64 (Nn kj) = some (Un kj) := by rw [convInt_int, wrap_of_u64 (by omega) (by omega)]
  have ed : doesF ⟨5, d, n, m, a, imm⟩ r f = (setF r d (getF r n &&& getF r m), f) := by
    unfold doesF madeF
    simp only [Int.reduceEq, or_false, false_or, or_self, or_true, true_or, if_false, if_true, ↓reduceIte]
  rw [ed]
  clear ed
  simp only
  try rw [← hki]
  generalize getF r d = rd at *
  generalize getF r n = rn at *
  generalize getF r m = rm at *
  generalize getF r a = ra at *
  have o1 : bin Tryd.prog .and 43 false (Un rn) (Un rm) = some (Un (rn &&& rm)) := by rw [bin_and, u64_and rn rm ln lm]
  generalize rn &&& rm = xx at *
  rw [alembicref17_One.step]
  unfold alembicref17_One.c
  rw [zeroRg, zeroRgL]
  have hZ : (List.replicate 31 0 : List Nat).length = 31 := rfl
  have z1 : buildArr 1 (natsU (List.replicate 31 0)) [] = some (rgV (List.replicate 31 0)) := rfl
  have z2 : buildArr 1 [.bool false, .bool false, .bool false, .bool false] [] = some f00.a := rfl
  have b1 : boxA 44 (rgV (List.replicate 31 0)) [] = some (.ptr 0 1 0 0, [⟨44, 31, [rgV (List.replicate 31 0)]⟩]) := boxRg _ rfl []
  have b2 : boxA 53 (.agg [.bool false, .bool false, .bool false, .bool false]) [⟨44, 31, [rgV (List.replicate 31 0)]⟩] = some (.ptr 1 1 0 0, hp2 (List.replicate 31 0) f00) := rfl
  generalize List.replicate 31 0 = Z at *
  have c0 : ∀ H, boxRoA (rgV r) H = some (.rp false (rgV r) 0, H) := fun H => rfl
  have c1 : ∀ H, boxRoA f.a H = some (.rp false f.a 0, H) := fun H => rfl
  have c2 : ∀ H, loadV G true 31 (.rp false (rgV r) 0) H = some (rgV r) := fun H => by
    rw [q_ldrpT, if_pos (by rw [natsU_len, hr.len]; exact Nat.le_refl _), List.drop_zero, List.take_of_length_le (by rw [natsU_len, hr.len]; exact Nat.le_refl _)]
  have c3 : ∀ H, loadV G true 4 (.rp false f.a 0) H = some f.a := fun H => rfl
  have c4 : ∀ q : List Nat, q.length = 31 → stS (storeV 31 (.ptr 0 1 0 0) (rgV q) (hp2 Z f00)) = some (.tup [], hp2 q f00) := fun q hq => stRgA hq hZ rfl
  have c5 : ∀ (q : List Nat) (g : FL), stS (storeV 4 (.ptr 1 1 0 0) g.a (hp2 q f00)) = some (.tup [], hp2 q g) := fun q g => rfl
  have st' := st xx
  have hq := setF_len r hr.len d xx
  generalize setF r d xx = q at *
  have c4' := c4 q hq
  have c5' := c5 q f
  refine e_in ?_
  repeat first
    | (with_reducible first | refine eT ?_ | refine eN ?_ | refine eS ?_ | refine eXn ?_ | refine eXr ?_ | refine eX ?_ | refine eI ?_ | refine eK ?_ | refine eV0 ?_ | refine eGr0 ?_ | refine eGtt ?_ | refine eGff ?_ | refine eGtf ?_ | refine eGft ?_ | refine eGno ?_)
    | ((with_reducible apply eCn); (simp only [nth_zero, nth_succ]; first | done | (with_reducible exact rfl)))
    | ((with_reducible apply eJ); (rfl))
    | ((with_reducible apply eGr1); (first | rfl | (simp only [nth_zero, nth_succ]; rfl)))
    | ((with_reducible apply eB); (first | (with_reducible exact rfl) | (simp (disch := omega) only [qf, r1, g1, g2, g3, g4, k1, k2, k3, b1, b2, c0, c1, c2, c3, z1, z2, o1, st', c4', c5']; first | done | (with_reducible exact rfl) | (with_reducible exact ⟨rfl, rfl⟩)) | (simp (disch := omega) only [qa, putC, AV.cells, storable, buildSt, fillA, buildRo, buildOwn, fillE, Nat.reduceLeDiff, Nat.reduceLT, Nat.reduceAdd, ↓reduceIte, r1, g1, g2, g3, g4, k1, k2, k3, b1, b2, c0, c1, c2, c3, z1, z2, o1, st', c4', c5']; first | done | (with_reducible exact rfl) | (with_reducible exact ⟨rfl, rfl⟩))))
    | ((with_reducible apply eR); (simp only [nth_zero, nth_succ]; (with_reducible exact rfl)))
  exact oF (rone_fin G q hq f true)
theorem rone_6 (G : Globs) (k : Nat) (d n m a imm : Int) (hw : rightB ⟨6, d, n, m, a, imm⟩ = true) (r : List Nat) (hr : RgOk r) (f : FL) :
    alembicref17_One.f G (k + 7) [mV 6 d n m a imm, rgV r, f.a] [] = some (oneV ((doesF ⟨6, d, n, m, a, imm⟩ r f).1, (doesF ⟨6, d, n, m, a, imm⟩ r f).2, true), []) := by
  have r1 : ∀ H, pureCall (alembicref17_Word.f G (k + 6)) [mV 6 d n m a imm] H = _ := fun H => pureCall_of (H := H) (rword_spec G k ⟨6, d, n, m, a, imm⟩) rfl rfl
  rw [hw] at r1
  obtain ⟨_, hd, hn, hm, ha, hf⟩ := right_ok hw
  have himm : 0 ≤ imm ∧ imm < 65536 := by
    unfold rightB at hw
    rw [Bool.and_eq_true] at hw
    obtain ⟨_, h⟩ := hw
    simp [formF, fairB, regB, extraB, immB, halfI, stackB] at h
    omega
  simp only at hd hn hm ha hf
  clear hw
  have ld := hr.get d
  have ln := hr.get n
  have lm := hr.get m
  have la := hr.get a
  have g : ∀ j, 0 ≤ j → j ≤ 31 → ∀ H, pureCall (alembicref17_get.f G (k + 6)) [rgV r, I6 j] H = some (Un (getF r j), H) := fun j h0 h1 H => pureCall_of (H := H) (rget_spec G (k + 5) r hr.len j h0 h1) (by simp [plainL, plainB, plainU]) rfl
  have g1 := g d hd.1 hd.2
  have g2 := g n hn.1 hn.2
  have g3 := g m hm.1 hm.2
  have g4 := g a ha.1 ha.2
  clear g
  have st : ∀ x H, pureCall (alembicref17_set.f G (k + 6)) [rgV r, I6 d, Un x] H = some (rgV (setF r d x), H) := fun x H => pureCall_of (H := H) (rset_spec G (k + 5) r hr.len d hd.1 hd.2 x) (by simp [plainL, plainB, plainU]) (by simp [cleanB, cleanU])
  obtain ⟨ki, hki⟩ : ∃ z, z = u64 imm := ⟨_, rfl⟩
  have hkl : ki < 18446744073709551616 := by rw [hki]; exact u64_lt _
  have hkv : (ki : Int) = imm := by rw [hki]; unfold u64; omega
  have k1 : convInt .u64 (I6 imm) = some (Un ki) := by rw [conv_u64, hki]
  have k2 : bin Tryd.prog .and 3 true (I6 imm) (.int .i64 63) = some (I6 (imm % 64)) := i64_and63 _ _ _ (by omega) (by omega)
  obtain ⟨kj, hkj⟩ : ∃ z : Nat, (z : Int) = imm % 64 := ⟨(imm % 64).toNat, by omega⟩
  rw [← hkj] at k2
  have k3 : convInt .u64 (Nn kj) = some (Un kj) := by rw [convInt_int, wrap_of_u64 (by omega) (by omega)]
  have ed : doesF ⟨6, d, n, m, a, imm⟩ r f = (setF r d (getF r n ||| getF r m), f) := by
    unfold doesF madeF
    simp only [Int.reduceEq, or_false, false_or, or_self, or_true, true_or, if_false, if_true, ↓reduceIte]
  rw [ed]
  clear ed
  simp only
  try rw [← hki]
  generalize getF r d = rd at *
  generalize getF r n = rn at *
  generalize getF r m = rm at *
  generalize getF r a = ra at *
  have o1 : bin Tryd.prog .or 43 false (Un rn) (Un rm) = some (Un (rn ||| rm)) := by rw [bin_or, u64_or rn rm ln lm]
  generalize rn ||| rm = xx at *
  rw [alembicref17_One.step]
  unfold alembicref17_One.c
  rw [zeroRg, zeroRgL]
  have hZ : (List.replicate 31 0 : List Nat).length = 31 := rfl
  have z1 : buildArr 1 (natsU (List.replicate 31 0)) [] = some (rgV (List.replicate 31 0)) := rfl
  have z2 : buildArr 1 [.bool false, .bool false, .bool false, .bool false] [] = some f00.a := rfl
  have b1 : boxA 44 (rgV (List.replicate 31 0)) [] = some (.ptr 0 1 0 0, [⟨44, 31, [rgV (List.replicate 31 0)]⟩]) := boxRg _ rfl []
  have b2 : boxA 53 (.agg [.bool false, .bool false, .bool false, .bool false]) [⟨44, 31, [rgV (List.replicate 31 0)]⟩] = some (.ptr 1 1 0 0, hp2 (List.replicate 31 0) f00) := rfl
  generalize List.replicate 31 0 = Z at *
  have c0 : ∀ H, boxRoA (rgV r) H = some (.rp false (rgV r) 0, H) := fun H => rfl
  have c1 : ∀ H, boxRoA f.a H = some (.rp false f.a 0, H) := fun H => rfl
  have c2 : ∀ H, loadV G true 31 (.rp false (rgV r) 0) H = some (rgV r) := fun H => by
    rw [q_ldrpT, if_pos (by rw [natsU_len, hr.len]; exact Nat.le_refl _), List.drop_zero, List.take_of_length_le (by rw [natsU_len, hr.len]; exact Nat.le_refl _)]
  have c3 : ∀ H, loadV G true 4 (.rp false f.a 0) H = some f.a := fun H => rfl
  have c4 : ∀ q : List Nat, q.length = 31 → stS (storeV 31 (.ptr 0 1 0 0) (rgV q) (hp2 Z f00)) = some (.tup [], hp2 q f00) := fun q hq => stRgA hq hZ rfl
  have c5 : ∀ (q : List Nat) (g : FL), stS (storeV 4 (.ptr 1 1 0 0) g.a (hp2 q f00)) = some (.tup [], hp2 q g) := fun q g => rfl
  have st' := st xx
  have hq := setF_len r hr.len d xx
  generalize setF r d xx = q at *
  have c4' := c4 q hq
  have c5' := c5 q f
  refine e_in ?_
  repeat first
    | (with_reducible first | refine eT ?_ | refine eN ?_ | refine eS ?_ | refine eXn ?_ | refine eXr ?_ | refine eX ?_ | refine eI ?_ | refine eK ?_ | refine eV0 ?_ | refine eGr0 ?_ | refine eGtt ?_ | refine eGff ?_ | refine eGtf ?_ | refine eGft ?_ | refine eGno ?_)
    | ((with_reducible apply eCn); (simp only [nth_zero, nth_succ]; first | done | (with_reducible exact rfl)))
    | ((with_reducible apply eJ); (rfl))
    | ((with_reducible apply eGr1); (first | rfl | (simp only [nth_zero, nth_succ]; rfl)))
    | ((with_reducible apply eB); (first | (with_reducible exact rfl) | (simp (disch := omega) only [qf, r1, g1, g2, g3, g4, k1, k2, k3, b1, b2, c0, c1, c2, c3, z1, z2, o1, st', c4', c5']; first | done | (with_reducible exact rfl) | (with_reducible exact ⟨rfl, rfl⟩)) | (simp (disch := omega) only [qa, putC, AV.cells, storable, buildSt, fillA, buildRo, buildOwn, fillE, Nat.reduceLeDiff, Nat.reduceLT, Nat.reduceAdd, ↓reduceIte, r1, g1, g2, g3, g4, k1, k2, k3, b1, b2, c0, c1, c2, c3, z1, z2, o1, st', c4', c5']; first | done | (with_reducible exact rfl) | (with_reducible exact ⟨rfl, rfl⟩))))
    | ((with_reducible apply eR); (simp only [nth_zero, nth_succ]; (with_reducible exact rfl)))
  exact oF (rone_fin G q hq f true)
theorem rone_7 (G : Globs) (k : Nat) (d n m a imm : Int) (hw : rightB ⟨7, d, n, m, a, imm⟩ = true) (r : List Nat) (hr : RgOk r) (f : FL) :
    alembicref17_One.f G (k + 7) [mV 7 d n m a imm, rgV r, f.a] [] = some (oneV ((doesF ⟨7, d, n, m, a, imm⟩ r f).1, (doesF ⟨7, d, n, m, a, imm⟩ r f).2, true), []) := by
  have r1 : ∀ H, pureCall (alembicref17_Word.f G (k + 6)) [mV 7 d n m a imm] H = _ := fun H => pureCall_of (H := H) (rword_spec G k ⟨7, d, n, m, a, imm⟩) rfl rfl
  rw [hw] at r1
  obtain ⟨_, hd, hn, hm, ha, hf⟩ := right_ok hw
  have himm : 0 ≤ imm ∧ imm < 65536 := by
    unfold rightB at hw
    rw [Bool.and_eq_true] at hw
    obtain ⟨_, h⟩ := hw
    simp [formF, fairB, regB, extraB, immB, halfI, stackB] at h
    omega
  simp only at hd hn hm ha hf
  clear hw
  have ld := hr.get d
  have ln := hr.get n
  have lm := hr.get m
  have la := hr.get a
  have g : ∀ j, 0 ≤ j → j ≤ 31 → ∀ H, pureCall (alembicref17_get.f G (k + 6)) [rgV r, I6 j] H = some (Un (getF r j), H) := fun j h0 h1 H => pureCall_of (H := H) (rget_spec G (k + 5) r hr.len j h0 h1) (by simp [plainL, plainB, plainU]) rfl
  have g1 := g d hd.1 hd.2
  have g2 := g n hn.1 hn.2
  have g3 := g m hm.1 hm.2
  have g4 := g a ha.1 ha.2
  clear g
  have st : ∀ x H, pureCall (alembicref17_set.f G (k + 6)) [rgV r, I6 d, Un x] H = some (rgV (setF r d x), H) := fun x H => pureCall_of (H := H) (rset_spec G (k + 5) r hr.len d hd.1 hd.2 x) (by simp [plainL, plainB, plainU]) (by simp [cleanB, cleanU])
  obtain ⟨ki, hki⟩ : ∃ z, z = u64 imm := ⟨_, rfl⟩
  have hkl : ki < 18446744073709551616 := by rw [hki]; exact u64_lt _
  have hkv : (ki : Int) = imm := by rw [hki]; unfold u64; omega
  have k1 : convInt .u64 (I6 imm) = some (Un ki) := by rw [conv_u64, hki]
  have k2 : bin Tryd.prog .and 3 true (I6 imm) (.int .i64 63) = some (I6 (imm % 64)) := i64_and63 _ _ _ (by omega) (by omega)
  obtain ⟨kj, hkj⟩ : ∃ z : Nat, (z : Int) = imm % 64 := ⟨(imm % 64).toNat, by omega⟩
  rw [← hkj] at k2
  have k3 : convInt .u64 (Nn kj) = some (Un kj) := by rw [convInt_int, wrap_of_u64 (by omega) (by omega)]
  have ed : doesF ⟨7, d, n, m, a, imm⟩ r f = (setF r d (getF r n ^^^ getF r m), f) := by
    unfold doesF madeF
    simp only [Int.reduceEq, or_false, false_or, or_self, or_true, true_or, if_false, if_true, ↓reduceIte]
  rw [ed]
  clear ed
  simp only
  try rw [← hki]
  generalize getF r d = rd at *
  generalize getF r n = rn at *
  generalize getF r m = rm at *
  generalize getF r a = ra at *
  have o1 : bin Tryd.prog .xor 43 false (Un rn) (Un rm) = some (Un (rn ^^^ rm)) := by rw [bin_xor, u64_xor rn rm ln lm]
  generalize rn ^^^ rm = xx at *
  rw [alembicref17_One.step]
  unfold alembicref17_One.c
  rw [zeroRg, zeroRgL]
  have hZ : (List.replicate 31 0 : List Nat).length = 31 := rfl
  have z1 : buildArr 1 (natsU (List.replicate 31 0)) [] = some (rgV (List.replicate 31 0)) := rfl
  have z2 : buildArr 1 [.bool false, .bool false, .bool false, .bool false] [] = some f00.a := rfl
  have b1 : boxA 44 (rgV (List.replicate 31 0)) [] = some (.ptr 0 1 0 0, [⟨44, 31, [rgV (List.replicate 31 0)]⟩]) := boxRg _ rfl []
  have b2 : boxA 53 (.agg [.bool false, .bool false, .bool false, .bool false]) [⟨44, 31, [rgV (List.replicate 31 0)]⟩] = some (.ptr 1 1 0 0, hp2 (List.replicate 31 0) f00) := rfl
  generalize List.replicate 31 0 = Z at *
  have c0 : ∀ H, boxRoA (rgV r) H = some (.rp false (rgV r) 0, H) := fun H => rfl
  have c1 : ∀ H, boxRoA f.a H = some (.rp false f.a 0, H) := fun H => rfl
  have c2 : ∀ H, loadV G true 31 (.rp false (rgV r) 0) H = some (rgV r) := fun H => by
    rw [q_ldrpT, if_pos (by rw [natsU_len, hr.len]; exact Nat.le_refl _), List.drop_zero, List.take_of_length_le (by rw [natsU_len, hr.len]; exact Nat.le_refl _)]
  have c3 : ∀ H, loadV G true 4 (.rp false f.a 0) H = some f.a := fun H => rfl
  have c4 : ∀ q : List Nat, q.length = 31 → stS (storeV 31 (.ptr 0 1 0 0) (rgV q) (hp2 Z f00)) = some (.tup [], hp2 q f00) := fun q hq => stRgA hq hZ rfl
  have c5 : ∀ (q : List Nat) (g : FL), stS (storeV 4 (.ptr 1 1 0 0) g.a (hp2 q f00)) = some (.tup [], hp2 q g) := fun q g => rfl
  have st' := st xx
  have hq := setF_len r hr.len d xx
  generalize setF r d xx = q at *
  have c4' := c4 q hq
  have c5' := c5 q f
  refine e_in ?_
  repeat first
    | (with_reducible first | refine eT ?_ | refine eN ?_ | refine eS ?_ | refine eXn ?_ | refine eXr ?_ | refine eX ?_ | refine eI ?_ | refine eK ?_ | refine eV0 ?_ | refine eGr0 ?_ | refine eGtt ?_ | refine eGff ?_ | refine eGtf ?_ | refine eGft ?_ | refine eGno ?_)
    | ((with_reducible apply eCn); (simp only [nth_zero, nth_succ]; first | done | (with_reducible exact rfl)))
    | ((with_reducible apply eJ); (rfl))
    | ((with_reducible apply eGr1); (first | rfl | (simp only [nth_zero, nth_succ]; rfl)))
    | ((with_reducible apply eB); (first | (with_reducible exact rfl) | (simp (disch := omega) only [qf, r1, g1, g2, g3, g4, k1, k2, k3, b1, b2, c0, c1, c2, c3, z1, z2, o1, st', c4', c5']; first | done | (with_reducible exact rfl) | (with_reducible exact ⟨rfl, rfl⟩)) | (simp (disch := omega) only [qa, putC, AV.cells, storable, buildSt, fillA, buildRo, buildOwn, fillE, Nat.reduceLeDiff, Nat.reduceLT, Nat.reduceAdd, ↓reduceIte, r1, g1, g2, g3, g4, k1, k2, k3, b1, b2, c0, c1, c2, c3, z1, z2, o1, st', c4', c5']; first | done | (with_reducible exact rfl) | (with_reducible exact ⟨rfl, rfl⟩))))
    | ((with_reducible apply eR); (simp only [nth_zero, nth_succ]; (with_reducible exact rfl)))
  exact oF (rone_fin G q hq f true)
theorem rone_8 (G : Globs) (k : Nat) (d n m a imm : Int) (hw : rightB ⟨8, d, n, m, a, imm⟩ = true) (r : List Nat) (hr : RgOk r) (f : FL) :
    alembicref17_One.f G (k + 7) [mV 8 d n m a imm, rgV r, f.a] [] = some (oneV ((doesF ⟨8, d, n, m, a, imm⟩ r f).1, (doesF ⟨8, d, n, m, a, imm⟩ r f).2, true), []) := by
  have r1 : ∀ H, pureCall (alembicref17_Word.f G (k + 6)) [mV 8 d n m a imm] H = _ := fun H => pureCall_of (H := H) (rword_spec G k ⟨8, d, n, m, a, imm⟩) rfl rfl
  rw [hw] at r1
  obtain ⟨_, hd, hn, hm, ha, hf⟩ := right_ok hw
  have himm : 0 ≤ imm ∧ imm < 65536 := by
    unfold rightB at hw
    rw [Bool.and_eq_true] at hw
    obtain ⟨_, h⟩ := hw
    simp [formF, fairB, regB, extraB, immB, halfI, stackB] at h
    omega
  simp only at hd hn hm ha hf
  clear hw
  have ld := hr.get d
  have ln := hr.get n
  have lm := hr.get m
  have la := hr.get a
  have g : ∀ j, 0 ≤ j → j ≤ 31 → ∀ H, pureCall (alembicref17_get.f G (k + 6)) [rgV r, I6 j] H = some (Un (getF r j), H) := fun j h0 h1 H => pureCall_of (H := H) (rget_spec G (k + 5) r hr.len j h0 h1) (by simp [plainL, plainB, plainU]) rfl
  have g1 := g d hd.1 hd.2
  have g2 := g n hn.1 hn.2
  have g3 := g m hm.1 hm.2
  have g4 := g a ha.1 ha.2
  clear g
  have st : ∀ x H, pureCall (alembicref17_set.f G (k + 6)) [rgV r, I6 d, Un x] H = some (rgV (setF r d x), H) := fun x H => pureCall_of (H := H) (rset_spec G (k + 5) r hr.len d hd.1 hd.2 x) (by simp [plainL, plainB, plainU]) (by simp [cleanB, cleanU])
  obtain ⟨ki, hki⟩ : ∃ z, z = u64 imm := ⟨_, rfl⟩
  have hkl : ki < 18446744073709551616 := by rw [hki]; exact u64_lt _
  have hkv : (ki : Int) = imm := by rw [hki]; unfold u64; omega
  have k1 : convInt .u64 (I6 imm) = some (Un ki) := by rw [conv_u64, hki]
  have k2 : bin Tryd.prog .and 3 true (I6 imm) (.int .i64 63) = some (I6 (imm % 64)) := i64_and63 _ _ _ (by omega) (by omega)
  obtain ⟨kj, hkj⟩ : ∃ z : Nat, (z : Int) = imm % 64 := ⟨(imm % 64).toNat, by omega⟩
  rw [← hkj] at k2
  have k3 : convInt .u64 (Nn kj) = some (Un kj) := by rw [convInt_int, wrap_of_u64 (by omega) (by omega)]
  have ed : doesF ⟨8, d, n, m, a, imm⟩ r f = (setF r d ((getF r n * getF r m % 18446744073709551616 + getF r a) % 18446744073709551616), f) := by
    unfold doesF madeF
    simp only [Int.reduceEq, or_false, false_or, or_self, or_true, true_or, if_false, if_true, ↓reduceIte]
  rw [ed]
  clear ed
  simp only
  try rw [← hki]
  generalize getF r d = rd at *
  generalize getF r n = rn at *
  generalize getF r m = rm at *
  generalize getF r a = ra at *
  have o1 := u64_mul Tryd.prog 43 false rn rm
  generalize rn * rm % 18446744073709551616 = z1' at *
  have o2 := u64_add Tryd.prog 43 false z1' ra
  generalize (z1' + ra) % 18446744073709551616 = xx at *
  rw [alembicref17_One.step]
  unfold alembicref17_One.c
  rw [zeroRg, zeroRgL]
  have hZ : (List.replicate 31 0 : List Nat).length = 31 := rfl
  have z1 : buildArr 1 (natsU (List.replicate 31 0)) [] = some (rgV (List.replicate 31 0)) := rfl
  have z2 : buildArr 1 [.bool false, .bool false, .bool false, .bool false] [] = some f00.a := rfl
  have b1 : boxA 44 (rgV (List.replicate 31 0)) [] = some (.ptr 0 1 0 0, [⟨44, 31, [rgV (List.replicate 31 0)]⟩]) := boxRg _ rfl []
  have b2 : boxA 53 (.agg [.bool false, .bool false, .bool false, .bool false]) [⟨44, 31, [rgV (List.replicate 31 0)]⟩] = some (.ptr 1 1 0 0, hp2 (List.replicate 31 0) f00) := rfl
  generalize List.replicate 31 0 = Z at *
  have c0 : ∀ H, boxRoA (rgV r) H = some (.rp false (rgV r) 0, H) := fun H => rfl
  have c1 : ∀ H, boxRoA f.a H = some (.rp false f.a 0, H) := fun H => rfl
  have c2 : ∀ H, loadV G true 31 (.rp false (rgV r) 0) H = some (rgV r) := fun H => by
    rw [q_ldrpT, if_pos (by rw [natsU_len, hr.len]; exact Nat.le_refl _), List.drop_zero, List.take_of_length_le (by rw [natsU_len, hr.len]; exact Nat.le_refl _)]
  have c3 : ∀ H, loadV G true 4 (.rp false f.a 0) H = some f.a := fun H => rfl
  have c4 : ∀ q : List Nat, q.length = 31 → stS (storeV 31 (.ptr 0 1 0 0) (rgV q) (hp2 Z f00)) = some (.tup [], hp2 q f00) := fun q hq => stRgA hq hZ rfl
  have c5 : ∀ (q : List Nat) (g : FL), stS (storeV 4 (.ptr 1 1 0 0) g.a (hp2 q f00)) = some (.tup [], hp2 q g) := fun q g => rfl
  have st' := st xx
  have hq := setF_len r hr.len d xx
  generalize setF r d xx = q at *
  have c4' := c4 q hq
  have c5' := c5 q f
  refine e_in ?_
  repeat first
    | (with_reducible first | refine eT ?_ | refine eN ?_ | refine eS ?_ | refine eXn ?_ | refine eXr ?_ | refine eX ?_ | refine eI ?_ | refine eK ?_ | refine eV0 ?_ | refine eGr0 ?_ | refine eGtt ?_ | refine eGff ?_ | refine eGtf ?_ | refine eGft ?_ | refine eGno ?_)
    | ((with_reducible apply eCn); (simp only [nth_zero, nth_succ]; first | done | (with_reducible exact rfl)))
    | ((with_reducible apply eJ); (rfl))
    | ((with_reducible apply eGr1); (first | rfl | (simp only [nth_zero, nth_succ]; rfl)))
    | ((with_reducible apply eB); (first | (with_reducible exact rfl) | (simp (disch := omega) only [qf, r1, g1, g2, g3, g4, k1, k2, k3, b1, b2, c0, c1, c2, c3, z1, z2, o1, o2, st', c4', c5']; first | done | (with_reducible exact rfl) | (with_reducible exact ⟨rfl, rfl⟩)) | (simp (disch := omega) only [qa, putC, AV.cells, storable, buildSt, fillA, buildRo, buildOwn, fillE, Nat.reduceLeDiff, Nat.reduceLT, Nat.reduceAdd, ↓reduceIte, r1, g1, g2, g3, g4, k1, k2, k3, b1, b2, c0, c1, c2, c3, z1, z2, o1, o2, st', c4', c5']; first | done | (with_reducible exact rfl) | (with_reducible exact ⟨rfl, rfl⟩))))
    | ((with_reducible apply eR); (simp only [nth_zero, nth_succ]; (with_reducible exact rfl)))
  exact oF (rone_fin G q hq f true)
theorem rone_9 (G : Globs) (k : Nat) (d n m a imm : Int) (hw : rightB ⟨9, d, n, m, a, imm⟩ = true) (r : List Nat) (hr : RgOk r) (f : FL) :
    alembicref17_One.f G (k + 7) [mV 9 d n m a imm, rgV r, f.a] [] = some (oneV ((doesF ⟨9, d, n, m, a, imm⟩ r f).1, (doesF ⟨9, d, n, m, a, imm⟩ r f).2, true), []) := by
  have r1 : ∀ H, pureCall (alembicref17_Word.f G (k + 6)) [mV 9 d n m a imm] H = _ := fun H => pureCall_of (H := H) (rword_spec G k ⟨9, d, n, m, a, imm⟩) rfl rfl
  rw [hw] at r1
  obtain ⟨_, hd, hn, hm, ha, hf⟩ := right_ok hw
  have himm : 0 ≤ imm ∧ imm < 65536 := by
    unfold rightB at hw
    rw [Bool.and_eq_true] at hw
    obtain ⟨_, h⟩ := hw
    simp [formF, fairB, regB, extraB, immB, halfI, stackB] at h
    omega
  simp only at hd hn hm ha hf
  clear hw
  have ld := hr.get d
  have ln := hr.get n
  have lm := hr.get m
  have la := hr.get a
  have g : ∀ j, 0 ≤ j → j ≤ 31 → ∀ H, pureCall (alembicref17_get.f G (k + 6)) [rgV r, I6 j] H = some (Un (getF r j), H) := fun j h0 h1 H => pureCall_of (H := H) (rget_spec G (k + 5) r hr.len j h0 h1) (by simp [plainL, plainB, plainU]) rfl
  have g1 := g d hd.1 hd.2
  have g2 := g n hn.1 hn.2
  have g3 := g m hm.1 hm.2
  have g4 := g a ha.1 ha.2
  clear g
  have st : ∀ x H, pureCall (alembicref17_set.f G (k + 6)) [rgV r, I6 d, Un x] H = some (rgV (setF r d x), H) := fun x H => pureCall_of (H := H) (rset_spec G (k + 5) r hr.len d hd.1 hd.2 x) (by simp [plainL, plainB, plainU]) (by simp [cleanB, cleanU])
  obtain ⟨ki, hki⟩ : ∃ z, z = u64 imm := ⟨_, rfl⟩
  have hkl : ki < 18446744073709551616 := by rw [hki]; exact u64_lt _
  have hkv : (ki : Int) = imm := by rw [hki]; unfold u64; omega
  have k1 : convInt .u64 (I6 imm) = some (Un ki) := by rw [conv_u64, hki]
  have k2 : bin Tryd.prog .and 3 true (I6 imm) (.int .i64 63) = some (I6 (imm % 64)) := i64_and63 _ _ _ (by omega) (by omega)
  obtain ⟨kj, hkj⟩ : ∃ z : Nat, (z : Int) = imm % 64 := ⟨(imm % 64).toNat, by omega⟩
  rw [← hkj] at k2
  have k3 : convInt .u64 (Nn kj) = some (Un kj) := by rw [convInt_int, wrap_of_u64 (by omega) (by omega)]
  have ed : doesF ⟨9, d, n, m, a, imm⟩ r f = (setF r d (getF r n * getF r m / 18446744073709551616), f) := by
    unfold doesF madeF
    simp only [Int.reduceEq, or_false, false_or, or_self, or_true, true_or, if_false, if_true, ↓reduceIte]
  rw [ed]
  clear ed
  simp only
  try rw [← hki]
  generalize getF r d = rd at *
  generalize getF r n = rn at *
  generalize getF r m = rm at *
  generalize getF r a = ra at *
  have o1 : ∀ H, pureCall (math_bits_Mul64.f G (k + 6)) [Un rn, Un rm] H = _ := fun H => pureCall_of (H := H) (mul64_spec G (k + 5) rn rm ln lm) rfl rfl
  generalize rn * rm / 18446744073709551616 = xx at *
  rw [alembicref17_One.step]
  unfold alembicref17_One.c
  rw [zeroRg, zeroRgL]
  have hZ : (List.replicate 31 0 : List Nat).length = 31 := rfl
  have z1 : buildArr 1 (natsU (List.replicate 31 0)) [] = some (rgV (List.replicate 31 0)) := rfl
  have z2 : buildArr 1 [.bool false, .bool false, .bool false, .bool false] [] = some f00.a := rfl
  have b1 : boxA 44 (rgV (List.replicate 31 0)) [] = some (.ptr 0 1 0 0, [⟨44, 31, [rgV (List.replicate 31 0)]⟩]) := boxRg _ rfl []
  have b2 : boxA 53 (.agg [.bool false, .bool false, .bool false, .bool false]) [⟨44, 31, [rgV (List.replicate 31 0)]⟩] = some (.ptr 1 1 0 0, hp2 (List.replicate 31 0) f00) := rfl
  generalize List.replicate 31 0 = Z at *
  have c0 : ∀ H, boxRoA (rgV r) H = some (.rp false (rgV r) 0, H) := fun H => rfl
  have c1 : ∀ H, boxRoA f.a H = some (.rp false f.a 0, H) := fun H => rfl
  have c2 : ∀ H, loadV G true 31 (.rp false (rgV r) 0) H = some (rgV r) := fun H => by
    rw [q_ldrpT, if_pos (by rw [natsU_len, hr.len]; exact Nat.le_refl _), List.drop_zero, List.take_of_length_le (by rw [natsU_len, hr.len]; exact Nat.le_refl _)]
  have c3 : ∀ H, loadV G true 4 (.rp false f.a 0) H = some f.a := fun H => rfl
  have c4 : ∀ q : List Nat, q.length = 31 → stS (storeV 31 (.ptr 0 1 0 0) (rgV q) (hp2 Z f00)) = some (.tup [], hp2 q f00) := fun q hq => stRgA hq hZ rfl
  have c5 : ∀ (q : List Nat) (g : FL), stS (storeV 4 (.ptr 1 1 0 0) g.a (hp2 q f00)) = some (.tup [], hp2 q g) := fun q g => rfl
  have st' := st xx
  have hq := setF_len r hr.len d xx
  generalize setF r d xx = q at *
  have c4' := c4 q hq
  have c5' := c5 q f
  refine e_in ?_
  repeat first
    | (with_reducible first | refine eT ?_ | refine eN ?_ | refine eS ?_ | refine eXn ?_ | refine eXr ?_ | refine eX ?_ | refine eI ?_ | refine eK ?_ | refine eV0 ?_ | refine eGr0 ?_ | refine eGtt ?_ | refine eGff ?_ | refine eGtf ?_ | refine eGft ?_ | refine eGno ?_)
    | ((with_reducible apply eCn); (simp only [nth_zero, nth_succ]; first | done | (with_reducible exact rfl)))
    | ((with_reducible apply eJ); (rfl))
    | ((with_reducible apply eGr1); (first | rfl | (simp only [nth_zero, nth_succ]; rfl)))
    | ((with_reducible apply eB); (first | (with_reducible exact rfl) | (simp (disch := omega) only [qf, r1, g1, g2, g3, g4, k1, k2, k3, b1, b2, c0, c1, c2, c3, z1, z2, o1, st', c4', c5']; first | done | (with_reducible exact rfl) | (with_reducible exact ⟨rfl, rfl⟩)) | (simp (disch := omega) only [qa, putC, AV.cells, storable, buildSt, fillA, buildRo, buildOwn, fillE, Nat.reduceLeDiff, Nat.reduceLT, Nat.reduceAdd, ↓reduceIte, r1, g1, g2, g3, g4, k1, k2, k3, b1, b2, c0, c1, c2, c3, z1, z2, o1, st', c4', c5']; first | done | (with_reducible exact rfl) | (with_reducible exact ⟨rfl, rfl⟩))))
    | ((with_reducible apply eR); (simp only [nth_zero, nth_succ]; (with_reducible exact rfl)))
  exact oF (rone_fin G q hq f true)
theorem rone_10 (G : Globs) (k : Nat) (d n m a imm : Int) (hw : rightB ⟨10, d, n, m, a, imm⟩ = true) (r : List Nat) (hr : RgOk r) (f : FL) :
    alembicref17_One.f G (k + 7) [mV 10 d n m a imm, rgV r, f.a] [] = some (oneV ((doesF ⟨10, d, n, m, a, imm⟩ r f).1, (doesF ⟨10, d, n, m, a, imm⟩ r f).2, true), []) := by
  have r1 : ∀ H, pureCall (alembicref17_Word.f G (k + 6)) [mV 10 d n m a imm] H = _ := fun H => pureCall_of (H := H) (rword_spec G k ⟨10, d, n, m, a, imm⟩) rfl rfl
  rw [hw] at r1
  obtain ⟨_, hd, hn, hm, ha, hf⟩ := right_ok hw
  have himm : 0 ≤ imm ∧ imm < 65536 := by
    unfold rightB at hw
    rw [Bool.and_eq_true] at hw
    obtain ⟨_, h⟩ := hw
    simp [formF, fairB, regB, extraB, immB, halfI, stackB] at h
    omega
  simp only at hd hn hm ha hf
  clear hw
  have ld := hr.get d
  have ln := hr.get n
  have lm := hr.get m
  have la := hr.get a
  have g : ∀ j, 0 ≤ j → j ≤ 31 → ∀ H, pureCall (alembicref17_get.f G (k + 6)) [rgV r, I6 j] H = some (Un (getF r j), H) := fun j h0 h1 H => pureCall_of (H := H) (rget_spec G (k + 5) r hr.len j h0 h1) (by simp [plainL, plainB, plainU]) rfl
  have g1 := g d hd.1 hd.2
  have g2 := g n hn.1 hn.2
  have g3 := g m hm.1 hm.2
  have g4 := g a ha.1 ha.2
  clear g
  have st : ∀ x H, pureCall (alembicref17_set.f G (k + 6)) [rgV r, I6 d, Un x] H = some (rgV (setF r d x), H) := fun x H => pureCall_of (H := H) (rset_spec G (k + 5) r hr.len d hd.1 hd.2 x) (by simp [plainL, plainB, plainU]) (by simp [cleanB, cleanU])
  obtain ⟨ki, hki⟩ : ∃ z, z = u64 imm := ⟨_, rfl⟩
  have hkl : ki < 18446744073709551616 := by rw [hki]; exact u64_lt _
  have hkv : (ki : Int) = imm := by rw [hki]; unfold u64; omega
  have k1 : convInt .u64 (I6 imm) = some (Un ki) := by rw [conv_u64, hki]
  have k2 : bin Tryd.prog .and 3 true (I6 imm) (.int .i64 63) = some (I6 (imm % 64)) := i64_and63 _ _ _ (by omega) (by omega)
  obtain ⟨kj, hkj⟩ : ∃ z : Nat, (z : Int) = imm % 64 := ⟨(imm % 64).toNat, by omega⟩
  rw [← hkj] at k2
  have k3 : convInt .u64 (Nn kj) = some (Un kj) := by rw [convInt_int, wrap_of_u64 (by omega) (by omega)]
  have ed : doesF ⟨10, d, n, m, a, imm⟩ r f = (setF r d ((getF r n + u64 imm) % 18446744073709551616), f) := by
    unfold doesF madeF
    simp only [Int.reduceEq, or_false, false_or, or_self, or_true, true_or, if_false, if_true, ↓reduceIte]
  rw [ed]
  clear ed
  simp only
  try rw [← hki]
  generalize getF r d = rd at *
  generalize getF r n = rn at *
  generalize getF r m = rm at *
  generalize getF r a = ra at *
  have o1 := u64_add Tryd.prog 43 false rn ki
  generalize (rn + ki) % 18446744073709551616 = xx at *
  rw [alembicref17_One.step]
  unfold alembicref17_One.c
  rw [zeroRg, zeroRgL]
  have hZ : (List.replicate 31 0 : List Nat).length = 31 := rfl
  have z1 : buildArr 1 (natsU (List.replicate 31 0)) [] = some (rgV (List.replicate 31 0)) := rfl
  have z2 : buildArr 1 [.bool false, .bool false, .bool false, .bool false] [] = some f00.a := rfl
  have b1 : boxA 44 (rgV (List.replicate 31 0)) [] = some (.ptr 0 1 0 0, [⟨44, 31, [rgV (List.replicate 31 0)]⟩]) := boxRg _ rfl []
  have b2 : boxA 53 (.agg [.bool false, .bool false, .bool false, .bool false]) [⟨44, 31, [rgV (List.replicate 31 0)]⟩] = some (.ptr 1 1 0 0, hp2 (List.replicate 31 0) f00) := rfl
  generalize List.replicate 31 0 = Z at *
  have c0 : ∀ H, boxRoA (rgV r) H = some (.rp false (rgV r) 0, H) := fun H => rfl
  have c1 : ∀ H, boxRoA f.a H = some (.rp false f.a 0, H) := fun H => rfl
  have c2 : ∀ H, loadV G true 31 (.rp false (rgV r) 0) H = some (rgV r) := fun H => by
    rw [q_ldrpT, if_pos (by rw [natsU_len, hr.len]; exact Nat.le_refl _), List.drop_zero, List.take_of_length_le (by rw [natsU_len, hr.len]; exact Nat.le_refl _)]
  have c3 : ∀ H, loadV G true 4 (.rp false f.a 0) H = some f.a := fun H => rfl
  have c4 : ∀ q : List Nat, q.length = 31 → stS (storeV 31 (.ptr 0 1 0 0) (rgV q) (hp2 Z f00)) = some (.tup [], hp2 q f00) := fun q hq => stRgA hq hZ rfl
  have c5 : ∀ (q : List Nat) (g : FL), stS (storeV 4 (.ptr 1 1 0 0) g.a (hp2 q f00)) = some (.tup [], hp2 q g) := fun q g => rfl
  have st' := st xx
  have hq := setF_len r hr.len d xx
  generalize setF r d xx = q at *
  have c4' := c4 q hq
  have c5' := c5 q f
  refine e_in ?_
  repeat first
    | (with_reducible first | refine eT ?_ | refine eN ?_ | refine eS ?_ | refine eXn ?_ | refine eXr ?_ | refine eX ?_ | refine eI ?_ | refine eK ?_ | refine eV0 ?_ | refine eGr0 ?_ | refine eGtt ?_ | refine eGff ?_ | refine eGtf ?_ | refine eGft ?_ | refine eGno ?_)
    | ((with_reducible apply eCn); (simp only [nth_zero, nth_succ]; first | done | (with_reducible exact rfl)))
    | ((with_reducible apply eJ); (rfl))
    | ((with_reducible apply eGr1); (first | rfl | (simp only [nth_zero, nth_succ]; rfl)))
    | ((with_reducible apply eB); (first | (with_reducible exact rfl) | (simp (disch := omega) only [qf, r1, g1, g2, g3, g4, k1, k2, k3, b1, b2, c0, c1, c2, c3, z1, z2, o1, st', c4', c5']; first | done | (with_reducible exact rfl) | (with_reducible exact ⟨rfl, rfl⟩)) | (simp (disch := omega) only [qa, putC, AV.cells, storable, buildSt, fillA, buildRo, buildOwn, fillE, Nat.reduceLeDiff, Nat.reduceLT, Nat.reduceAdd, ↓reduceIte, r1, g1, g2, g3, g4, k1, k2, k3, b1, b2, c0, c1, c2, c3, z1, z2, o1, st', c4', c5']; first | done | (with_reducible exact rfl) | (with_reducible exact ⟨rfl, rfl⟩))))
    | ((with_reducible apply eR); (simp only [nth_zero, nth_succ]; (with_reducible exact rfl)))
  exact oF (rone_fin G q hq f true)
theorem rone_11 (G : Globs) (k : Nat) (d n m a imm : Int) (hw : rightB ⟨11, d, n, m, a, imm⟩ = true) (r : List Nat) (hr : RgOk r) (f : FL) :
    alembicref17_One.f G (k + 7) [mV 11 d n m a imm, rgV r, f.a] [] = some (oneV ((doesF ⟨11, d, n, m, a, imm⟩ r f).1, (doesF ⟨11, d, n, m, a, imm⟩ r f).2, true), []) := by
  have r1 : ∀ H, pureCall (alembicref17_Word.f G (k + 6)) [mV 11 d n m a imm] H = _ := fun H => pureCall_of (H := H) (rword_spec G k ⟨11, d, n, m, a, imm⟩) rfl rfl
  rw [hw] at r1
  obtain ⟨_, hd, hn, hm, ha, hf⟩ := right_ok hw
  have himm : 0 ≤ imm ∧ imm < 65536 := by
    unfold rightB at hw
    rw [Bool.and_eq_true] at hw
    obtain ⟨_, h⟩ := hw
    simp [formF, fairB, regB, extraB, immB, halfI, stackB] at h
    omega
  simp only at hd hn hm ha hf
  clear hw
  have ld := hr.get d
  have ln := hr.get n
  have lm := hr.get m
  have la := hr.get a
  have g : ∀ j, 0 ≤ j → j ≤ 31 → ∀ H, pureCall (alembicref17_get.f G (k + 6)) [rgV r, I6 j] H = some (Un (getF r j), H) := fun j h0 h1 H => pureCall_of (H := H) (rget_spec G (k + 5) r hr.len j h0 h1) (by simp [plainL, plainB, plainU]) rfl
  have g1 := g d hd.1 hd.2
  have g2 := g n hn.1 hn.2
  have g3 := g m hm.1 hm.2
  have g4 := g a ha.1 ha.2
  clear g
  have st : ∀ x H, pureCall (alembicref17_set.f G (k + 6)) [rgV r, I6 d, Un x] H = some (rgV (setF r d x), H) := fun x H => pureCall_of (H := H) (rset_spec G (k + 5) r hr.len d hd.1 hd.2 x) (by simp [plainL, plainB, plainU]) (by simp [cleanB, cleanU])
  obtain ⟨ki, hki⟩ : ∃ z, z = u64 imm := ⟨_, rfl⟩
  have hkl : ki < 18446744073709551616 := by rw [hki]; exact u64_lt _
  have hkv : (ki : Int) = imm := by rw [hki]; unfold u64; omega
  have k1 : convInt .u64 (I6 imm) = some (Un ki) := by rw [conv_u64, hki]
  have k2 : bin Tryd.prog .and 3 true (I6 imm) (.int .i64 63) = some (I6 (imm % 64)) := i64_and63 _ _ _ (by omega) (by omega)
  obtain ⟨kj, hkj⟩ : ∃ z : Nat, (z : Int) = imm % 64 := ⟨(imm % 64).toNat, by omega⟩
  rw [← hkj] at k2
  have k3 : convInt .u64 (Nn kj) = some (Un kj) := by rw [convInt_int, wrap_of_u64 (by omega) (by omega)]
  have ed : doesF ⟨11, d, n, m, a, imm⟩ r f = (setF r d ((getF r n + 18446744073709551616 - u64 imm) % 18446744073709551616), f) := by
    unfold doesF madeF
    simp only [Int.reduceEq, or_false, false_or, or_self, or_true, true_or, if_false, if_true, ↓reduceIte]
  rw [ed]
  clear ed
  simp only
  try rw [← hki]
  generalize getF r d = rd at *
  generalize getF r n = rn at *
  generalize getF r m = rm at *
  generalize getF r a = ra at *
  have o1 := u64_sub Tryd.prog 43 false rn ki hkl
  generalize (rn + 18446744073709551616 - ki) % 18446744073709551616 = xx at *
  rw [alembicref17_One.step]
  unfold alembicref17_One.c
  rw [zeroRg, zeroRgL]
  have hZ : (List.replicate 31 0 : List Nat).length = 31 := rfl
  have z1 : buildArr 1 (natsU (List.replicate 31 0)) [] = some (rgV (List.replicate 31 0)) := rfl
  have z2 : buildArr 1 [.bool false, .bool false, .bool false, .bool false] [] = some f00.a := rfl
  have b1 : boxA 44 (rgV (List.replicate 31 0)) [] = some (.ptr 0 1 0 0, [⟨44, 31, [rgV (List.replicate 31 0)]⟩]) := boxRg _ rfl []
  have b2 : boxA 53 (.agg [.bool false, .bool false, .bool false, .bool false]) [⟨44, 31, [rgV (List.replicate 31 0)]⟩] = some (.ptr 1 1 0 0, hp2 (List.replicate 31 0) f00) := rfl
  generalize List.replicate 31 0 = Z at *
  have c0 : ∀ H, boxRoA (rgV r) H = some (.rp false (rgV r) 0, H) := fun H => rfl
  have c1 : ∀ H, boxRoA f.a H = some (.rp false f.a 0, H) := fun H => rfl
  have c2 : ∀ H, loadV G true 31 (.rp false (rgV r) 0) H = some (rgV r) := fun H => by
    rw [q_ldrpT, if_pos (by rw [natsU_len, hr.len]; exact Nat.le_refl _), List.drop_zero, List.take_of_length_le (by rw [natsU_len, hr.len]; exact Nat.le_refl _)]
  have c3 : ∀ H, loadV G true 4 (.rp false f.a 0) H = some f.a := fun H => rfl
  have c4 : ∀ q : List Nat, q.length = 31 → stS (storeV 31 (.ptr 0 1 0 0) (rgV q) (hp2 Z f00)) = some (.tup [], hp2 q f00) := fun q hq => stRgA hq hZ rfl
  have c5 : ∀ (q : List Nat) (g : FL), stS (storeV 4 (.ptr 1 1 0 0) g.a (hp2 q f00)) = some (.tup [], hp2 q g) := fun q g => rfl
  have st' := st xx
  have hq := setF_len r hr.len d xx
  generalize setF r d xx = q at *
  have c4' := c4 q hq
  have c5' := c5 q f
  refine e_in ?_
  repeat first
    | (with_reducible first | refine eT ?_ | refine eN ?_ | refine eS ?_ | refine eXn ?_ | refine eXr ?_ | refine eX ?_ | refine eI ?_ | refine eK ?_ | refine eV0 ?_ | refine eGr0 ?_ | refine eGtt ?_ | refine eGff ?_ | refine eGtf ?_ | refine eGft ?_ | refine eGno ?_)
    | ((with_reducible apply eCn); (simp only [nth_zero, nth_succ]; first | done | (with_reducible exact rfl)))
    | ((with_reducible apply eJ); (rfl))
    | ((with_reducible apply eGr1); (first | rfl | (simp only [nth_zero, nth_succ]; rfl)))
    | ((with_reducible apply eB); (first | (with_reducible exact rfl) | (simp (disch := omega) only [qf, r1, g1, g2, g3, g4, k1, k2, k3, b1, b2, c0, c1, c2, c3, z1, z2, o1, st', c4', c5']; first | done | (with_reducible exact rfl) | (with_reducible exact ⟨rfl, rfl⟩)) | (simp (disch := omega) only [qa, putC, AV.cells, storable, buildSt, fillA, buildRo, buildOwn, fillE, Nat.reduceLeDiff, Nat.reduceLT, Nat.reduceAdd, ↓reduceIte, r1, g1, g2, g3, g4, k1, k2, k3, b1, b2, c0, c1, c2, c3, z1, z2, o1, st', c4', c5']; first | done | (with_reducible exact rfl) | (with_reducible exact ⟨rfl, rfl⟩))))
    | ((with_reducible apply eR); (simp only [nth_zero, nth_succ]; (with_reducible exact rfl)))
  exact oF (rone_fin G q hq f true)
theorem rone_12 (G : Globs) (k : Nat) (d n m a imm : Int) (hw : rightB ⟨12, d, n, m, a, imm⟩ = true) (r : List Nat) (hr : RgOk r) (f : FL) :
    alembicref17_One.f G (k + 7) [mV 12 d n m a imm, rgV r, f.a] [] = some (oneV ((doesF ⟨12, d, n, m, a, imm⟩ r f).1, (doesF ⟨12, d, n, m, a, imm⟩ r f).2, true), []) := by
  have r1 : ∀ H, pureCall (alembicref17_Word.f G (k + 6)) [mV 12 d n m a imm] H = _ := fun H => pureCall_of (H := H) (rword_spec G k ⟨12, d, n, m, a, imm⟩) rfl rfl
  rw [hw] at r1
  obtain ⟨_, hd, hn, hm, ha, hf⟩ := right_ok hw
  have himm : 0 ≤ imm ∧ imm < 65536 := by
    unfold rightB at hw
    rw [Bool.and_eq_true] at hw
    obtain ⟨_, h⟩ := hw
    simp [formF, fairB, regB, extraB, immB, halfI, stackB] at h
    omega
  simp only at hd hn hm ha hf
  clear hw
  have ld := hr.get d
  have ln := hr.get n
  have lm := hr.get m
  have la := hr.get a
  have g : ∀ j, 0 ≤ j → j ≤ 31 → ∀ H, pureCall (alembicref17_get.f G (k + 6)) [rgV r, I6 j] H = some (Un (getF r j), H) := fun j h0 h1 H => pureCall_of (H := H) (rget_spec G (k + 5) r hr.len j h0 h1) (by simp [plainL, plainB, plainU]) rfl
  have g1 := g d hd.1 hd.2
  have g2 := g n hn.1 hn.2
  have g3 := g m hm.1 hm.2
  have g4 := g a ha.1 ha.2
  clear g
  have st : ∀ x H, pureCall (alembicref17_set.f G (k + 6)) [rgV r, I6 d, Un x] H = some (rgV (setF r d x), H) := fun x H => pureCall_of (H := H) (rset_spec G (k + 5) r hr.len d hd.1 hd.2 x) (by simp [plainL, plainB, plainU]) (by simp [cleanB, cleanU])
  obtain ⟨ki, hki⟩ : ∃ z, z = u64 imm := ⟨_, rfl⟩
  have hkl : ki < 18446744073709551616 := by rw [hki]; exact u64_lt _
  have hkv : (ki : Int) = imm := by rw [hki]; unfold u64; omega
  have k1 : convInt .u64 (I6 imm) = some (Un ki) := by rw [conv_u64, hki]
  have k2 : bin Tryd.prog .and 3 true (I6 imm) (.int .i64 63) = some (I6 (imm % 64)) := i64_and63 _ _ _ (by omega) (by omega)
  obtain ⟨kj, hkj⟩ : ∃ z : Nat, (z : Int) = imm % 64 := ⟨(imm % 64).toNat, by omega⟩
  rw [← hkj] at k2
  have k3 : convInt .u64 (Nn kj) = some (Un kj) := by rw [convInt_int, wrap_of_u64 (by omega) (by omega)]
  have ed : doesF ⟨12, d, n, m, a, imm⟩ r f = (setF r d (getF r n * 2 ^ (u64 imm) % 18446744073709551616), f) := by
    unfold doesF madeF
    simp only [Int.reduceEq, or_false, false_or, or_self, or_true, true_or, if_false, if_true, ↓reduceIte]
  rw [ed]
  clear ed
  simp only
  try rw [← hki]
  generalize getF r d = rd at *
  generalize getF r n = rn at *
  generalize getF r m = rm at *
  generalize getF r a = ra at *
  have hi := hf.2 (by omega) (by omega)
  have ej : kj = ki := by omega
  subst ej
  have o1 := u64_shl Tryd.prog 43 false .u64 rn kj (by omega)
  generalize rn * 2 ^ kj % 18446744073709551616 = xx at *
  rw [alembicref17_One.step]
  unfold alembicref17_One.c
  rw [zeroRg, zeroRgL]
  have hZ : (List.replicate 31 0 : List Nat).length = 31 := rfl
  have z1 : buildArr 1 (natsU (List.replicate 31 0)) [] = some (rgV (List.replicate 31 0)) := rfl
  have z2 : buildArr 1 [.bool false, .bool false, .bool false, .bool false] [] = some f00.a := rfl
  have b1 : boxA 44 (rgV (List.replicate 31 0)) [] = some (.ptr 0 1 0 0, [⟨44, 31, [rgV (List.replicate 31 0)]⟩]) := boxRg _ rfl []
  have b2 : boxA 53 (.agg [.bool false, .bool false, .bool false, .bool false]) [⟨44, 31, [rgV (List.replicate 31 0)]⟩] = some (.ptr 1 1 0 0, hp2 (List.replicate 31 0) f00) := rfl
  generalize List.replicate 31 0 = Z at *
  have c0 : ∀ H, boxRoA (rgV r) H = some (.rp false (rgV r) 0, H) := fun H => rfl
  have c1 : ∀ H, boxRoA f.a H = some (.rp false f.a 0, H) := fun H => rfl
  have c2 : ∀ H, loadV G true 31 (.rp false (rgV r) 0) H = some (rgV r) := fun H => by
    rw [q_ldrpT, if_pos (by rw [natsU_len, hr.len]; exact Nat.le_refl _), List.drop_zero, List.take_of_length_le (by rw [natsU_len, hr.len]; exact Nat.le_refl _)]
  have c3 : ∀ H, loadV G true 4 (.rp false f.a 0) H = some f.a := fun H => rfl
  have c4 : ∀ q : List Nat, q.length = 31 → stS (storeV 31 (.ptr 0 1 0 0) (rgV q) (hp2 Z f00)) = some (.tup [], hp2 q f00) := fun q hq => stRgA hq hZ rfl
  have c5 : ∀ (q : List Nat) (g : FL), stS (storeV 4 (.ptr 1 1 0 0) g.a (hp2 q f00)) = some (.tup [], hp2 q g) := fun q g => rfl
  have st' := st xx
  have hq := setF_len r hr.len d xx
  generalize setF r d xx = q at *
  have c4' := c4 q hq
  have c5' := c5 q f
  refine e_in ?_
  repeat first
    | (with_reducible first | refine eT ?_ | refine eN ?_ | refine eS ?_ | refine eXn ?_ | refine eXr ?_ | refine eX ?_ | refine eI ?_ | refine eK ?_ | refine eV0 ?_ | refine eGr0 ?_ | refine eGtt ?_ | refine eGff ?_ | refine eGtf ?_ | refine eGft ?_ | refine eGno ?_)
    | ((with_reducible apply eCn); (simp only [nth_zero, nth_succ]; first | done | (with_reducible exact rfl)))
    | ((with_reducible apply eJ); (rfl))
    | ((with_reducible apply eGr1); (first | rfl | (simp only [nth_zero, nth_succ]; rfl)))
    | ((with_reducible apply eB); (first | (with_reducible exact rfl) | (simp (disch := omega) only [qf, r1, g1, g2, g3, g4, k1, k2, k3, b1, b2, c0, c1, c2, c3, z1, z2, o1, st', c4', c5']; first | done | (with_reducible exact rfl) | (with_reducible exact ⟨rfl, rfl⟩)) | (simp (disch := omega) only [qa, putC, AV.cells, storable, buildSt, fillA, buildRo, buildOwn, fillE, Nat.reduceLeDiff, Nat.reduceLT, Nat.reduceAdd, ↓reduceIte, r1, g1, g2, g3, g4, k1, k2, k3, b1, b2, c0, c1, c2, c3, z1, z2, o1, st', c4', c5']; first | done | (with_reducible exact rfl) | (with_reducible exact ⟨rfl, rfl⟩))))
    | ((with_reducible apply eR); (simp only [nth_zero, nth_succ]; (with_reducible exact rfl)))
  exact oF (rone_fin G q hq f true)
theorem rone_13 (G : Globs) (k : Nat) (d n m a imm : Int) (hw : rightB ⟨13, d, n, m, a, imm⟩ = true) (r : List Nat) (hr : RgOk r) (f : FL) :
    alembicref17_One.f G (k + 7) [mV 13 d n m a imm, rgV r, f.a] [] = some (oneV ((doesF ⟨13, d, n, m, a, imm⟩ r f).1, (doesF ⟨13, d, n, m, a, imm⟩ r f).2, true), []) := by
  have r1 : ∀ H, pureCall (alembicref17_Word.f G (k + 6)) [mV 13 d n m a imm] H = _ := fun H => pureCall_of (H := H) (rword_spec G k ⟨13, d, n, m, a, imm⟩) rfl rfl
  rw [hw] at r1
  obtain ⟨_, hd, hn, hm, ha, hf⟩ := right_ok hw
  have himm : 0 ≤ imm ∧ imm < 65536 := by
    unfold rightB at hw
    rw [Bool.and_eq_true] at hw
    obtain ⟨_, h⟩ := hw
    simp [formF, fairB, regB, extraB, immB, halfI, stackB] at h
    omega
  simp only at hd hn hm ha hf
  clear hw
  have ld := hr.get d
  have ln := hr.get n
  have lm := hr.get m
  have la := hr.get a
  have g : ∀ j, 0 ≤ j → j ≤ 31 → ∀ H, pureCall (alembicref17_get.f G (k + 6)) [rgV r, I6 j] H = some (Un (getF r j), H) := fun j h0 h1 H => pureCall_of (H := H) (rget_spec G (k + 5) r hr.len j h0 h1) (by simp [plainL, plainB, plainU]) rfl
  have g1 := g d hd.1 hd.2
  have g2 := g n hn.1 hn.2
  have g3 := g m hm.1 hm.2
  have g4 := g a ha.1 ha.2
  clear g
  have st : ∀ x H, pureCall (alembicref17_set.f G (k + 6)) [rgV r, I6 d, Un x] H = some (rgV (setF r d x), H) := fun x H => pureCall_of (H := H) (rset_spec G (k + 5) r hr.len d hd.1 hd.2 x) (by simp [plainL, plainB, plainU]) (by simp [cleanB, cleanU])
  obtain ⟨ki, hki⟩ : ∃ z, z = u64 imm := ⟨_, rfl⟩
  have hkl : ki < 18446744073709551616 := by rw [hki]; exact u64_lt _
  have hkv : (ki : Int) = imm := by rw [hki]; unfold u64; omega
  have k1 : convInt .u64 (I6 imm) = some (Un ki) := by rw [conv_u64, hki]
  have k2 : bin Tryd.prog .and 3 true (I6 imm) (.int .i64 63) = some (I6 (imm % 64)) := i64_and63 _ _ _ (by omega) (by omega)
  obtain ⟨kj, hkj⟩ : ∃ z : Nat, (z : Int) = imm % 64 := ⟨(imm % 64).toNat, by omega⟩
  rw [← hkj] at k2
  have k3 : convInt .u64 (Nn kj) = some (Un kj) := by rw [convInt_int, wrap_of_u64 (by omega) (by omega)]
  have ed : doesF ⟨13, d, n, m, a, imm⟩ r f = (setF r d (getF r n / 2 ^ (u64 imm)), f) := by
    unfold doesF madeF
    simp only [Int.reduceEq, or_false, false_or, or_self, or_true, true_or, if_false, if_true, ↓reduceIte]
  rw [ed]
  clear ed
  simp only
  try rw [← hki]
  generalize getF r d = rd at *
  generalize getF r n = rn at *
  generalize getF r m = rm at *
  generalize getF r a = ra at *
  have hi := hf.2 (by omega) (by omega)
  have ej : kj = ki := by omega
  subst ej
  have o1 := u64_shr Tryd.prog 43 false .u64 rn kj (by omega)
  generalize rn / 2 ^ kj = xx at *
  rw [alembicref17_One.step]
  unfold alembicref17_One.c
  rw [zeroRg, zeroRgL]
  have hZ : (List.replicate 31 0 : List Nat).length = 31 := rfl
  have z1 : buildArr 1 (natsU (List.replicate 31 0)) [] = some (rgV (List.replicate 31 0)) := rfl
  have z2 : buildArr 1 [.bool false, .bool false, .bool false, .bool false] [] = some f00.a := rfl
  have b1 : boxA 44 (rgV (List.replicate 31 0)) [] = some (.ptr 0 1 0 0, [⟨44, 31, [rgV (List.replicate 31 0)]⟩]) := boxRg _ rfl []
  have b2 : boxA 53 (.agg [.bool false, .bool false, .bool false, .bool false]) [⟨44, 31, [rgV (List.replicate 31 0)]⟩] = some (.ptr 1 1 0 0, hp2 (List.replicate 31 0) f00) := rfl
  generalize List.replicate 31 0 = Z at *
  have c0 : ∀ H, boxRoA (rgV r) H = some (.rp false (rgV r) 0, H) := fun H => rfl
  have c1 : ∀ H, boxRoA f.a H = some (.rp false f.a 0, H) := fun H => rfl
  have c2 : ∀ H, loadV G true 31 (.rp false (rgV r) 0) H = some (rgV r) := fun H => by
    rw [q_ldrpT, if_pos (by rw [natsU_len, hr.len]; exact Nat.le_refl _), List.drop_zero, List.take_of_length_le (by rw [natsU_len, hr.len]; exact Nat.le_refl _)]
  have c3 : ∀ H, loadV G true 4 (.rp false f.a 0) H = some f.a := fun H => rfl
  have c4 : ∀ q : List Nat, q.length = 31 → stS (storeV 31 (.ptr 0 1 0 0) (rgV q) (hp2 Z f00)) = some (.tup [], hp2 q f00) := fun q hq => stRgA hq hZ rfl
  have c5 : ∀ (q : List Nat) (g : FL), stS (storeV 4 (.ptr 1 1 0 0) g.a (hp2 q f00)) = some (.tup [], hp2 q g) := fun q g => rfl
  have st' := st xx
  have hq := setF_len r hr.len d xx
  generalize setF r d xx = q at *
  have c4' := c4 q hq
  have c5' := c5 q f
  refine e_in ?_
  repeat first
    | (with_reducible first | refine eT ?_ | refine eN ?_ | refine eS ?_ | refine eXn ?_ | refine eXr ?_ | refine eX ?_ | refine eI ?_ | refine eK ?_ | refine eV0 ?_ | refine eGr0 ?_ | refine eGtt ?_ | refine eGff ?_ | refine eGtf ?_ | refine eGft ?_ | refine eGno ?_)
    | ((with_reducible apply eCn); (simp only [nth_zero, nth_succ]; first | done | (with_reducible exact rfl)))
    | ((with_reducible apply eJ); (rfl))
    | ((with_reducible apply eGr1); (first | rfl | (simp only [nth_zero, nth_succ]; rfl)))
    | ((with_reducible apply eB); (first | (with_reducible exact rfl) | (simp (disch := omega) only [qf, r1, g1, g2, g3, g4, k1, k2, k3, b1, b2, c0, c1, c2, c3, z1, z2, o1, st', c4', c5']; first | done | (with_reducible exact rfl) | (with_reducible exact ⟨rfl, rfl⟩)) | (simp (disch := omega) only [qa, putC, AV.cells, storable, buildSt, fillA, buildRo, buildOwn, fillE, Nat.reduceLeDiff, Nat.reduceLT, Nat.reduceAdd, ↓reduceIte, r1, g1, g2, g3, g4, k1, k2, k3, b1, b2, c0, c1, c2, c3, z1, z2, o1, st', c4', c5']; first | done | (with_reducible exact rfl) | (with_reducible exact ⟨rfl, rfl⟩))))
    | ((with_reducible apply eR); (simp only [nth_zero, nth_succ]; (with_reducible exact rfl)))
  exact oF (rone_fin G q hq f true)
theorem rone_14 (G : Globs) (k : Nat) (d n m a imm : Int) (hw : rightB ⟨14, d, n, m, a, imm⟩ = true) (r : List Nat) (hr : RgOk r) (f : FL) :
    alembicref17_One.f G (k + 7) [mV 14 d n m a imm, rgV r, f.a] [] = some (oneV ((doesF ⟨14, d, n, m, a, imm⟩ r f).1, (doesF ⟨14, d, n, m, a, imm⟩ r f).2, true), []) := by
  have r1 : ∀ H, pureCall (alembicref17_Word.f G (k + 6)) [mV 14 d n m a imm] H = _ := fun H => pureCall_of (H := H) (rword_spec G k ⟨14, d, n, m, a, imm⟩) rfl rfl
  rw [hw] at r1
  obtain ⟨_, hd, hn, hm, ha, hf⟩ := right_ok hw
  have himm : 0 ≤ imm ∧ imm < 65536 := by
    unfold rightB at hw
    rw [Bool.and_eq_true] at hw
    obtain ⟨_, h⟩ := hw
    simp [formF, fairB, regB, extraB, immB, halfI, stackB] at h
    omega
  simp only at hd hn hm ha hf
  clear hw
  have ld := hr.get d
  have ln := hr.get n
  have lm := hr.get m
  have la := hr.get a
  have g : ∀ j, 0 ≤ j → j ≤ 31 → ∀ H, pureCall (alembicref17_get.f G (k + 6)) [rgV r, I6 j] H = some (Un (getF r j), H) := fun j h0 h1 H => pureCall_of (H := H) (rget_spec G (k + 5) r hr.len j h0 h1) (by simp [plainL, plainB, plainU]) rfl
  have g1 := g d hd.1 hd.2
  have g2 := g n hn.1 hn.2
  have g3 := g m hm.1 hm.2
  have g4 := g a ha.1 ha.2
  clear g
  have st : ∀ x H, pureCall (alembicref17_set.f G (k + 6)) [rgV r, I6 d, Un x] H = some (rgV (setF r d x), H) := fun x H => pureCall_of (H := H) (rset_spec G (k + 5) r hr.len d hd.1 hd.2 x) (by simp [plainL, plainB, plainU]) (by simp [cleanB, cleanU])
  obtain ⟨ki, hki⟩ : ∃ z, z = u64 imm := ⟨_, rfl⟩
  have hkl : ki < 18446744073709551616 := by rw [hki]; exact u64_lt _
  have hkv : (ki : Int) = imm := by rw [hki]; unfold u64; omega
  have k1 : convInt .u64 (I6 imm) = some (Un ki) := by rw [conv_u64, hki]
  have k2 : bin Tryd.prog .and 3 true (I6 imm) (.int .i64 63) = some (I6 (imm % 64)) := i64_and63 _ _ _ (by omega) (by omega)
  obtain ⟨kj, hkj⟩ : ∃ z : Nat, (z : Int) = imm % 64 := ⟨(imm % 64).toNat, by omega⟩
  rw [← hkj] at k2
  have k3 : convInt .u64 (Nn kj) = some (Un kj) := by rw [convInt_int, wrap_of_u64 (by omega) (by omega)]
  have ed : doesF ⟨14, d, n, m, a, imm⟩ r f = (setF r d (sarF (getF r n) (u64 imm)), f) := by
    unfold doesF madeF
    simp only [Int.reduceEq, or_false, false_or, or_self, or_true, true_or, if_false, if_true, ↓reduceIte]
  rw [ed]
  clear ed
  simp only
  try rw [← hki]
  generalize getF r d = rd at *
  generalize getF r n = rn at *
  generalize getF r m = rm at *
  generalize getF r a = ra at *
  have hi := hf.2 (by omega) (by omega)
  have ej : kj = ki := by omega
  subst ej
  have o1 := conv_i64 rn ln
  have o2 : bin Tryd.prog .shr 2 false (I6 (s64 rn)) (Un kj) = some (I6 ((s64 rn).fdiv (2 ^ kj))) := by
    rw [bin_shr _ _ _ _ _ _ _ (Int.natCast_nonneg kj)]
    have e : min ((kj : Int)).toNat IntKind.i64.bits = kj := by rw [Int.toNat_natCast]; exact Nat.min_eq_left (by have : IntKind.i64.bits = 64 := rfl; omega)
    rw [e]
  have o3 := conv_u64 .i64 ((s64 rn).fdiv (2 ^ kj))
  have hq : u64 ((s64 rn).fdiv (2 ^ kj)) = sarF rn kj := rfl
  rw [hq] at o3
  clear hq
  generalize sarF rn kj = xx at *
  generalize (s64 rn).fdiv (2 ^ kj) = yy at *
  rw [alembicref17_One.step]
  unfold alembicref17_One.c
  rw [zeroRg, zeroRgL]
  have hZ : (List.replicate 31 0 : List Nat).length = 31 := rfl
  have z1 : buildArr 1 (natsU (List.replicate 31 0)) [] = some (rgV (List.replicate 31 0)) := rfl
  have z2 : buildArr 1 [.bool false, .bool false, .bool false, .bool false] [] = some f00.a := rfl
  have b1 : boxA 44 (rgV (List.replicate 31 0)) [] = some (.ptr 0 1 0 0, [⟨44, 31, [rgV (List.replicate 31 0)]⟩]) := boxRg _ rfl []
  have b2 : boxA 53 (.agg [.bool false, .bool false, .bool false, .bool false]) [⟨44, 31, [rgV (List.replicate 31 0)]⟩] = some (.ptr 1 1 0 0, hp2 (List.replicate 31 0) f00) := rfl
  generalize List.replicate 31 0 = Z at *
  have c0 : ∀ H, boxRoA (rgV r) H = some (.rp false (rgV r) 0, H) := fun H => rfl
  have c1 : ∀ H, boxRoA f.a H = some (.rp false f.a 0, H) := fun H => rfl
  have c2 : ∀ H, loadV G true 31 (.rp false (rgV r) 0) H = some (rgV r) := fun H => by
    rw [q_ldrpT, if_pos (by rw [natsU_len, hr.len]; exact Nat.le_refl _), List.drop_zero, List.take_of_length_le (by rw [natsU_len, hr.len]; exact Nat.le_refl _)]
  have c3 : ∀ H, loadV G true 4 (.rp false f.a 0) H = some f.a := fun H => rfl
  have c4 : ∀ q : List Nat, q.length = 31 → stS (storeV 31 (.ptr 0 1 0 0) (rgV q) (hp2 Z f00)) = some (.tup [], hp2 q f00) := fun q hq => stRgA hq hZ rfl
  have c5 : ∀ (q : List Nat) (g : FL), stS (storeV 4 (.ptr 1 1 0 0) g.a (hp2 q f00)) = some (.tup [], hp2 q g) := fun q g => rfl
  have st' := st xx
  have hq := setF_len r hr.len d xx
  generalize setF r d xx = q at *
  have c4' := c4 q hq
  have c5' := c5 q f
  refine e_in ?_
  repeat first
    | (with_reducible first | refine eT ?_ | refine eN ?_ | refine eS ?_ | refine eXn ?_ | refine eXr ?_ | refine eX ?_ | refine eI ?_ | refine eK ?_ | refine eV0 ?_ | refine eGr0 ?_ | refine eGtt ?_ | refine eGff ?_ | refine eGtf ?_ | refine eGft ?_ | refine eGno ?_)
    | ((with_reducible apply eCn); (simp only [nth_zero, nth_succ]; first | done | (with_reducible exact rfl)))
    | ((with_reducible apply eJ); (rfl))
    | ((with_reducible apply eGr1); (first | rfl | (simp only [nth_zero, nth_succ]; rfl)))
    | ((with_reducible apply eB); (first | (with_reducible exact rfl) | (simp (disch := omega) only [qf, r1, g1, g2, g3, g4, k1, k2, k3, b1, b2, c0, c1, c2, c3, z1, z2, o1, o2, o3, st', c4', c5']; first | done | (with_reducible exact rfl) | (with_reducible exact ⟨rfl, rfl⟩)) | (simp (disch := omega) only [qa, putC, AV.cells, storable, buildSt, fillA, buildRo, buildOwn, fillE, Nat.reduceLeDiff, Nat.reduceLT, Nat.reduceAdd, ↓reduceIte, r1, g1, g2, g3, g4, k1, k2, k3, b1, b2, c0, c1, c2, c3, z1, z2, o1, o2, o3, st', c4', c5']; first | done | (with_reducible exact rfl) | (with_reducible exact ⟨rfl, rfl⟩))))
    | ((with_reducible apply eR); (simp only [nth_zero, nth_succ]; (with_reducible exact rfl)))
  exact oF (rone_fin G q hq f true)
theorem rone_15 (G : Globs) (k : Nat) (d n m a imm : Int) (hw : rightB ⟨15, d, n, m, a, imm⟩ = true) (r : List Nat) (hr : RgOk r) (f : FL) :
    alembicref17_One.f G (k + 7) [mV 15 d n m a imm, rgV r, f.a] [] = some (oneV ((doesF ⟨15, d, n, m, a, imm⟩ r f).1, (doesF ⟨15, d, n, m, a, imm⟩ r f).2, true), []) := by
  have r1 : ∀ H, pureCall (alembicref17_Word.f G (k + 6)) [mV 15 d n m a imm] H = _ := fun H => pureCall_of (H := H) (rword_spec G k ⟨15, d, n, m, a, imm⟩) rfl rfl
  rw [hw] at r1
  obtain ⟨_, hd, hn, hm, ha, hf⟩ := right_ok hw
  have himm : 0 ≤ imm ∧ imm < 65536 := by
    unfold rightB at hw
    rw [Bool.and_eq_true] at hw
    obtain ⟨_, h⟩ := hw
    simp [formF, fairB, regB, extraB, immB, halfI, stackB] at h
    omega
  simp only at hd hn hm ha hf
  clear hw
  have ld := hr.get d
  have ln := hr.get n
  have lm := hr.get m
  have la := hr.get a
  have g : ∀ j, 0 ≤ j → j ≤ 31 → ∀ H, pureCall (alembicref17_get.f G (k + 6)) [rgV r, I6 j] H = some (Un (getF r j), H) := fun j h0 h1 H => pureCall_of (H := H) (rget_spec G (k + 5) r hr.len j h0 h1) (by simp [plainL, plainB, plainU]) rfl
  have g1 := g d hd.1 hd.2
  have g2 := g n hn.1 hn.2
  have g3 := g m hm.1 hm.2
  have g4 := g a ha.1 ha.2
  clear g
  have st : ∀ x H, pureCall (alembicref17_set.f G (k + 6)) [rgV r, I6 d, Un x] H = some (rgV (setF r d x), H) := fun x H => pureCall_of (H := H) (rset_spec G (k + 5) r hr.len d hd.1 hd.2 x) (by simp [plainL, plainB, plainU]) (by simp [cleanB, cleanU])
  obtain ⟨ki, hki⟩ : ∃ z, z = u64 imm := ⟨_, rfl⟩
  have hkl : ki < 18446744073709551616 := by rw [hki]; exact u64_lt _
  have hkv : (ki : Int) = imm := by rw [hki]; unfold u64; omega
  have k1 : convInt .u64 (I6 imm) = some (Un ki) := by rw [conv_u64, hki]
  have k2 : bin Tryd.prog .and 3 true (I6 imm) (.int .i64 63) = some (I6 (imm % 64)) := i64_and63 _ _ _ (by omega) (by omega)
  obtain ⟨kj, hkj⟩ : ∃ z : Nat, (z : Int) = imm % 64 := ⟨(imm % 64).toNat, by omega⟩
  rw [← hkj] at k2
  have k3 : convInt .u64 (Nn kj) = some (Un kj) := by rw [convInt_int, wrap_of_u64 (by omega) (by omega)]
  have ed : doesF ⟨15, d, n, m, a, imm⟩ r f = (r, lessF (getF r n) (getF r m)) := rfl
  rw [ed]
  clear ed
  simp only
  generalize getF r d = rd at *
  generalize getF r n = rn at *
  generalize getF r m = rm at *
  generalize getF r a = ra at *
  unfold lessF
  have k1' := u64_sub Tryd.prog 43 false rn rm lm
  obtain ⟨x, hx⟩ : ∃ x, x = (rn + 18446744073709551616 - rm) % 18446744073709551616 := ⟨_, rfl⟩
  have hxl : x < 18446744073709551616 := by omega
  rw [← hx] at k1' ⊢
  unfold lessX
  have k2' : bin Tryd.prog .shr 43 true (Un x) (.int .u64 63) = some (Un (x / 2 ^ 63)) := u64_shr Tryd.prog 43 true .u64 x 63 (by omega)
  have k3' : bin Tryd.prog .eql 43 true (Un (x / 2 ^ 63)) (.int .u64 1) = some (.bool (decide (x / 2 ^ 63 = 1))) := by rw [bin_eql]; congr 2; simp only [decide_eq_decide]; omega
  have k4' : bin Tryd.prog .eql 43 true (Un x) (.int .u64 0) = some (.bool (decide (x = 0))) := by rw [bin_eql]; congr 2; simp only [decide_eq_decide]; omega
  have k5' : bin Tryd.prog .geq 43 false (Un rn) (Un rm) = some (.bool (decide (rm ≤ rn))) := by rw [bin_geq]; congr 2; simp only [decide_eq_decide]; omega
  have k6' : bin Tryd.prog .xor 43 false (Un rn) (Un rm) = some (Un (rn ^^^ rm)) := by rw [bin_xor, u64_xor rn rm ln lm]
  have k7' : bin Tryd.prog .xor 43 false (Un rn) (Un x) = some (Un (rn ^^^ x)) := by rw [bin_xor, u64_xor rn x ln hxl]
  have l6 : rn ^^^ rm < 2 ^ 64 := Nat.xor_lt_two_pow ln lm
  have l7 : rn ^^^ x < 2 ^ 64 := Nat.xor_lt_two_pow ln hxl
  obtain ⟨y, hy⟩ : ∃ y, y = (rn ^^^ rm) &&& (rn ^^^ x) := ⟨_, rfl⟩
  have k8' : bin Tryd.prog .and 43 false (Un (rn ^^^ rm)) (Un (rn ^^^ x)) = some (Un y) := by rw [bin_and, u64_and _ _ (by omega) (by omega), hy]
  rw [← hy]
  have k9' : bin Tryd.prog .shr 43 true (Un y) (.int .u64 63) = some (Un (y / 2 ^ 63)) := u64_shr Tryd.prog 43 true .u64 y 63 (by omega)
  have k10' : bin Tryd.prog .eql 43 true (Un (y / 2 ^ 63)) (.int .u64 1) = some (.bool (decide (y / 2 ^ 63 = 1))) := by rw [bin_eql]; congr 2; simp only [decide_eq_decide]; omega
  have x2 : ∀ p q r s, buildArr 1 [.bool false, .bool false, .bool false, .bool false] [(0, .bool p), (1, .bool q), (2, .bool r), (3, .bool s)] = some (FL.a ⟨p, q, r, s⟩) := fun p q r s => rfl
  clear hx hy l6 l7 hxl
  generalize rn ^^^ rm = z1' at *
  generalize rn ^^^ x = z2' at *
  generalize decide (x / 2 ^ 63 = 1) = t1 at *
  generalize decide (x = 0) = t2 at *
  generalize decide (rm ≤ rn) = t3 at *
  generalize decide (y / 2 ^ 63 = 1) = t4 at *
  generalize x / 2 ^ 63 = z3' at *
  generalize y / 2 ^ 63 = z4' at *
  obtain ⟨ff, hff⟩ : ∃ ff : FL, ff = ⟨t1, t2, t3, t4⟩ := ⟨_, rfl⟩
  have x3 := x2 t1 t2 t3 t4
  rw [← hff] at x3 ⊢
  clear x2 hff
  rw [alembicref17_One.step]
  unfold alembicref17_One.c
  rw [zeroRg, zeroRgL]
  have hZ : (List.replicate 31 0 : List Nat).length = 31 := rfl
  have z1 : buildArr 1 (natsU (List.replicate 31 0)) [] = some (rgV (List.replicate 31 0)) := rfl
  have z2 : buildArr 1 [.bool false, .bool false, .bool false, .bool false] [] = some f00.a := rfl
  have b1 : boxA 44 (rgV (List.replicate 31 0)) [] = some (.ptr 0 1 0 0, [⟨44, 31, [rgV (List.replicate 31 0)]⟩]) := boxRg _ rfl []
  have b2 : boxA 53 (.agg [.bool false, .bool false, .bool false, .bool false]) [⟨44, 31, [rgV (List.replicate 31 0)]⟩] = some (.ptr 1 1 0 0, hp2 (List.replicate 31 0) f00) := rfl
  generalize List.replicate 31 0 = Z at *
  have c0 : ∀ H, boxRoA (rgV r) H = some (.rp false (rgV r) 0, H) := fun H => rfl
  have c1 : ∀ H, boxRoA f.a H = some (.rp false f.a 0, H) := fun H => rfl
  have c2 : ∀ H, loadV G true 31 (.rp false (rgV r) 0) H = some (rgV r) := fun H => by
    rw [q_ldrpT, if_pos (by rw [natsU_len, hr.len]; exact Nat.le_refl _), List.drop_zero, List.take_of_length_le (by rw [natsU_len, hr.len]; exact Nat.le_refl _)]
  have c3 : ∀ H, loadV G true 4 (.rp false f.a 0) H = some f.a := fun H => rfl
  have c4 : ∀ q : List Nat, q.length = 31 → stS (storeV 31 (.ptr 0 1 0 0) (rgV q) (hp2 Z f00)) = some (.tup [], hp2 q f00) := fun q hq => stRgA hq hZ rfl
  have c5 : ∀ (q : List Nat) (g : FL), stS (storeV 4 (.ptr 1 1 0 0) g.a (hp2 q f00)) = some (.tup [], hp2 q g) := fun q g => rfl
  have c4' := c4 r hr.len
  have c5' := c5 r ff
  refine e_in ?_
  repeat first
    | (with_reducible first | refine eT ?_ | refine eN ?_ | refine eS ?_ | refine eXn ?_ | refine eXr ?_ | refine eX ?_ | refine eI ?_ | refine eK ?_ | refine eV0 ?_ | refine eGr0 ?_ | refine eGtt ?_ | refine eGff ?_ | refine eGtf ?_ | refine eGft ?_ | refine eGno ?_)
    | ((with_reducible apply eCn); (simp only [nth_zero, nth_succ]; first | done | (with_reducible exact rfl)))
    | ((with_reducible apply eJ); (rfl))
    | ((with_reducible apply eGr1); (first | rfl | (simp only [nth_zero, nth_succ]; rfl)))
    | ((with_reducible apply eB); (first | (with_reducible exact rfl) | (simp (disch := omega) only [qf, r1, g1, g2, g3, g4, k1, k2, k3, b1, b2, c0, c1, c2, c3, z1, z2, k1', k2', k3', k4', k5', k6', k7', k8', k9', k10', x3, c4', c5']; first | done | (with_reducible exact rfl) | (with_reducible exact ⟨rfl, rfl⟩)) | (simp (disch := omega) only [qa, putC, AV.cells, storable, buildSt, fillA, buildRo, buildOwn, fillE, Nat.reduceLeDiff, Nat.reduceLT, Nat.reduceAdd, ↓reduceIte, r1, g1, g2, g3, g4, k1, k2, k3, b1, b2, c0, c1, c2, c3, z1, z2, k1', k2', k3', k4', k5', k6', k7', k8', k9', k10', x3, c4', c5']; first | done | (with_reducible exact rfl) | (with_reducible exact ⟨rfl, rfl⟩))))
    | ((with_reducible apply eR); (simp only [nth_zero, nth_succ]; (with_reducible exact rfl)))
  exact oF (rone_fin G r hr.len ff true)
theorem rone_16 (G : Globs) (k : Nat) (d n m a imm : Int) (hw : rightB ⟨16, d, n, m, a, imm⟩ = true) (r : List Nat) (hr : RgOk r) (f : FL) :
    alembicref17_One.f G (k + 7) [mV 16 d n m a imm, rgV r, f.a] [] = some (oneV ((doesF ⟨16, d, n, m, a, imm⟩ r f).1, (doesF ⟨16, d, n, m, a, imm⟩ r f).2, true), []) := by
  have r1 : ∀ H, pureCall (alembicref17_Word.f G (k + 6)) [mV 16 d n m a imm] H = _ := fun H => pureCall_of (H := H) (rword_spec G k ⟨16, d, n, m, a, imm⟩) rfl rfl
  rw [hw] at r1
  obtain ⟨_, hd, hn, hm, ha, hf⟩ := right_ok hw
  have himm : 0 ≤ imm ∧ imm < 65536 := by
    unfold rightB at hw
    rw [Bool.and_eq_true] at hw
    obtain ⟨_, h⟩ := hw
    simp [formF, fairB, regB, extraB, immB, halfI, stackB] at h
    omega
  simp only at hd hn hm ha hf
  clear hw
  have ld := hr.get d
  have ln := hr.get n
  have lm := hr.get m
  have la := hr.get a
  have g : ∀ j, 0 ≤ j → j ≤ 31 → ∀ H, pureCall (alembicref17_get.f G (k + 6)) [rgV r, I6 j] H = some (Un (getF r j), H) := fun j h0 h1 H => pureCall_of (H := H) (rget_spec G (k + 5) r hr.len j h0 h1) (by simp [plainL, plainB, plainU]) rfl
  have g1 := g d hd.1 hd.2
  have g2 := g n hn.1 hn.2
  have g3 := g m hm.1 hm.2
  have g4 := g a ha.1 ha.2
  clear g
  have st : ∀ x H, pureCall (alembicref17_set.f G (k + 6)) [rgV r, I6 d, Un x] H = some (rgV (setF r d x), H) := fun x H => pureCall_of (H := H) (rset_spec G (k + 5) r hr.len d hd.1 hd.2 x) (by simp [plainL, plainB, plainU]) (by simp [cleanB, cleanU])
  obtain ⟨ki, hki⟩ : ∃ z, z = u64 imm := ⟨_, rfl⟩
  have hkl : ki < 18446744073709551616 := by rw [hki]; exact u64_lt _
  have hkv : (ki : Int) = imm := by rw [hki]; unfold u64; omega
  have k1 : convInt .u64 (I6 imm) = some (Un ki) := by rw [conv_u64, hki]
  have k2 : bin Tryd.prog .and 3 true (I6 imm) (.int .i64 63) = some (I6 (imm % 64)) := i64_and63 _ _ _ (by omega) (by omega)
  obtain ⟨kj, hkj⟩ : ∃ z : Nat, (z : Int) = imm % 64 := ⟨(imm % 64).toNat, by omega⟩
  rw [← hkj] at k2
  have k3 : convInt .u64 (Nn kj) = some (Un kj) := by rw [convInt_int, wrap_of_u64 (by omega) (by omega)]
  have ed : doesF ⟨16, d, n, m, a, imm⟩ r f = (setF r d ((if holdsF a f = true then getF r n else getF r m)), f) := by
    unfold doesF madeF
    simp only [Int.reduceEq, or_false, false_or, or_self, or_true, true_or, if_false, if_true, ↓reduceIte]
  rw [ed]
  clear ed
  simp only
  try rw [← hki]
  generalize getF r d = rd at *
  generalize getF r n = rn at *
  generalize getF r m = rm at *
  generalize getF r a = ra at *
  have o1 : ∀ H, pureCall (alembicref17_Holds.f G (k + 6)) [I6 a, f.a] H = _ := fun H => pureCall_of (H := H) (rholds_spec G (k + 5) a f) rfl rfl
  generalize holdsF a f = hh at *
  rw [alembicref17_One.step]
  unfold alembicref17_One.c
  rw [zeroRg, zeroRgL]
  have hZ : (List.replicate 31 0 : List Nat).length = 31 := rfl
  have z1 : buildArr 1 (natsU (List.replicate 31 0)) [] = some (rgV (List.replicate 31 0)) := rfl
  have z2 : buildArr 1 [.bool false, .bool false, .bool false, .bool false] [] = some f00.a := rfl
  have b1 : boxA 44 (rgV (List.replicate 31 0)) [] = some (.ptr 0 1 0 0, [⟨44, 31, [rgV (List.replicate 31 0)]⟩]) := boxRg _ rfl []
  have b2 : boxA 53 (.agg [.bool false, .bool false, .bool false, .bool false]) [⟨44, 31, [rgV (List.replicate 31 0)]⟩] = some (.ptr 1 1 0 0, hp2 (List.replicate 31 0) f00) := rfl
  generalize List.replicate 31 0 = Z at *
  have c0 : ∀ H, boxRoA (rgV r) H = some (.rp false (rgV r) 0, H) := fun H => rfl
  have c1 : ∀ H, boxRoA f.a H = some (.rp false f.a 0, H) := fun H => rfl
  have c2 : ∀ H, loadV G true 31 (.rp false (rgV r) 0) H = some (rgV r) := fun H => by
    rw [q_ldrpT, if_pos (by rw [natsU_len, hr.len]; exact Nat.le_refl _), List.drop_zero, List.take_of_length_le (by rw [natsU_len, hr.len]; exact Nat.le_refl _)]
  have c3 : ∀ H, loadV G true 4 (.rp false f.a 0) H = some f.a := fun H => rfl
  have c4 : ∀ q : List Nat, q.length = 31 → stS (storeV 31 (.ptr 0 1 0 0) (rgV q) (hp2 Z f00)) = some (.tup [], hp2 q f00) := fun q hq => stRgA hq hZ rfl
  have c5 : ∀ (q : List Nat) (g : FL), stS (storeV 4 (.ptr 1 1 0 0) g.a (hp2 q f00)) = some (.tup [], hp2 q g) := fun q g => rfl
  refine e_in ?_
  cases hh
  · simp only [Bool.false_eq_true, if_false, if_true]
    have st' : ∀ H, pureCall (alembicref17_set.f G (k + 6)) [rgV r, I6 d, Un rm] H = some (rgV (setF r d rm), H) := st rm
    have hq := setF_len r hr.len d rm
    generalize setF r d rm = q at *
    have c4' := c4 q hq
    have c5' := c5 q f
    repeat first
      | (with_reducible first | refine eT ?_ | refine eN ?_ | refine eS ?_ | refine eXn ?_ | refine eXr ?_ | refine eX ?_ | refine eI ?_ | refine eK ?_ | refine eV0 ?_ | refine eGr0 ?_ | refine eGtt ?_ | refine eGff ?_ | refine eGtf ?_ | refine eGft ?_ | refine eGno ?_)
      | ((with_reducible apply eCn); (simp only [nth_zero, nth_succ]; first | done | (with_reducible exact rfl)))
      | ((with_reducible apply eJ); (rfl))
      | ((with_reducible apply eGr1); (first | rfl | (simp only [nth_zero, nth_succ]; rfl)))
      | ((with_reducible apply eB); (first | (with_reducible exact rfl) | (simp (disch := omega) only [qf, r1, g1, g2, g3, g4, k1, k2, k3, b1, b2, c0, c1, c2, c3, z1, z2, o1, st', c4', c5']; first | done | (with_reducible exact rfl) | (with_reducible exact ⟨rfl, rfl⟩)) | (simp (disch := omega) only [qa, putC, AV.cells, storable, buildSt, fillA, buildRo, buildOwn, fillE, Nat.reduceLeDiff, Nat.reduceLT, Nat.reduceAdd, ↓reduceIte, r1, g1, g2, g3, g4, k1, k2, k3, b1, b2, c0, c1, c2, c3, z1, z2, o1, st', c4', c5']; first | done | (with_reducible exact rfl) | (with_reducible exact ⟨rfl, rfl⟩))))
      | ((with_reducible apply eR); (simp only [nth_zero, nth_succ]; (with_reducible exact rfl)))
    exact oF (rone_fin G q hq f true)
  · simp only [Bool.false_eq_true, if_false, if_true]
    have st' : ∀ H, pureCall (alembicref17_set.f G (k + 6)) [rgV r, I6 d, Un rn] H = some (rgV (setF r d rn), H) := st rn
    have hq := setF_len r hr.len d rn
    generalize setF r d rn = q at *
    have c4' := c4 q hq
    have c5' := c5 q f
    repeat first
      | (with_reducible first | refine eT ?_ | refine eN ?_ | refine eS ?_ | refine eXn ?_ | refine eXr ?_ | refine eX ?_ | refine eI ?_ | refine eK ?_ | refine eV0 ?_ | refine eGr0 ?_ | refine eGtt ?_ | refine eGff ?_ | refine eGtf ?_ | refine eGft ?_ | refine eGno ?_)
      | ((with_reducible apply eCn); (simp only [nth_zero, nth_succ]; first | done | (with_reducible exact rfl)))
      | ((with_reducible apply eJ); (rfl))
      | ((with_reducible apply eGr1); (first | rfl | (simp only [nth_zero, nth_succ]; rfl)))
      | ((with_reducible apply eB); (first | (with_reducible exact rfl) | (simp (disch := omega) only [qf, r1, g1, g2, g3, g4, k1, k2, k3, b1, b2, c0, c1, c2, c3, z1, z2, o1, st', c4', c5']; first | done | (with_reducible exact rfl) | (with_reducible exact ⟨rfl, rfl⟩)) | (simp (disch := omega) only [qa, putC, AV.cells, storable, buildSt, fillA, buildRo, buildOwn, fillE, Nat.reduceLeDiff, Nat.reduceLT, Nat.reduceAdd, ↓reduceIte, r1, g1, g2, g3, g4, k1, k2, k3, b1, b2, c0, c1, c2, c3, z1, z2, o1, st', c4', c5']; first | done | (with_reducible exact rfl) | (with_reducible exact ⟨rfl, rfl⟩))))
      | ((with_reducible apply eR); (simp only [nth_zero, nth_succ]; (with_reducible exact rfl)))
    exact oF (rone_fin G q hq f true)
theorem rone_17 (G : Globs) (k : Nat) (d n m a imm : Int) (hw : rightB ⟨17, d, n, m, a, imm⟩ = true) (r : List Nat) (hr : RgOk r) (f : FL) :
    alembicref17_One.f G (k + 7) [mV 17 d n m a imm, rgV r, f.a] [] = some (oneV ((doesF ⟨17, d, n, m, a, imm⟩ r f).1, (doesF ⟨17, d, n, m, a, imm⟩ r f).2, true), []) := by
  have r1 : ∀ H, pureCall (alembicref17_Word.f G (k + 6)) [mV 17 d n m a imm] H = _ := fun H => pureCall_of (H := H) (rword_spec G k ⟨17, d, n, m, a, imm⟩) rfl rfl
  rw [hw] at r1
  obtain ⟨_, hd, hn, hm, ha, hf⟩ := right_ok hw
  have himm : 0 ≤ imm ∧ imm < 65536 := by
    unfold rightB at hw
    rw [Bool.and_eq_true] at hw
    obtain ⟨_, h⟩ := hw
    simp [formF, fairB, regB, extraB, immB, halfI, stackB] at h
    omega
  simp only at hd hn hm ha hf
  clear hw
  have ld := hr.get d
  have ln := hr.get n
  have lm := hr.get m
  have la := hr.get a
  have g : ∀ j, 0 ≤ j → j ≤ 31 → ∀ H, pureCall (alembicref17_get.f G (k + 6)) [rgV r, I6 j] H = some (Un (getF r j), H) := fun j h0 h1 H => pureCall_of (H := H) (rget_spec G (k + 5) r hr.len j h0 h1) (by simp [plainL, plainB, plainU]) rfl
  have g1 := g d hd.1 hd.2
  have g2 := g n hn.1 hn.2
  have g3 := g m hm.1 hm.2
  have g4 := g a ha.1 ha.2
  clear g
  have st : ∀ x H, pureCall (alembicref17_set.f G (k + 6)) [rgV r, I6 d, Un x] H = some (rgV (setF r d x), H) := fun x H => pureCall_of (H := H) (rset_spec G (k + 5) r hr.len d hd.1 hd.2 x) (by simp [plainL, plainB, plainU]) (by simp [cleanB, cleanU])
  obtain ⟨ki, hki⟩ : ∃ z, z = u64 imm := ⟨_, rfl⟩
  have hkl : ki < 18446744073709551616 := by rw [hki]; exact u64_lt _
  have hkv : (ki : Int) = imm := by rw [hki]; unfold u64; omega
  have k1 : convInt .u64 (I6 imm) = some (Un ki) := by rw [conv_u64, hki]
  have k2 : bin Tryd.prog .and 3 true (I6 imm) (.int .i64 63) = some (I6 (imm % 64)) := i64_and63 _ _ _ (by omega) (by omega)
  obtain ⟨kj, hkj⟩ : ∃ z : Nat, (z : Int) = imm % 64 := ⟨(imm % 64).toNat, by omega⟩
  rw [← hkj] at k2
  have k3 : convInt .u64 (Nn kj) = some (Un kj) := by rw [convInt_int, wrap_of_u64 (by omega) (by omega)]
  have ed : doesF ⟨17, d, n, m, a, imm⟩ r f = (setF r d ((if holdsF a f = true then 1 else 0)), f) := by
    unfold doesF madeF
    simp only [Int.reduceEq, or_false, false_or, or_self, or_true, true_or, if_false, if_true, ↓reduceIte]
  rw [ed]
  clear ed
  simp only
  try rw [← hki]
  generalize getF r d = rd at *
  generalize getF r n = rn at *
  generalize getF r m = rm at *
  generalize getF r a = ra at *
  have o1 : ∀ H, pureCall (alembicref17_Holds.f G (k + 6)) [I6 a, f.a] H = _ := fun H => pureCall_of (H := H) (rholds_spec G (k + 5) a f) rfl rfl
  generalize holdsF a f = hh at *
  rw [alembicref17_One.step]
  unfold alembicref17_One.c
  rw [zeroRg, zeroRgL]
  have hZ : (List.replicate 31 0 : List Nat).length = 31 := rfl
  have z1 : buildArr 1 (natsU (List.replicate 31 0)) [] = some (rgV (List.replicate 31 0)) := rfl
  have z2 : buildArr 1 [.bool false, .bool false, .bool false, .bool false] [] = some f00.a := rfl
  have b1 : boxA 44 (rgV (List.replicate 31 0)) [] = some (.ptr 0 1 0 0, [⟨44, 31, [rgV (List.replicate 31 0)]⟩]) := boxRg _ rfl []
  have b2 : boxA 53 (.agg [.bool false, .bool false, .bool false, .bool false]) [⟨44, 31, [rgV (List.replicate 31 0)]⟩] = some (.ptr 1 1 0 0, hp2 (List.replicate 31 0) f00) := rfl
  generalize List.replicate 31 0 = Z at *
  have c0 : ∀ H, boxRoA (rgV r) H = some (.rp false (rgV r) 0, H) := fun H => rfl
  have c1 : ∀ H, boxRoA f.a H = some (.rp false f.a 0, H) := fun H => rfl
  have c2 : ∀ H, loadV G true 31 (.rp false (rgV r) 0) H = some (rgV r) := fun H => by
    rw [q_ldrpT, if_pos (by rw [natsU_len, hr.len]; exact Nat.le_refl _), List.drop_zero, List.take_of_length_le (by rw [natsU_len, hr.len]; exact Nat.le_refl _)]
  have c3 : ∀ H, loadV G true 4 (.rp false f.a 0) H = some f.a := fun H => rfl
  have c4 : ∀ q : List Nat, q.length = 31 → stS (storeV 31 (.ptr 0 1 0 0) (rgV q) (hp2 Z f00)) = some (.tup [], hp2 q f00) := fun q hq => stRgA hq hZ rfl
  have c5 : ∀ (q : List Nat) (g : FL), stS (storeV 4 (.ptr 1 1 0 0) g.a (hp2 q f00)) = some (.tup [], hp2 q g) := fun q g => rfl
  refine e_in ?_
  cases hh
  · simp only [Bool.false_eq_true, if_false, if_true]
    have st' : ∀ H, pureCall (alembicref17_set.f G (k + 6)) [rgV r, I6 d, .int .u64 0] H = some (rgV (setF r d 0), H) := st 0
    have hq := setF_len r hr.len d 0
    generalize setF r d 0 = q at *
    have c4' := c4 q hq
    have c5' := c5 q f
    repeat first
      | (with_reducible first | refine eT ?_ | refine eN ?_ | refine eS ?_ | refine eXn ?_ | refine eXr ?_ | refine eX ?_ | refine eI ?_ | refine eK ?_ | refine eV0 ?_ | refine eGr0 ?_ | refine eGtt ?_ | refine eGff ?_ | refine eGtf ?_ | refine eGft ?_ | refine eGno ?_)
      | ((with_reducible apply eCn); (simp only [nth_zero, nth_succ]; first | done | (with_reducible exact rfl)))
      | ((with_reducible apply eJ); (rfl))
      | ((with_reducible apply eGr1); (first | rfl | (simp only [nth_zero, nth_succ]; rfl)))
      | ((with_reducible apply eB); (first | (with_reducible exact rfl) | (simp (disch := omega) only [qf, r1, g1, g2, g3, g4, k1, k2, k3, b1, b2, c0, c1, c2, c3, z1, z2, o1, st', c4', c5']; first | done | (with_reducible exact rfl) | (with_reducible exact ⟨rfl, rfl⟩)) | (simp (disch := omega) only [qa, putC, AV.cells, storable, buildSt, fillA, buildRo, buildOwn, fillE, Nat.reduceLeDiff, Nat.reduceLT, Nat.reduceAdd, ↓reduceIte, r1, g1, g2, g3, g4, k1, k2, k3, b1, b2, c0, c1, c2, c3, z1, z2, o1, st', c4', c5']; first | done | (with_reducible exact rfl) | (with_reducible exact ⟨rfl, rfl⟩))))
      | ((with_reducible apply eR); (simp only [nth_zero, nth_succ]; (with_reducible exact rfl)))
    exact oF (rone_fin G q hq f true)
  · simp only [Bool.false_eq_true, if_false, if_true]
    have st' : ∀ H, pureCall (alembicref17_set.f G (k + 6)) [rgV r, I6 d, .int .u64 1] H = some (rgV (setF r d 1), H) := st 1
    have hq := setF_len r hr.len d 1
    generalize setF r d 1 = q at *
    have c4' := c4 q hq
    have c5' := c5 q f
    repeat first
      | (with_reducible first | refine eT ?_ | refine eN ?_ | refine eS ?_ | refine eXn ?_ | refine eXr ?_ | refine eX ?_ | refine eI ?_ | refine eK ?_ | refine eV0 ?_ | refine eGr0 ?_ | refine eGtt ?_ | refine eGff ?_ | refine eGtf ?_ | refine eGft ?_ | refine eGno ?_)
      | ((with_reducible apply eCn); (simp only [nth_zero, nth_succ]; first | done | (with_reducible exact rfl)))
      | ((with_reducible apply eJ); (rfl))
      | ((with_reducible apply eGr1); (first | rfl | (simp only [nth_zero, nth_succ]; rfl)))
      | ((with_reducible apply eB); (first | (with_reducible exact rfl) | (simp (disch := omega) only [qf, r1, g1, g2, g3, g4, k1, k2, k3, b1, b2, c0, c1, c2, c3, z1, z2, o1, st', c4', c5']; first | done | (with_reducible exact rfl) | (with_reducible exact ⟨rfl, rfl⟩)) | (simp (disch := omega) only [qa, putC, AV.cells, storable, buildSt, fillA, buildRo, buildOwn, fillE, Nat.reduceLeDiff, Nat.reduceLT, Nat.reduceAdd, ↓reduceIte, r1, g1, g2, g3, g4, k1, k2, k3, b1, b2, c0, c1, c2, c3, z1, z2, o1, st', c4', c5']; first | done | (with_reducible exact rfl) | (with_reducible exact ⟨rfl, rfl⟩))))
      | ((with_reducible apply eR); (simp only [nth_zero, nth_succ]; (with_reducible exact rfl)))
    exact oF (rone_fin G q hq f true)

theorem rOne_spec (G : Globs) (k : Nat) (i : MI) (r : List Nat) (hr : RgOk r) (f : FL) : alembicref17_One.f G (k + 7) [i.v, rgV r, f.a] [] = some (oneV (oneF i r f), []) := by
  unfold oneF
  by_cases h : rightB i = true ∧ i.op ≤ 17
  · rw [if_pos h]
    have h24 := right24 h.1
    obtain ⟨op, d, n, m, a, imm⟩ := i
    obtain ⟨hw, h17⟩ := h
    simp only at h17 h24
    show alembicref17_One.f G (k + 7) [mV op d n m a imm, rgV r, f.a] [] = _
    have h17' : op = 1 ∨ op = 2 ∨ op = 3 ∨ op = 4 ∨ op = 5 ∨ op = 6 ∨ op = 7 ∨ op = 8 ∨ op = 9 ∨ op = 10 ∨ op = 11 ∨ op = 12 ∨ op = 13 ∨ op = 14 ∨ op = 15 ∨ op = 16 ∨ op = 17 := by omega
    rcases h17' with rfl | rfl | rfl | rfl | rfl | rfl | rfl | rfl | rfl | rfl | rfl | rfl | rfl | rfl | rfl | rfl | rfl
    · exact rone_1 G k d n m a imm hw r hr f
    · exact rone_2 G k d n m a imm hw r hr f
    · exact rone_3 G k d n m a imm hw r hr f
    · exact rone_4 G k d n m a imm hw r hr f
    · exact rone_5 G k d n m a imm hw r hr f
    · exact rone_6 G k d n m a imm hw r hr f
    · exact rone_7 G k d n m a imm hw r hr f
    · exact rone_8 G k d n m a imm hw r hr f
    · exact rone_9 G k d n m a imm hw r hr f
    · exact rone_10 G k d n m a imm hw r hr f
    · exact rone_11 G k d n m a imm hw r hr f
    · exact rone_12 G k d n m a imm hw r hr f
    · exact rone_13 G k d n m a imm hw r hr f
    · exact rone_14 G k d n m a imm hw r hr f
    · exact rone_15 G k d n m a imm hw r hr f
    · exact rone_16 G k d n m a imm hw r hr f
    · exact rone_17 G k d n m a imm hw r hr f
  · rw [if_neg h]
    have r1 : ∀ H, pureCall (alembicref17_Word.f G (k + 6)) [i.v] H = _ := fun H => pureCall_of (H := H) (rword_spec G k i) rfl rfl
    rw [alembicref17_One.step]
    unfold alembicref17_One.c
    rw [zeroRg, zeroRgL]
    have hZ : (List.replicate 31 0 : List Nat).length = 31 := rfl
    have z1 : buildArr 1 (natsU (List.replicate 31 0)) [] = some (rgV (List.replicate 31 0)) := rfl
    have z2 : buildArr 1 [.bool false, .bool false, .bool false, .bool false] [] = some f00.a := rfl
    have b1 : boxA 44 (rgV (List.replicate 31 0)) [] = some (.ptr 0 1 0 0, [⟨44, 31, [rgV (List.replicate 31 0)]⟩]) := boxRg _ rfl []
    have b2 : boxA 53 (.agg [.bool false, .bool false, .bool false, .bool false]) [⟨44, 31, [rgV (List.replicate 31 0)]⟩] = some (.ptr 1 1 0 0, hp2 (List.replicate 31 0) f00) := rfl
    have c0 : ∀ H, boxRoA (rgV r) H = some (.rp false (rgV r) 0, H) := fun H => rfl
    have c1 : ∀ H, boxRoA f.a H = some (.rp false f.a 0, H) := fun H => rfl
    have c4 : stS (storeV 31 (.ptr 0 1 0 0) (rgV (List.replicate 31 0)) (hp2 (List.replicate 31 0) f00)) = some (.tup [], hp2 (List.replicate 31 0) f00) := stRgA hZ hZ rfl
    have c5 : ∀ (q : List Nat) (g : FL), stS (storeV 4 (.ptr 1 1 0 0) g.a (hp2 q f00)) = some (.tup [], hp2 q g) := fun q g => rfl
    generalize List.replicate 31 0 = Z at *
    obtain ⟨op, d, n, m, a, imm⟩ := i
    simp only at h
    generalize rightB ⟨op, d, n, m, a, imm⟩ = b at *
    unfold MI.v at *
    simp only at *
    refine e_in ?_
    cases b
    · repeat first
        | (with_reducible first | refine eT ?_ | refine eN ?_ | refine eS ?_ | refine eXn ?_ | refine eXr ?_ | refine eX ?_ | refine eI ?_ | refine eK ?_ | refine eV0 ?_ | refine eGr0 ?_ | refine eGtt ?_ | refine eGff ?_ | refine eGtf ?_ | refine eGft ?_ | refine eGno ?_)
        | ((with_reducible apply eCn); (simp only [nth_zero, nth_succ]; first | done | (with_reducible exact rfl)))
        | ((with_reducible apply eJ); (rfl))
        | ((with_reducible apply eGr1); (first | rfl | (simp only [nth_zero, nth_succ]; rfl)))
        | ((with_reducible apply eB); (first | (with_reducible exact rfl) | (simp (disch := omega) only [qf, r1, b1, b2, c0, c1, z1, z2, c4, c5]; first | done | (with_reducible exact rfl) | (with_reducible exact ⟨rfl, rfl⟩)) | (simp (disch := omega) only [qa, putC, AV.cells, storable, buildSt, fillA, buildRo, buildOwn, fillE, Nat.reduceLeDiff, Nat.reduceLT, Nat.reduceAdd, ↓reduceIte, r1, b1, b2, c0, c1, z1, z2, c4, c5]; first | done | (with_reducible exact rfl) | (with_reducible exact ⟨rfl, rfl⟩))))
        | ((with_reducible apply eR); (simp only [nth_zero, nth_succ]; (with_reducible exact rfl)))
      exact oF (rone_fin G Z hZ f00 false)
    · have h17 : ¬ op ≤ 17 := fun h2 => h ⟨rfl, h2⟩
      repeat first
        | (with_reducible first | refine eT ?_ | refine eN ?_ | refine eS ?_ | refine eXn ?_ | refine eXr ?_ | refine eX ?_ | refine eI ?_ | refine eK ?_ | refine eV0 ?_ | refine eGr0 ?_ | refine eGtt ?_ | refine eGff ?_ | refine eGtf ?_ | refine eGft ?_ | refine eGno ?_)
        | ((with_reducible apply eCn); (simp only [nth_zero, nth_succ]; first | done | (with_reducible exact rfl)))
        | ((with_reducible apply eJ); (rfl))
        | ((with_reducible apply eGr1); (first | rfl | (simp only [nth_zero, nth_succ]; rfl)))
        | ((with_reducible apply eB); (first | (with_reducible exact rfl) | (simp (disch := omega) only [qf, r1, b1, b2, c0, c1, z1, z2, c4, c5]; first | done | (with_reducible exact rfl) | (with_reducible exact ⟨rfl, rfl⟩)) | (simp (disch := omega) only [qa, putC, AV.cells, storable, buildSt, fillA, buildRo, buildOwn, fillE, Nat.reduceLeDiff, Nat.reduceLT, Nat.reduceAdd, ↓reduceIte, r1, b1, b2, c0, c1, z1, z2, c4, c5]; first | done | (with_reducible exact rfl) | (with_reducible exact ⟨rfl, rfl⟩))))
        | ((with_reducible apply eR); (simp only [nth_zero, nth_succ]; (with_reducible exact rfl)))
      exact oF (rone_fin G Z hZ f00 false)
end Go.Proofs.YtdfglgnflldkpaaDoor.Mir
