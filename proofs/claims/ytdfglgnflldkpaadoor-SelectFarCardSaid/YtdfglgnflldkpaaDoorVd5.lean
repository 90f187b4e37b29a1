/- Part 5 of the proof: what these functions do. -/
import Derived.Test.YtdfglgnflldkpaaDoorVd4
namespace Go.Proofs.YtdfglgnflldkpaaDoor.Mir
open Go
set_option linter.unusedVariables false
set_option linter.unusedSimpArgs false
set_option maxHeartbeats 8000000
set_option maxRecDepth 20000
theorem rget_spec (G : Globs) (k : Nat) (r : List Nat) (hr : r.length = 31) (j : Int) (h0 : 0 ≤ j) (h1 : j ≤ 31) : alembicref17_get.f G (k + 1) [rgV r, I6 j] [] = some (Un (getF r j), []) := by
  rw [alembicref17_get.step]
  unfold alembicref17_get.c getF
  have b1 : ∀ H, boxRoA (rgV r) H = some (.rp false (rgV r) 0, H) := fun H => rfl
  refine e_in ?_
  by_cases h : j = 31
  · rw [if_pos h]
    have fx := b1
    refine wkA ?_
    exact w1i rfl
  · rw [if_neg h]
    have i1 : idxAddrArr 31 1 (.rp false (rgV r) 0) (I6 j) = some (.rp false (rgV r) j.toNat) := by
      unfold idxAddrArr
      simp only
      rw [if_pos ⟨h0, by omega⟩, Nat.zero_add, Nat.mul_one]
    have l1 : ∀ H, loadV G false 1 (.rp false (rgV r) j.toNat) H = some (Un (r.getD j.toNat 0)) := fun H => by
      rw [q_ldrp, natsU_get _ _ (by omega)]
    have fx := And.intro b1 <| And.intro i1 <| l1
    refine wkA ?_
    exact w1i rfl
theorem zeroRg : (AV.agg [(.int .u64 0), (.int .u64 0), (.int .u64 0), (.int .u64 0), (.int .u64 0), (.int .u64 0), (.int .u64 0), (.int .u64 0), (.int .u64 0), (.int .u64 0), (.int .u64 0), (.int .u64 0), (.int .u64 0), (.int .u64 0), (.int .u64 0), (.int .u64 0), (.int .u64 0), (.int .u64 0), (.int .u64 0), (.int .u64 0), (.int .u64 0), (.int .u64 0), (.int .u64 0), (.int .u64 0), (.int .u64 0), (.int .u64 0), (.int .u64 0), (.int .u64 0), (.int .u64 0), (.int .u64 0), (.int .u64 0)]) = rgV (List.replicate 31 0) := rfl
theorem zeroRgL : [(AV.int .u64 0), (.int .u64 0), (.int .u64 0), (.int .u64 0), (.int .u64 0), (.int .u64 0), (.int .u64 0), (.int .u64 0), (.int .u64 0), (.int .u64 0), (.int .u64 0), (.int .u64 0), (.int .u64 0), (.int .u64 0), (.int .u64 0), (.int .u64 0), (.int .u64 0), (.int .u64 0), (.int .u64 0), (.int .u64 0), (.int .u64 0), (.int .u64 0), (.int .u64 0), (.int .u64 0), (.int .u64 0), (.int .u64 0), (.int .u64 0), (.int .u64 0), (.int .u64 0), (.int .u64 0), (.int .u64 0)] = natsU (List.replicate 31 0) := rfl
theorem boxRg (r : List Nat) (hr : r.length = 31) (H : AHeap) : boxA 44 (rgV r) H = some (.ptr H.length 1 0 0, H ++ [⟨44, 31, [rgV r]⟩]) := by
  simp [boxA, storable, AV.cells, natsU_len, hr]
theorem stReg {j i : Nat} {H : AHeap} {r : List Nat} (hr : r.length = 31) (hi : i < 31) (x : Nat) (e : H[j]? = some ⟨44, 31, [rgV r]⟩) : stS (storeV 1 (.ptr j 1 0 i) (Un x) H) = some (.tup [], H.set j ⟨44, 31, [rgV (r.set i x)]⟩) := by
  have e2 : putC (natsU r) i [Un x] = natsU (r.set i x) := by
    rw [natsU_set, List.set_eq_take_append_cons_drop, if_pos (by rw [natsU_len]; omega)]
    rfl
  unfold storeV
  simp only [e, AV.cells, natsU_len, hr, List.length_singleton, storable, List.getElem?_cons_zero]
  rw [if_pos (by simp), if_pos (by omega), e2]
  rfl
theorem stRgA {j : Nat} {H : AHeap} {q r : List Nat} (hq : q.length = 31) (hr : r.length = 31) (e : H[j]? = some ⟨44, 31, [rgV r]⟩) : stS (storeV 31 (.ptr j 1 0 0) (rgV q) H) = some (.tup [], H.set j ⟨44, 31, [rgV q]⟩) := by
  have e2 : putC (natsU r) 0 (natsU q) = natsU q := by
    unfold putC
    rw [List.take_zero, List.nil_append, List.drop_of_length_le (by rw [natsU_len, natsU_len]; omega), List.append_nil]
  unfold storeV
  simp only [e, AV.cells, natsU_len, hq, List.length_singleton, storable, List.getElem?_cons_zero]
  rw [if_pos (by simp), if_pos (by omega), e2]
  rfl
theorem rset_spec (G : Globs) (k : Nat) (r : List Nat) (hr : r.length = 31) (j : Int) (h0 : 0 ≤ j) (h1 : j ≤ 31) (x : Nat) : alembicref17_set.f G (k + 1) [rgV r, I6 j, Un x] [] = some (rgV (setF r j x), []) := by
  rw [alembicref17_set.step]
  unfold alembicref17_set.c setF
  rw [zeroRg]
  have hZ : (List.replicate 31 0 : List Nat).length = 31 := rfl
  obtain ⟨Z, hz⟩ : ∃ Z : List Nat, Z = List.replicate 31 0 := ⟨_, rfl⟩
  rw [← hz] at hZ ⊢
  clear hz
  have b1 : boxA 44 (rgV r) [] = some (.ptr 0 1 0 0, [⟨44, 31, [rgV r]⟩]) := boxRg r hr []
  have b2 : boxA 44 (rgV Z) [⟨44, 31, [rgV r]⟩] = some (.ptr 1 1 0 0, [⟨44, 31, [rgV r]⟩, ⟨44, 31, [rgV Z]⟩]) := boxRg Z hZ _
  refine e_in ?_
  by_cases h : j = 31
  · rw [if_pos h]
    have l1 : loadV G true 31 (.ptr 0 1 0 0) [⟨44, 31, [rgV r]⟩, ⟨44, 31, [rgV Z]⟩] = some (rgV r) := ldRg G hr rfl
    have s1 : stS (storeV 31 (.ptr 1 1 0 0) (rgV r) [⟨44, 31, [rgV r]⟩, ⟨44, 31, [rgV Z]⟩]) = some (.tup [], [⟨44, 31, [rgV r]⟩, ⟨44, 31, [rgV r]⟩]) := stRgA hr hZ rfl
    have fx := And.intro b1 <| And.intro b2 <| And.intro l1 <| s1
    refine wkA ?_
    exact oF (finL_one (by simp [belowB, natsU_below]) (ldRg G hr rfl))
  · rw [if_neg h]
    have i1 : idxAddrArr 31 1 (.ptr 0 1 0 0) (I6 j) = some (.ptr 0 1 0 j.toNat) := by
      unfold idxAddrArr
      simp only
      rw [if_pos ⟨h0, by omega⟩, Nat.zero_add, Nat.mul_one]
    have hr' : (r.set j.toNat x).length = 31 := by rw [List.length_set]; exact hr
    have s0 : stS (storeV 1 (.ptr 0 1 0 j.toNat) (Un x) [⟨44, 31, [rgV r]⟩, ⟨44, 31, [rgV Z]⟩]) = some (.tup [], [⟨44, 31, [rgV (r.set j.toNat x)]⟩, ⟨44, 31, [rgV Z]⟩]) := stReg hr (by omega) x rfl
    generalize r.set j.toNat x = q at *
    have l1 : loadV G true 31 (.ptr 0 1 0 0) [⟨44, 31, [rgV q]⟩, ⟨44, 31, [rgV Z]⟩] = some (rgV q) := ldRg G hr' rfl
    have s1 : stS (storeV 31 (.ptr 1 1 0 0) (rgV q) [⟨44, 31, [rgV q]⟩, ⟨44, 31, [rgV Z]⟩]) = some (.tup [], [⟨44, 31, [rgV q]⟩, ⟨44, 31, [rgV q]⟩]) := stRgA hr' hZ rfl
    have fx := And.intro b1 <| And.intro b2 <| And.intro i1 <| And.intro s0 <| And.intro l1 <| s1
    refine wkA ?_
    exact oF (finL_one (by simp [belowB, natsU_below]) (ldRg G hr' rfl))
theorem rholds_spec (G : Globs) (k : Nat) (c : Int) (f : FL) : alembicref17_Holds.f G (k + 1) [I6 c, f.a] [] = some (.bool (holdsF c f), []) := by
  obtain ⟨n, z, cc, v⟩ := f
  rw [alembicref17_Holds.step]
  unfold alembicref17_Holds.c holdsF FL.a
  have i1 : idxAddrArr 4 1 (.rp false (.agg [.bool n, .bool z, .bool cc, .bool v]) 0) (.int .i64 1) = some (.rp false (.agg [.bool n, .bool z, .bool cc, .bool v]) 1) := rfl
  have i2 : idxAddrArr 4 1 (.rp false (.agg [.bool n, .bool z, .bool cc, .bool v]) 0) (.int .i64 2) = some (.rp false (.agg [.bool n, .bool z, .bool cc, .bool v]) 2) := rfl
  refine e_in ?_
  simp only
  cases z <;> cases cc
  all_goals (
    repeat' first
      | (with_reducible first | refine eT ?_ | refine eN ?_ | refine eS ?_ | refine eXn ?_ | refine eXr ?_ | refine eX ?_ | refine eI ?_ | refine eK ?_ | refine eV0 ?_ | refine eGr0 ?_ | refine eGtt ?_ | refine eGff ?_ | refine eGtf ?_ | refine eGft ?_ | refine eGno ?_)
      | ((with_reducible apply eCn); (simp only [nth_zero, nth_succ]; first | done | (with_reducible exact rfl)))
      | ((with_reducible apply eJ); (rfl))
      | ((with_reducible apply eGr1); (first | rfl | (simp only [nth_zero, nth_succ]; rfl)))
      | ((with_reducible apply eB); (first | (with_reducible exact rfl) | (simp (disch := omega) only [qf, i1, i2]; first | done | (with_reducible exact rfl) | (with_reducible exact ⟨rfl, rfl⟩)) | (simp (disch := omega) only [qa, putC, AV.cells, storable, buildSt, fillA, buildRo, buildOwn, fillE, Nat.reduceLeDiff, Nat.reduceLT, Nat.reduceAdd, ↓reduceIte, i1, i2]; first | done | (with_reducible exact rfl) | (with_reducible exact ⟨rfl, rfl⟩))))
      | ((with_reducible apply eR); (simp only [nth_zero, nth_succ]; (with_reducible exact rfl)))
      | ((with_reducible first | refine sEql ?_ ?_ | refine sNeq ?_ ?_ | refine sLss ?_ ?_ | refine sLeq ?_ ?_ | refine sGtr ?_ ?_ | refine sGeq ?_ ?_ | refine sNot ?_ ?_ | refine sPick ?_ ?_ | refine sGd ?_ ?_ | refine eBool ?_ ?_) <;> intro hq <;> try subst hq)
    all_goals (refine w1b ?_; simp (disch := omega) only [if_pos, if_neg, if_true, Bool.false_eq_true, if_false, ↓reduceIte]; try rfl))
theorem i64_and63 (P : Program) (t : Nat) (c : Bool) {x : Int} (h0 : 0 ≤ x) (h1 : x < 9223372036854775808) : bin P .and t c (I6 x) (.int .i64 63) = some (I6 (x % 64)) := by
  obtain ⟨X, rfl⟩ : ∃ X : Nat, x = X := ⟨x.toNat, by omega⟩
  rw [bin_and]
  show some (AV.int .i64 (IntKind.i64.wrap ((BitVec.ofInt 64 (X : Int) &&& BitVec.ofInt 64 (63 : Int)).toNat : Int))) = _
  have e1 : (BitVec.ofInt 64 (X : Int)).toNat = X := ofInt_u64 X (by omega)
  have e2 : (BitVec.ofInt 64 (63 : Int)).toNat = 2 ^ 6 - 1 := by decide
  rw [BitVec.toNat_and, e1, e2, Nat.and_two_pow_sub_one_eq_mod, wrap_of_i64 (by omega) (by omega)]
  rfl
/-- The blocks of the document's. -/
def hp2 (r : List Nat) (f : FL) : AHeap := [⟨44, 31, [rgV r]⟩, ⟨53, 4, [f.a]⟩]
theorem rone_fin (G : Globs) (r : List Nat) (hr : r.length = 31) (f : FL) (b : Bool) : finL [loadV G true 31 (.ptr 0 1 0 0) (hp2 r f), loadV G true 4 (.ptr 1 1 0 0) (hp2 r f), some (.bool b)] 0 (hp2 r f) = some (.ret, [oneV (r, f, b)], []) := by
  have e1 := ldRg G (j := 0) (H := hp2 r f) hr rfl
  have e2 : loadV G true 4 (.ptr 1 1 0 0) (hp2 r f) = some f.a := rfl
  unfold finL
  rw [e1, e2]
  exact finV_three (by simp [belowB, natsU_below]) rfl rfl _
theorem setF_len (r : List Nat) (hr : r.length = 31) (j : Int) (x : Nat) : (setF r j x).length = 31 := by
  unfold setF; split
  · exact hr
  · rw [List.length_set]; exact hr
theorem rone_1 (G : Globs) (k : Nat) (d n m a imm : Int) (hw : rightB ⟨1, d, n, m, a, imm⟩ = true) (r : List Nat) (hr : RgOk r) (f : FL) :
    alembicref17_One.f G (k + 7) [mV 1 d n m a imm, rgV r, f.a] [] = some (oneV ((doesF ⟨1, d, n, m, a, imm⟩ r f).1, (doesF ⟨1, d, n, m, a, imm⟩ r f).2, true), []) := by
  have r1 : ∀ H, pureCall (alembicref17_Word.f G (k + 6)) [mV 1 d n m a imm] H = _ := fun H => pureCall_of (H := H) (rword_spec G k ⟨1, d, n, m, a, imm⟩) rfl rfl
  rw [hw] at r1
  obtain ⟨_, hd, hn, hm, ha, hf⟩ := right_ok hw
  have himm : 0 ≤ imm ∧ imm < 65536 := by
    unfold rightB at hw
    rw [Bool.and_eq_true] at hw
    obtain ⟨_, h⟩ := hw
    simp [formF, fairB, regB, extraB, immB, halfI, stackB] at h
    omega
  simp only at hd hn hm ha hf
  clear hw
  have ld := hr.get d
  have ln := hr.get n
  have lm := hr.get m
  have la := hr.get a
  have g : ∀ j, 0 ≤ j → j ≤ 31 → ∀ H, pureCall (alembicref17_get.f G (k + 6)) [rgV r, I6 j] H = some (Un (getF r j), H) := fun j h0 h1 H => pureCall_of (H := H) (rget_spec G (k + 5) r hr.len j h0 h1) (by simp [plainL, plainB, plainU]) rfl
  have g1 := g d hd.1 hd.2
  have g2 := g n hn.1 hn.2
  have g3 := g m hm.1 hm.2
  have g4 := g a ha.1 ha.2
  clear g
  have st : ∀ x H, pureCall (alembicref17_set.f G (k + 6)) [rgV r, I6 d, Un x] H = some (rgV (setF r d x), H) := fun x H => pureCall_of (H := H) (rset_spec G (k + 5) r hr.len d hd.1 hd.2 x) (by simp [plainL, plainB, plainU]) (by simp [cleanB, cleanU])
  obtain ⟨ki, hki⟩ : ∃ z, z = u64 imm := ⟨_, rfl⟩
  have hkl : ki < 18446744073709551616 := by rw [hki]; exact u64_lt _
  have hkv : (ki : Int) = imm := by rw [hki]; unfold u64; omega
  have k1 : convInt .u64 (I6 imm) = some (Un ki) := by rw [conv_u64, hki]
  have k2 : bin Tryd.prog .and 3 true (I6 imm) (.int .i64 63) = some (I6 (imm % 64)) := i64_and63 _ _ _ (by omega) (by omega)
  obtain ⟨kj, hkj⟩ : ∃ z : Nat, (z : Int) = imm % 64 := ⟨(imm % 64).toNat, by omega⟩
  rw [← hkj] at k2
  have k3 : convInt .u64 (Nn kj) = some (Un kj) := by rw [convInt_int, wrap_of_u64 (by omega) (by omega)]
  have ed : doesF ⟨1, d, n, m, a, imm⟩ r f = (setF r d (u64 imm * 2 ^ (16 * a).toNat % 18446744073709551616), f) := by
    unfold doesF madeF
    simp only [Int.reduceEq, or_false, false_or, or_self, or_true, true_or, if_false, if_true, ↓reduceIte]
  rw [ed]
  clear ed
  simp only
  try rw [← hki]
  generalize getF r d = rd at *
  generalize getF r n = rn at *
  generalize getF r m = rm at *
  generalize getF r a = ra at *
  obtain ⟨a0, a3⟩ := hf.1 (by omega)
  obtain ⟨s, hs⟩ : ∃ s : Nat, s = (16 * a).toNat := ⟨_, rfl⟩
  have e16 : bin Tryd.prog .mul 3 true (.int .i64 16) (I6 a) = some (Nn s) := by
    rw [bin_mul, wrap_of_i64 (by omega) (by omega)]; congr 2; omega
  rw [← hs]
  have e17 : convInt .u64 (Nn s) = some (Un s) := by rw [convInt_int, wrap_of_u64 (by omega) (by omega)]
  have k17 := u64_shl Tryd.prog 43 false .u64 ki s (by omega)
  clear hs
  generalize ki * 2 ^ s % 18446744073709551616 = xx at *
  rw [alembicref17_One.step]
  unfold alembicref17_One.c
  rw [zeroRg, zeroRgL]
  have hZ : (List.replicate 31 0 : List Nat).length = 31 := rfl
  have z1 : buildArr 1 (natsU (List.replicate 31 0)) [] = some (rgV (List.replicate 31 0)) := rfl
  have z2 : buildArr 1 [.bool false, .bool false, .bool false, .bool false] [] = some f00.a := rfl
  have b1 : boxA 44 (rgV (List.replicate 31 0)) [] = some (.ptr 0 1 0 0, [⟨44, 31, [rgV (List.replicate 31 0)]⟩]) := boxRg _ rfl []
  have b2 : boxA 53 (.agg [.bool false, .bool false, .bool false, .bool false]) [⟨44, 31, [rgV (List.replicate 31 0)]⟩] = some (.ptr 1 1 0 0, hp2 (List.replicate 31 0) f00) := rfl
  generalize List.replicate 31 0 = Z at *
  have c0 : ∀ H, boxRoA (rgV r) H = some (.rp false (rgV r) 0, H) := fun H => rfl
  have c1 : ∀ H, boxRoA f.a H = some (.rp false f.a 0, H) := fun H => rfl
  have c2 : ∀ H, loadV G true 31 (.rp false (rgV r) 0) H = some (rgV r) := fun H => by
    rw [q_ldrpT, if_pos (by rw [natsU_len, hr.len]; exact Nat.le_refl _), List.drop_zero, List.take_of_length_le (by rw [natsU_len, hr.len]; exact Nat.le_refl _)]
  have c3 : ∀ H, loadV G true 4 (.rp false f.a 0) H = some f.a := fun H => rfl
  have c4 : ∀ q : List Nat, q.length = 31 → stS (storeV 31 (.ptr 0 1 0 0) (rgV q) (hp2 Z f00)) = some (.tup [], hp2 q f00) := fun q hq => stRgA hq hZ rfl
  have c5 : ∀ (q : List Nat) (g : FL), stS (storeV 4 (.ptr 1 1 0 0) g.a (hp2 q f00)) = some (.tup [], hp2 q g) := fun q g => rfl
  have st' := st xx
  have hq := setF_len r hr.len d xx
  generalize setF r d xx = q at *
  have c4' := c4 q hq
  have c5' := c5 q f
  refine e_in ?_
  have fx := And.intro r1 <| And.intro g1 <| And.intro g2 <| And.intro g3 <| And.intro g4 <| And.intro k1 <| And.intro k2 <| And.intro k3 <| And.intro b1 <| And.intro b2 <| And.intro c0 <| And.intro c1 <| And.intro c2 <| And.intro c3 <| And.intro z1 <| And.intro z2 <| And.intro e16 <| And.intro e17 <| And.intro k17 <| And.intro st' <| And.intro c4' <| c5'
  refine wkB ?_
  exact oF (rone_fin G q hq f true)
theorem rone_2 (G : Globs) (k : Nat) (d n m a imm : Int) (hw : rightB ⟨2, d, n, m, a, imm⟩ = true) (r : List Nat) (hr : RgOk r) (f : FL) :
    alembicref17_One.f G (k + 7) [mV 2 d n m a imm, rgV r, f.a] [] = some (oneV ((doesF ⟨2, d, n, m, a, imm⟩ r f).1, (doesF ⟨2, d, n, m, a, imm⟩ r f).2, true), []) := by
  have r1 : ∀ H, pureCall (alembicref17_Word.f G (k + 6)) [mV 2 d n m a imm] H = _ := fun H => pureCall_of (H := H) (rword_spec G k ⟨2, d, n, m, a, imm⟩) rfl rfl
  rw [hw] at r1
  obtain ⟨_, hd, hn, hm, ha, hf⟩ := right_ok hw
  have himm : 0 ≤ imm ∧ imm < 65536 := by
    unfold rightB at hw
    rw [Bool.and_eq_true] at hw
    obtain ⟨_, h⟩ := hw
    simp [formF, fairB, regB, extraB, immB, halfI, stackB] at h
    omega
  simp only at hd hn hm ha hf
  clear hw
  have ld := hr.get d
  have ln := hr.get n
  have lm := hr.get m
  have la := hr.get a
  have g : ∀ j, 0 ≤ j → j ≤ 31 → ∀ H, pureCall (alembicref17_get.f G (k + 6)) [rgV r, I6 j] H = some (Un (getF r j), H) := fun j h0 h1 H => pureCall_of (H := H) (rget_spec G (k + 5) r hr.len j h0 h1) (by simp [plainL, plainB, plainU]) rfl
  have g1 := g d hd.1 hd.2
  have g2 := g n hn.1 hn.2
  have g3 := g m hm.1 hm.2
  have g4 := g a ha.1 ha.2
  clear g
  have st : ∀ x H, pureCall (alembicref17_set.f G (k + 6)) [rgV r, I6 d, Un x] H = some (rgV (setF r d x), H) := fun x H => pureCall_of (H := H) (rset_spec G (k + 5) r hr.len d hd.1 hd.2 x) (by simp [plainL, plainB, plainU]) (by simp [cleanB, cleanU])
  obtain ⟨ki, hki⟩ : ∃ z, z = u64 imm := ⟨_, rfl⟩
  have hkl : ki < 18446744073709551616 := by rw [hki]; exact u64_lt _
  have hkv : (ki : Int) = imm := by rw [hki]; unfold u64; omega
  have k1 : convInt .u64 (I6 imm) = some (Un ki) := by rw [conv_u64, hki]
  have k2 : bin Tryd.prog .and 3 true (I6 imm) (.int .i64 63) = some (I6 (imm % 64)) := i64_and63 _ _ _ (by omega) (by omega)
  obtain ⟨kj, hkj⟩ : ∃ z : Nat, (z : Int) = imm % 64 := ⟨(imm % 64).toNat, by omega⟩
  rw [← hkj] at k2
  have k3 : convInt .u64 (Nn kj) = some (Un kj) := by rw [convInt_int, wrap_of_u64 (by omega) (by omega)]
  have ed : doesF ⟨2, d, n, m, a, imm⟩ r f = (setF r d (movkF (getF r d) (u64 imm) (16 * a).toNat), f) := by
    unfold doesF madeF
    simp only [Int.reduceEq, or_false, false_or, or_self, or_true, true_or, if_false, if_true, ↓reduceIte]
  rw [ed]
  clear ed
  simp only
  try rw [← hki]
  generalize getF r d = rd at *
  generalize getF r n = rn at *
  generalize getF r m = rm at *
  generalize getF r a = ra at *
  obtain ⟨a0, a3⟩ := hf.1 (by omega)
  obtain ⟨s, hs⟩ : ∃ s : Nat, s = (16 * a).toNat := ⟨_, rfl⟩
  have e16 : bin Tryd.prog .mul 3 true (.int .i64 16) (I6 a) = some (Nn s) := by
    rw [bin_mul, wrap_of_i64 (by omega) (by omega)]; congr 2; omega
  rw [← hs]
  have e17 : convInt .u64 (Nn s) = some (Un s) := by rw [convInt_int, wrap_of_u64 (by omega) (by omega)]
  have k17 := u64_shl Tryd.prog 43 false .u64 ki s (by omega)
  have k18 : bin Tryd.prog .shl 43 true (.int .u64 65535) (Un s) = some (Un (65535 * 2 ^ s % 18446744073709551616)) := u64_shl Tryd.prog 43 true .u64 65535 s (by omega)
  have k19 := bin_andNot Tryd.prog 43 false .u64 (rd : Int) ((65535 * 2 ^ s % 18446744073709551616 : Nat) : Int)
  have k20 : bin Tryd.prog .or 43 false (.int .u64 (bits .andNot .u64 (rd : Int) ((65535 * 2 ^ s % 18446744073709551616 : Nat) : Int))) (Un (ki * 2 ^ s % 18446744073709551616)) = some (Un (movkF rd ki s)) := by
    rw [bin_or]
    unfold movkF
    have hb : ∀ p q : Int, 0 ≤ bits .or .u64 p q ∧ bits .or .u64 p q < 18446744073709551616 := fun p q => by
      show 0 ≤ IntKind.u64.wrap _ ∧ IntKind.u64.wrap _ < _
      rw [wrap_u64_eq]; omega
    have := hb (bits .andNot .u64 (rd : Int) ((65535 * 2 ^ s % 18446744073709551616 : Nat) : Int)) ((ki * 2 ^ s % 18446744073709551616 : Nat) : Int)
    congr 2
    unfold u64
    omega
  clear hs
  generalize ki * 2 ^ s % 18446744073709551616 = z1' at *
  generalize 65535 * 2 ^ s % 18446744073709551616 = z2' at *
  generalize movkF rd ki s = xx at *
  generalize bits .andNot .u64 (rd : Int) (z2' : Int) = z4' at *
  rw [alembicref17_One.step]
  unfold alembicref17_One.c
  rw [zeroRg, zeroRgL]
  have hZ : (List.replicate 31 0 : List Nat).length = 31 := rfl
  have z1 : buildArr 1 (natsU (List.replicate 31 0)) [] = some (rgV (List.replicate 31 0)) := rfl
  have z2 : buildArr 1 [.bool false, .bool false, .bool false, .bool false] [] = some f00.a := rfl
  have b1 : boxA 44 (rgV (List.replicate 31 0)) [] = some (.ptr 0 1 0 0, [⟨44, 31, [rgV (List.replicate 31 0)]⟩]) := boxRg _ rfl []
  have b2 : boxA 53 (.agg [.bool false, .bool false, .bool false, .bool false]) [⟨44, 31, [rgV (List.replicate 31 0)]⟩] = some (.ptr 1 1 0 0, hp2 (List.replicate 31 0) f00) := rfl
  generalize List.replicate 31 0 = Z at *
  have c0 : ∀ H, boxRoA (rgV r) H = some (.rp false (rgV r) 0, H) := fun H => rfl
  have c1 : ∀ H, boxRoA f.a H = some (.rp false f.a 0, H) := fun H => rfl
  have c2 : ∀ H, loadV G true 31 (.rp false (rgV r) 0) H = some (rgV r) := fun H => by
    rw [q_ldrpT, if_pos (by rw [natsU_len, hr.len]; exact Nat.le_refl _), List.drop_zero, List.take_of_length_le (by rw [natsU_len, hr.len]; exact Nat.le_refl _)]
  have c3 : ∀ H, loadV G true 4 (.rp false f.a 0) H = some f.a := fun H => rfl
  have c4 : ∀ q : List Nat, q.length = 31 → stS (storeV 31 (.ptr 0 1 0 0) (rgV q) (hp2 Z f00)) = some (.tup [], hp2 q f00) := fun q hq => stRgA hq hZ rfl
  have c5 : ∀ (q : List Nat) (g : FL), stS (storeV 4 (.ptr 1 1 0 0) g.a (hp2 q f00)) = some (.tup [], hp2 q g) := fun q g => rfl
  have st' := st xx
  have hq := setF_len r hr.len d xx
  generalize setF r d xx = q at *
  have c4' := c4 q hq
  have c5' := c5 q f
  refine e_in ?_
  have fx := And.intro r1 <| And.intro g1 <| And.intro g2 <| And.intro g3 <| And.intro g4 <| And.intro k1 <| And.intro k2 <| And.intro k3 <| And.intro b1 <| And.intro b2 <| And.intro c0 <| And.intro c1 <| And.intro c2 <| And.intro c3 <| And.intro z1 <| And.intro z2 <| And.intro e16 <| And.intro e17 <| And.intro k17 <| And.intro k18 <| And.intro k19 <| And.intro k20 <| And.intro st' <| And.intro c4' <| c5'
  refine wkB ?_
  exact oF (rone_fin G q hq f true)
theorem rone_3 (G : Globs) (k : Nat) (d n m a imm : Int) (hw : rightB ⟨3, d, n, m, a, imm⟩ = true) (r : List Nat) (hr : RgOk r) (f : FL) :
    alembicref17_One.f G (k + 7) [mV 3 d n m a imm, rgV r, f.a] [] = some (oneV ((doesF ⟨3, d, n, m, a, imm⟩ r f).1, (doesF ⟨3, d, n, m, a, imm⟩ r f).2, true), []) := by
  have r1 : ∀ H, pureCall (alembicref17_Word.f G (k + 6)) [mV 3 d n m a imm] H = _ := fun H => pureCall_of (H := H) (rword_spec G k ⟨3, d, n, m, a, imm⟩) rfl rfl
  rw [hw] at r1
  obtain ⟨_, hd, hn, hm, ha, hf⟩ := right_ok hw
  have himm : 0 ≤ imm ∧ imm < 65536 := by
    unfold rightB at hw
    rw [Bool.and_eq_true] at hw
    obtain ⟨_, h⟩ := hw
    simp [formF, fairB, regB, extraB, immB, halfI, stackB] at h
    omega
  simp only at hd hn hm ha hf
  clear hw
  have ld := hr.get d
  have ln := hr.get n
  have lm := hr.get m
  have la := hr.get a
  have g : ∀ j, 0 ≤ j → j ≤ 31 → ∀ H, pureCall (alembicref17_get.f G (k + 6)) [rgV r, I6 j] H = some (Un (getF r j), H) := fun j h0 h1 H => pureCall_of (H := H) (rget_spec G (k + 5) r hr.len j h0 h1) (by simp [plainL, plainB, plainU]) rfl
  have g1 := g d hd.1 hd.2
  have g2 := g n hn.1 hn.2
  have g3 := g m hm.1 hm.2
  have g4 := g a ha.1 ha.2
  clear g
  have st : ∀ x H, pureCall (alembicref17_set.f G (k + 6)) [rgV r, I6 d, Un x] H = some (rgV (setF r d x), H) := fun x H => pureCall_of (H := H) (rset_spec G (k + 5) r hr.len d hd.1 hd.2 x) (by simp [plainL, plainB, plainU]) (by simp [cleanB, cleanU])
  obtain ⟨ki, hki⟩ : ∃ z, z = u64 imm := ⟨_, rfl⟩
  have hkl : ki < 18446744073709551616 := by rw [hki]; exact u64_lt _
  have hkv : (ki : Int) = imm := by rw [hki]; unfold u64; omega
  have k1 : convInt .u64 (I6 imm) = some (Un ki) := by rw [conv_u64, hki]
  have k2 : bin Tryd.prog .and 3 true (I6 imm) (.int .i64 63) = some (I6 (imm % 64)) := i64_and63 _ _ _ (by omega) (by omega)
  obtain ⟨kj, hkj⟩ : ∃ z : Nat, (z : Int) = imm % 64 := ⟨(imm % 64).toNat, by omega⟩
  rw [← hkj] at k2
  have k3 : convInt .u64 (Nn kj) = some (Un kj) := by rw [convInt_int, wrap_of_u64 (by omega) (by omega)]
  have ed : doesF ⟨3, d, n, m, a, imm⟩ r f = (setF r d ((getF r n + getF r m) % 18446744073709551616), f) := by
    unfold doesF madeF
    simp only [Int.reduceEq, or_false, false_or, or_self, or_true, true_or, if_false, if_true, ↓reduceIte]
  rw [ed]
  clear ed
  simp only
  try rw [← hki]
  generalize getF r d = rd at *
  generalize getF r n = rn at *
  generalize getF r m = rm at *
  generalize getF r a = ra at *
  have o1 := u64_add Tryd.prog 43 false rn rm
  generalize (rn + rm) % 18446744073709551616 = xx at *
  rw [alembicref17_One.step]
  unfold alembicref17_One.c
  rw [zeroRg, zeroRgL]
  have hZ : (List.replicate 31 0 : List Nat).length = 31 := rfl
  have z1 : buildArr 1 (natsU (List.replicate 31 0)) [] = some (rgV (List.replicate 31 0)) := rfl
  have z2 : buildArr 1 [.bool false, .bool false, .bool false, .bool false] [] = some f00.a := rfl
  have b1 : boxA 44 (rgV (List.replicate 31 0)) [] = some (.ptr 0 1 0 0, [⟨44, 31, [rgV (List.replicate 31 0)]⟩]) := boxRg _ rfl []
  have b2 : boxA 53 (.agg [.bool false, .bool false, .bool false, .bool false]) [⟨44, 31, [rgV (List.replicate 31 0)]⟩] = some (.ptr 1 1 0 0, hp2 (List.replicate 31 0) f00) := rfl
  generalize List.replicate 31 0 = Z at *
  have c0 : ∀ H, boxRoA (rgV r) H = some (.rp false (rgV r) 0, H) := fun H => rfl
  have c1 : ∀ H, boxRoA f.a H = some (.rp false f.a 0, H) := fun H => rfl
  have c2 : ∀ H, loadV G true 31 (.rp false (rgV r) 0) H = some (rgV r) := fun H => by
    rw [q_ldrpT, if_pos (by rw [natsU_len, hr.len]; exact Nat.le_refl _), List.drop_zero, List.take_of_length_le (by rw [natsU_len, hr.len]; exact Nat.le_refl _)]
  have c3 : ∀ H, loadV G true 4 (.rp false f.a 0) H = some f.a := fun H => rfl
  have c4 : ∀ q : List Nat, q.length = 31 → stS (storeV 31 (.ptr 0 1 0 0) (rgV q) (hp2 Z f00)) = some (.tup [], hp2 q f00) := fun q hq => stRgA hq hZ rfl
  have c5 : ∀ (q : List Nat) (g : FL), stS (storeV 4 (.ptr 1 1 0 0) g.a (hp2 q f00)) = some (.tup [], hp2 q g) := fun q g => rfl
  have st' := st xx
  have hq := setF_len r hr.len d xx
  generalize setF r d xx = q at *
  have c4' := c4 q hq
  have c5' := c5 q f
  refine e_in ?_
  have fx := And.intro r1 <| And.intro g1 <| And.intro g2 <| And.intro g3 <| And.intro g4 <| And.intro k1 <| And.intro k2 <| And.intro k3 <| And.intro b1 <| And.intro b2 <| And.intro c0 <| And.intro c1 <| And.intro c2 <| And.intro c3 <| And.intro z1 <| And.intro z2 <| And.intro o1 <| And.intro st' <| And.intro c4' <| c5'
  refine wkB ?_
  exact oF (rone_fin G q hq f true)
theorem rone_4 (G : Globs) (k : Nat) (d n m a imm : Int) (hw : rightB ⟨4, d, n, m, a, imm⟩ = true) (r : List Nat) (hr : RgOk r) (f : FL) :
    alembicref17_One.f G (k + 7) [mV 4 d n m a imm, rgV r, f.a] [] = some (oneV ((doesF ⟨4, d, n, m, a, imm⟩ r f).1, (doesF ⟨4, d, n, m, a, imm⟩ r f).2, true), []) := by
  have r1 : ∀ H, pureCall (alembicref17_Word.f G (k + 6)) [mV 4 d n m a imm] H = _ := fun H => pureCall_of (H := H) (rword_spec G k ⟨4, d, n, m, a, imm⟩) rfl rfl
  rw [hw] at r1
  obtain ⟨_, hd, hn, hm, ha, hf⟩ := right_ok hw
  have himm : 0 ≤ imm ∧ imm < 65536 := by
    unfold rightB at hw
    rw [Bool.and_eq_true] at hw
    obtain ⟨_, h⟩ := hw
    simp [formF, fairB, regB, extraB, immB, halfI, stackB] at h
    omega
  simp only at hd hn hm ha hf
  clear hw
  have ld := hr.get d
  have ln := hr.get n
  have lm := hr.get m
  have la := hr.get a
  have g : ∀ j, 0 ≤ j → j ≤ 31 → ∀ H, pureCall (alembicref17_get.f G (k + 6)) [rgV r, I6 j] H = some (Un (getF r j), H) := fun j h0 h1 H => pureCall_of (H := H) (rget_spec G (k + 5) r hr.len j h0 h1) (by simp [plainL, plainB, plainU]) rfl
  have g1 := g d hd.1 hd.2
  have g2 := g n hn.1 hn.2
  have g3 := g m hm.1 hm.2
  have g4 := g a ha.1 ha.2
  clear g
  have st : ∀ x H, pureCall (alembicref17_set.f G (k + 6)) [rgV r, I6 d, Un x] H = some (rgV (setF r d x), H) := fun x H => pureCall_of (H := H) (rset_spec G (k + 5) r hr.len d hd.1 hd.2 x) (by simp [plainL, plainB, plainU]) (by simp [cleanB, cleanU])
  obtain ⟨ki, hki⟩ : ∃ z, z = u64 imm := ⟨_, rfl⟩
  have hkl : ki < 18446744073709551616 := by rw [hki]; exact u64_lt _
  have hkv : (ki : Int) = imm := by rw [hki]; unfold u64; omega
  have k1 : convInt .u64 (I6 imm) = some (Un ki) := by rw [conv_u64, hki]
  have k2 : bin Tryd.prog .and 3 true (I6 imm) (.int .i64 63) = some (I6 (imm % 64)) := i64_and63 _ _ _ (by omega) (by omega)
  obtain ⟨kj, hkj⟩ : ∃ z : Nat, (z : Int) = imm % 64 := ⟨(imm % 64).toNat, by omega⟩
  rw [← hkj] at k2
  have k3 : convInt .u64 (Nn kj) = some (Un kj) := by rw [convInt_int, wrap_of_u64 (by omega) (by omega)]
  have ed : doesF ⟨4, d, n, m, a, imm⟩ r f = (setF r d ((getF r n + 18446744073709551616 - getF r m) % 18446744073709551616), f) := by
    unfold doesF madeF
    simp only [Int.reduceEq, or_false, false_or, or_self, or_true, true_or, if_false, if_true, ↓reduceIte]
  rw [ed]
  clear ed
  simp only
  try rw [← hki]
  generalize getF r d = rd at *
  generalize getF r n = rn at *
  generalize getF r m = rm at *
  generalize getF r a = ra at *
  have o1 := u64_sub Tryd.prog 43 false rn rm lm
  generalize (rn + 18446744073709551616 - rm) % 18446744073709551616 = xx at *
  rw [alembicref17_One.step]
  unfold alembicref17_One.c
  rw [zeroRg, zeroRgL]
  have hZ : (List.replicate 31 0 : List Nat).length = 31 := rfl
  have z1 : buildArr 1 (natsU (List.replicate 31 0)) [] = some (rgV (List.replicate 31 0)) := rfl
  have z2 : buildArr 1 [.bool false, .bool false, .bool false, .bool false] [] = some f00.a := rfl
  have b1 : boxA 44 (rgV (List.replicate 31 0)) [] = some (.ptr 0 1 0 0, [⟨44, 31, [rgV (List.replicate 31 0)]⟩]) := boxRg _ rfl []
  have b2 : boxA 53 (.agg [.bool false, .bool false, .bool false, .bool false]) [⟨44, 31, [rgV (List.replicate 31 0)]⟩] = some (.ptr 1 1 0 0, hp2 (List.replicate 31 0) f00) := rfl
  generalize List.replicate 31 0 = Z at *
  have c0 : ∀ H, boxRoA (rgV r) H = some (.rp false (rgV r) 0, H) := fun H => rfl
  have c1 : ∀ H, boxRoA f.a H = some (.rp false f.a 0, H) := fun H => rfl
  have c2 : ∀ H, loadV G true 31 (.rp false (rgV r) 0) H = some (rgV r) := fun H => by
    rw [q_ldrpT, if_pos (by rw [natsU_len, hr.len]; exact Nat.le_refl _), List.drop_zero, List.take_of_length_le (by rw [natsU_len, hr.len]; exact Nat.le_refl _)]
  have c3 : ∀ H, loadV G true 4 (.rp false f.a 0) H = some f.a := fun H => rfl
  have c4 : ∀ q : List Nat, q.length = 31 → stS (storeV 31 (.ptr 0 1 0 0) (rgV q) (hp2 Z f00)) = some (.tup [], hp2 q f00) := fun q hq => stRgA hq hZ rfl
  have c5 : ∀ (q : List Nat) (g : FL), stS (storeV 4 (.ptr 1 1 0 0) g.a (hp2 q f00)) = some (.tup [], hp2 q g) := fun q g => rfl
  have st' := st xx
  have hq := setF_len r hr.len d xx
  generalize setF r d xx = q at *
  have c4' := c4 q hq
  have c5' := c5 q f
  refine e_in ?_
  have fx := And.intro r1 <| And.intro g1 <| And.intro g2 <| And.intro g3 <| And.intro g4 <| And.intro k1 <| And.intro k2 <| And.intro k3 <| And.intro b1 <| And.intro b2 <| And.intro c0 <| And.intro c1 <| And.intro c2 <| And.intro c3 <| And.intro z1 <| And.intro z2 <| And.intro o1 <| And.intro st' <| And.intro c4' <| c5'
  refine wkB ?_
  exact oF (rone_fin G q hq f true)
theorem rone_5 (G : Globs) (k : Nat) (d n m a imm : Int) (hw : rightB ⟨5, d, n, m, a, imm⟩ = true) (r : List Nat) (hr : RgOk r) (f : FL) :
    alembicref17_One.f G (k + 7) [mV 5 d n m a imm, rgV r, f.a] [] = some (oneV ((doesF ⟨5, d, n, m, a, imm⟩ r f).1, (doesF ⟨5, d, n, m, a, imm⟩ r f).2, true), []) := by
  have r1 : ∀ H, pureCall (alembicref17_Word.f G (k + 6)) [mV 5 d n m a imm] H = _ := fun H => pureCall_of (H := H) (rword_spec G k ⟨5, d, n, m, a, imm⟩) rfl rfl
  rw [hw] at r1
  obtain ⟨_, hd, hn, hm, ha, hf⟩ := right_ok hw
  have himm : 0 ≤ imm ∧ imm < 65536 := by
    unfold rightB at hw
    rw [Bool.and_eq_true] at hw
    obtain ⟨_, h⟩ := hw
    simp [formF, fairB, regB, extraB, immB, halfI, stackB] at h
    omega
  simp only at hd hn hm ha hf
  clear hw
  have ld := hr.get d
  have ln := hr.get n
  have lm := hr.get m
  have la := hr.get a
  have g : ∀ j, 0 ≤ j → j ≤ 31 → ∀ H, pureCall (alembicref17_get.f G (k + 6)) [rgV r, I6 j] H = some (Un (getF r j), H) := fun j h0 h1 H => pureCall_of (H := H) (rget_spec G (k + 5) r hr.len j h0 h1) (by simp [plainL, plainB, plainU]) rfl
  have g1 := g d hd.1 hd.2
  have g2 := g n hn.1 hn.2
  have g3 := g m hm.1 hm.2
  have g4 := g a ha.1 ha.2
  clear g
  have st : ∀ x H, pureCall (alembicref17_set.f G (k + 6)) [rgV r, I6 d, Un x] H = some (rgV (setF r d x), H) := fun x H => pureCall_of (H := H) (rset_spec G (k + 5) r hr.len d hd.1 hd.2 x) (by simp [plainL, plainB, plainU]) (by simp [cleanB, cleanU])
  obtain ⟨ki, hki⟩ : ∃ z, z = u64 imm := ⟨_, rfl⟩
  have hkl : ki < 18446744073709551616 := by rw [hki]; exact u64_lt _
  have hkv : (ki : Int) = imm := by rw [hki]; unfold u64; omega
  have k1 : convInt .u64 (I6 imm) = some (Un ki) := by rw [conv_u64, hki]
  have k2 : bin Tryd.prog .and 3 true (I6 imm) (.int .i64 63) = some (I6 (imm % 64)) := i64_and63 _ _ _ (by omega) (by omega)
  obtain ⟨kj, hkj⟩ : ∃ z : Nat, (z : Int) = imm % 64 := ⟨(imm % 64).toNat, by omega⟩
  rw [← hkj] at k2
  have k3 : convInt .u64 (Nn kj) = some (Un kj) := by rw [convInt_int, wrap_of_u64 (by omega) (by omega)]
  have ed : doesF ⟨5, d, n, m, a, imm⟩ r f = (setF r d (getF r n &&& getF r m), f) := by
    unfold doesF madeF
    simp only [Int.reduceEq, or_false, false_or, or_self, or_true, true_or, if_false, if_true, ↓reduceIte]
  rw [ed]
  clear ed
  simp only
  try rw [← hki]
  generalize getF r d = rd at *
  generalize getF r n = rn at *
  generalize getF r m = rm at *
  generalize getF r a = ra at *
  have o1 : bin Tryd.prog .and 43 false (Un rn) (Un rm) = some (Un (rn &&& rm)) := by rw [bin_and, u64_and rn rm ln lm]
  generalize rn &&& rm = xx at *
  rw [alembicref17_One.step]
  unfold alembicref17_One.c
  rw [zeroRg, zeroRgL]
  have hZ : (List.replicate 31 0 : List Nat).length = 31 := rfl
  have z1 : buildArr 1 (natsU (List.replicate 31 0)) [] = some (rgV (List.replicate 31 0)) := rfl
  have z2 : buildArr 1 [.bool false, .bool false, .bool false, .bool false] [] = some f00.a := rfl
  have b1 : boxA 44 (rgV (List.replicate 31 0)) [] = some (.ptr 0 1 0 0, [⟨44, 31, [rgV (List.replicate 31 0)]⟩]) := boxRg _ rfl []
  have b2 : boxA 53 (.agg [.bool false, .bool false, .bool false, .bool false]) [⟨44, 31, [rgV (List.replicate 31 0)]⟩] = some (.ptr 1 1 0 0, hp2 (List.replicate 31 0) f00) := rfl
  generalize List.replicate 31 0 = Z at *
  have c0 : ∀ H, boxRoA (rgV r) H = some (.rp false (rgV r) 0, H) := fun H => rfl
  have c1 : ∀ H, boxRoA f.a H = some (.rp false f.a 0, H) := fun H => rfl
  have c2 : ∀ H, loadV G true 31 (.rp false (rgV r) 0) H = some (rgV r) := fun H => by
    rw [q_ldrpT, if_pos (by rw [natsU_len, hr.len]; exact Nat.le_refl _), List.drop_zero, List.take_of_length_le (by rw [natsU_len, hr.len]; exact Nat.le_refl _)]
  have c3 : ∀ H, loadV G true 4 (.rp false f.a 0) H = some f.a := fun H => rfl
  have c4 : ∀ q : List Nat, q.length = 31 → stS (storeV 31 (.ptr 0 1 0 0) (rgV q) (hp2 Z f00)) = some (.tup [], hp2 q f00) := fun q hq => stRgA hq hZ rfl
  have c5 : ∀ (q : List Nat) (g : FL), stS (storeV 4 (.ptr 1 1 0 0) g.a (hp2 q f00)) = some (.tup [], hp2 q g) := fun q g => rfl
  have st' := st xx
  have hq := setF_len r hr.len d xx
  generalize setF r d xx = q at *
  have c4' := c4 q hq
  have c5' := c5 q f
  refine e_in ?_
  have fx := And.intro r1 <| And.intro g1 <| And.intro g2 <| And.intro g3 <| And.intro g4 <| And.intro k1 <| And.intro k2 <| And.intro k3 <| And.intro b1 <| And.intro b2 <| And.intro c0 <| And.intro c1 <| And.intro c2 <| And.intro c3 <| And.intro z1 <| And.intro z2 <| And.intro o1 <| And.intro st' <| And.intro c4' <| c5'
  refine wkB ?_
  exact oF (rone_fin G q hq f true)
theorem rone_6 (G : Globs) (k : Nat) (d n m a imm : Int) (hw : rightB ⟨6, d, n, m, a, imm⟩ = true) (r : List Nat) (hr : RgOk r) (f : FL) :
    alembicref17_One.f G (k + 7) [mV 6 d n m a imm, rgV r, f.a] [] = some (oneV ((doesF ⟨6, d, n, m, a, imm⟩ r f).1, (doesF ⟨6, d, n, m, a, imm⟩ r f).2, true), []) := by
  have r1 : ∀ H, pureCall (alembicref17_Word.f G (k + 6)) [mV 6 d n m a imm] H = _ := fun H => pureCall_of (H := H) (rword_spec G k ⟨6, d, n, m, a, imm⟩) rfl rfl
  rw [hw] at r1
  obtain ⟨_, hd, hn, hm, ha, hf⟩ := right_ok hw
  have himm : 0 ≤ imm ∧ imm < 65536 := by
    unfold rightB at hw
    rw [Bool.and_eq_true] at hw
    obtain ⟨_, h⟩ := hw
    simp [formF, fairB, regB, extraB, immB, halfI, stackB] at h
    omega
  simp only at hd hn hm ha hf
  clear hw
  have ld := hr.get d
  have ln := hr.get n
  have lm := hr.get m
  have la := hr.get a
  have g : ∀ j, 0 ≤ j → j ≤ 31 → ∀ H, pureCall (alembicref17_get.f G (k + 6)) [rgV r, I6 j] H = some (Un (getF r j), H) := fun j h0 h1 H => pureCall_of (H := H) (rget_spec G (k + 5) r hr.len j h0 h1) (by simp [plainL, plainB, plainU]) rfl
  have g1 := g d hd.1 hd.2
  have g2 := g n hn.1 hn.2
  have g3 := g m hm.1 hm.2
  have g4 := g a ha.1 ha.2
  clear g
  have st : ∀ x H, pureCall (alembicref17_set.f G (k + 6)) [rgV r, I6 d, Un x] H = some (rgV (setF r d x), H) := fun x H => pureCall_of (H := H) (rset_spec G (k + 5) r hr.len d hd.1 hd.2 x) (by simp [plainL, plainB, plainU]) (by simp [cleanB, cleanU])
  obtain ⟨ki, hki⟩ : ∃ z, z = u64 imm := ⟨_, rfl⟩
  have hkl : ki < 18446744073709551616 := by rw [hki]; exact u64_lt _
  have hkv : (ki : Int) = imm := by rw [hki]; unfold u64; omega
  have k1 : convInt .u64 (I6 imm) = some (Un ki) := by rw [conv_u64, hki]
  have k2 : bin Tryd.prog .and 3 true (I6 imm) (.int .i64 63) = some (I6 (imm % 64)) := i64_and63 _ _ _ (by omega) (by omega)
  obtain ⟨kj, hkj⟩ : ∃ z : Nat, (z : Int) = imm % 64 := ⟨(imm % 64).toNat, by omega⟩
  rw [← hkj] at k2
  have k3 : convInt .u64 (Nn kj) = some (Un kj) := by rw [convInt_int, wrap_of_u64 (by omega) (by omega)]
  have ed : doesF ⟨6, d, n, m, a, imm⟩ r f = (setF r d (getF r n ||| getF r m), f) := by
    unfold doesF madeF
    simp only [Int.reduceEq, or_false, false_or, or_self, or_true, true_or, if_false, if_true, ↓reduceIte]
  rw [ed]
  clear ed
  simp only
  try rw [← hki]
  generalize getF r d = rd at *
  generalize getF r n = rn at *
  generalize getF r m = rm at *
  generalize getF r a = ra at *
  have o1 : bin Tryd.prog .or 43 false (Un rn) (Un rm) = some (Un (rn ||| rm)) := by rw [bin_or, u64_or rn rm ln lm]
  generalize rn ||| rm = xx at *
  rw [alembicref17_One.step]
  unfold alembicref17_One.c
  rw [zeroRg, zeroRgL]
  have hZ : (List.replicate 31 0 : List Nat).length = 31 := rfl
  have z1 : buildArr 1 (natsU (List.replicate 31 0)) [] = some (rgV (List.replicate 31 0)) := rfl
  have z2 : buildArr 1 [.bool false, .bool false, .bool false, .bool false] [] = some f00.a := rfl
  have b1 : boxA 44 (rgV (List.replicate 31 0)) [] = some (.ptr 0 1 0 0, [⟨44, 31, [rgV (List.replicate 31 0)]⟩]) := boxRg _ rfl []
  have b2 : boxA 53 (.agg [.bool false, .bool false, .bool false, .bool false]) [⟨44, 31, [rgV (List.replicate 31 0)]⟩] = some (.ptr 1 1 0 0, hp2 (List.replicate 31 0) f00) := rfl
  generalize List.replicate 31 0 = Z at *
  have c0 : ∀ H, boxRoA (rgV r) H = some (.rp false (rgV r) 0, H) := fun H => rfl
  have c1 : ∀ H, boxRoA f.a H = some (.rp false f.a 0, H) := fun H => rfl
  have c2 : ∀ H, loadV G true 31 (.rp false (rgV r) 0) H = some (rgV r) := fun H => by
    rw [q_ldrpT, if_pos (by rw [natsU_len, hr.len]; exact Nat.le_refl _), List.drop_zero, List.take_of_length_le (by rw [natsU_len, hr.len]; exact Nat.le_refl _)]
  have c3 : ∀ H, loadV G true 4 (.rp false f.a 0) H = some f.a := fun H => rfl
  have c4 : ∀ q : List Nat, q.length = 31 → stS (storeV 31 (.ptr 0 1 0 0) (rgV q) (hp2 Z f00)) = some (.tup [], hp2 q f00) := fun q hq => stRgA hq hZ rfl
  have c5 : ∀ (q : List Nat) (g : FL), stS (storeV 4 (.ptr 1 1 0 0) g.a (hp2 q f00)) = some (.tup [], hp2 q g) := fun q g => rfl
  have st' := st xx
  have hq := setF_len r hr.len d xx
  generalize setF r d xx = q at *
  have c4' := c4 q hq
  have c5' := c5 q f
  refine e_in ?_
  have fx := And.intro r1 <| And.intro g1 <| And.intro g2 <| And.intro g3 <| And.intro g4 <| And.intro k1 <| And.intro k2 <| And.intro k3 <| And.intro b1 <| And.intro b2 <| And.intro c0 <| And.intro c1 <| And.intro c2 <| And.intro c3 <| And.intro z1 <| And.intro z2 <| And.intro o1 <| And.intro st' <| And.intro c4' <| c5'
  refine wkB ?_
  exact oF (rone_fin G q hq f true)
theorem rone_7 (G : Globs) (k : Nat) (d n m a imm : Int) (hw : rightB ⟨7, d, n, m, a, imm⟩ = true) (r : List Nat) (hr : RgOk r) (f : FL) :
    alembicref17_One.f G (k + 7) [mV 7 d n m a imm, rgV r, f.a] [] = some (oneV ((doesF ⟨7, d, n, m, a, imm⟩ r f).1, (doesF ⟨7, d, n, m, a, imm⟩ r f).2, true), []) := by
  have r1 : ∀ H, pureCall (alembicref17_Word.f G (k + 6)) [mV 7 d n m a imm] H = _ := fun H => pureCall_of (H := H) (rword_spec G k ⟨7, d, n, m, a, imm⟩) rfl rfl
  rw [hw] at r1
  obtain ⟨_, hd, hn, hm, ha, hf⟩ := right_ok hw
  have himm : 0 ≤ imm ∧ imm < 65536 := by
    unfold rightB at hw
    rw [Bool.and_eq_true] at hw
    obtain ⟨_, h⟩ := hw
    simp [formF, fairB, regB, extraB, immB, halfI, stackB] at h
    omega
  simp only at hd hn hm ha hf
  clear hw
  have ld := hr.get d
  have ln := hr.get n
  have lm := hr.get m
  have la := hr.get a
  have g : ∀ j, 0 ≤ j → j ≤ 31 → ∀ H, pureCall (alembicref17_get.f G (k + 6)) [rgV r, I6 j] H = some (Un (getF r j), H) := fun j h0 h1 H => pureCall_of (H := H) (rget_spec G (k + 5) r hr.len j h0 h1) (by simp [plainL, plainB, plainU]) rfl
  have g1 := g d hd.1 hd.2
  have g2 := g n hn.1 hn.2
  have g3 := g m hm.1 hm.2
  have g4 := g a ha.1 ha.2
  clear g
  have st : ∀ x H, pureCall (alembicref17_set.f G (k + 6)) [rgV r, I6 d, Un x] H = some (rgV (setF r d x), H) := fun x H => pureCall_of (H := H) (rset_spec G (k + 5) r hr.len d hd.1 hd.2 x) (by simp [plainL, plainB, plainU]) (by simp [cleanB, cleanU])
  obtain ⟨ki, hki⟩ : ∃ z, z = u64 imm := ⟨_, rfl⟩
  have hkl : ki < 18446744073709551616 := by rw [hki]; exact u64_lt _
  have hkv : (ki : Int) = imm := by rw [hki]; unfold u64; omega
  have k1 : convInt .u64 (I6 imm) = some (Un ki) := by rw [conv_u64, hki]
  have k2 : bin Tryd.prog .and 3 true (I6 imm) (.int .i64 63) = some (I6 (imm % 64)) := i64_and63 _ _ _ (by omega) (by omega)
  obtain ⟨kj, hkj⟩ : ∃ z : Nat, (z : Int) = imm % 64 := ⟨(imm % 64).toNat, by omega⟩
  rw [← hkj] at k2
  have k3 : convInt .u64 (Nn kj) = some (Un kj) := by rw [convInt_int, wrap_of_u64 (by omega) (by omega)]
  have ed : doesF ⟨7, d, n, m, a, imm⟩ r f = (setF r d (getF r n ^^^ getF r m), f) := by
    unfold doesF madeF
    simp only [Int.reduceEq, or_false, false_or, or_self, or_true, true_or, if_false, if_true, ↓reduceIte]
  rw [ed]
  clear ed
  simp only
  try rw [← hki]
  generalize getF r d = rd at *
  generalize getF r n = rn at *
  generalize getF r m = rm at *
  generalize getF r a = ra at *
  have o1 : bin Tryd.prog .xor 43 false (Un rn) (Un rm) = some (Un (rn ^^^ rm)) := by rw [bin_xor, u64_xor rn rm ln lm]
  generalize rn ^^^ rm = xx at *
  rw [alembicref17_One.step]
  unfold alembicref17_One.c
  rw [zeroRg, zeroRgL]
  have hZ : (List.replicate 31 0 : List Nat).length = 31 := rfl
  have z1 : buildArr 1 (natsU (List.replicate 31 0)) [] = some (rgV (List.replicate 31 0)) := rfl
  have z2 : buildArr 1 [.bool false, .bool false, .bool false, .bool false] [] = some f00.a := rfl
  have b1 : boxA 44 (rgV (List.replicate 31 0)) [] = some (.ptr 0 1 0 0, [⟨44, 31, [rgV (List.replicate 31 0)]⟩]) := boxRg _ rfl []
  have b2 : boxA 53 (.agg [.bool false, .bool false, .bool false, .bool false]) [⟨44, 31, [rgV (List.replicate 31 0)]⟩] = some (.ptr 1 1 0 0, hp2 (List.replicate 31 0) f00) := rfl
  generalize List.replicate 31 0 = Z at *
  have c0 : ∀ H, boxRoA (rgV r) H = some (.rp false (rgV r) 0, H) := fun H => rfl
  have c1 : ∀ H, boxRoA f.a H = some (.rp false f.a 0, H) := fun H => rfl
  have c2 : ∀ H, loadV G true 31 (.rp false (rgV r) 0) H = some (rgV r) := fun H => by
    rw [q_ldrpT, if_pos (by rw [natsU_len, hr.len]; exact Nat.le_refl _), List.drop_zero, List.take_of_length_le (by rw [natsU_len, hr.len]; exact Nat.le_refl _)]
  have c3 : ∀ H, loadV G true 4 (.rp false f.a 0) H = some f.a := fun H => rfl
  have c4 : ∀ q : List Nat, q.length = 31 → stS (storeV 31 (.ptr 0 1 0 0) (rgV q) (hp2 Z f00)) = some (.tup [], hp2 q f00) := fun q hq => stRgA hq hZ rfl
  have c5 : ∀ (q : List Nat) (g : FL), stS (storeV 4 (.ptr 1 1 0 0) g.a (hp2 q f00)) = some (.tup [], hp2 q g) := fun q g => rfl
  have st' := st xx
  have hq := setF_len r hr.len d xx
  generalize setF r d xx = q at *
  have c4' := c4 q hq
  have c5' := c5 q f
  refine e_in ?_
  have fx := And.intro r1 <| And.intro g1 <| And.intro g2 <| And.intro g3 <| And.intro g4 <| And.intro k1 <| And.intro k2 <| And.intro k3 <| And.intro b1 <| And.intro b2 <| And.intro c0 <| And.intro c1 <| And.intro c2 <| And.intro c3 <| And.intro z1 <| And.intro z2 <| And.intro o1 <| And.intro st' <| And.intro c4' <| c5'
  refine wkB ?_
  exact oF (rone_fin G q hq f true)
theorem rone_8 (G : Globs) (k : Nat) (d n m a imm : Int) (hw : rightB ⟨8, d, n, m, a, imm⟩ = true) (r : List Nat) (hr : RgOk r) (f : FL) :
    alembicref17_One.f G (k + 7) [mV 8 d n m a imm, rgV r, f.a] [] = some (oneV ((doesF ⟨8, d, n, m, a, imm⟩ r f).1, (doesF ⟨8, d, n, m, a, imm⟩ r f).2, true), []) := by
  have r1 : ∀ H, pureCall (alembicref17_Word.f G (k + 6)) [mV 8 d n m a imm] H = _ := fun H => pureCall_of (H := H) (rword_spec G k ⟨8, d, n, m, a, imm⟩) rfl rfl
  rw [hw] at r1
  obtain ⟨_, hd, hn, hm, ha, hf⟩ := right_ok hw
  have himm : 0 ≤ imm ∧ imm < 65536 := by
    unfold rightB at hw
    rw [Bool.and_eq_true] at hw
    obtain ⟨_, h⟩ := hw
    simp [formF, fairB, regB, extraB, immB, halfI, stackB] at h
    omega
  simp only at hd hn hm ha hf
  clear hw
  have ld := hr.get d
  have ln := hr.get n
  have lm := hr.get m
  have la := hr.get a
  have g : ∀ j, 0 ≤ j → j ≤ 31 → ∀ H, pureCall (alembicref17_get.f G (k + 6)) [rgV r, I6 j] H = some (Un (getF r j), H) := fun j h0 h1 H => pureCall_of (H := H) (rget_spec G (k + 5) r hr.len j h0 h1) (by simp [plainL, plainB, plainU]) rfl
  have g1 := g d hd.1 hd.2
  have g2 := g n hn.1 hn.2
  have g3 := g m hm.1 hm.2
  have g4 := g a ha.1 ha.2
  clear g
  have st : ∀ x H, pureCall (alembicref17_set.f G (k + 6)) [rgV r, I6 d, Un x] H = some (rgV (setF r d x), H) := fun x H => pureCall_of (H := H) (rset_spec G (k + 5) r hr.len d hd.1 hd.2 x) (by simp [plainL, plainB, plainU]) (by simp [cleanB, cleanU])
  obtain ⟨ki, hki⟩ : ∃ z, z = u64 imm := ⟨_, rfl⟩
  have hkl : ki < 18446744073709551616 := by rw [hki]; exact u64_lt _
  have hkv : (ki : Int) = imm := by rw [hki]; unfold u64; omega
  have k1 : convInt .u64 (I6 imm) = some (Un ki) := by rw [conv_u64, hki]
  have k2 : bin Tryd.prog .and 3 true (I6 imm) (.int .i64 63) = some (I6 (imm % 64)) := i64_and63 _ _ _ (by omega) (by omega)
  obtain ⟨kj, hkj⟩ : ∃ z : Nat, (z : Int) = imm % 64 := ⟨(imm % 64).toNat, by omega⟩
  rw [← hkj] at k2
  have k3 : convInt .u64 (Nn kj) = some (Un kj) := by rw [convInt_int, wrap_of_u64 (by omega) (by omega)]
  have ed : doesF ⟨8, d, n, m, a, imm⟩ r f = (setF r d ((getF r n * getF r m % 18446744073709551616 + getF r a) % 18446744073709551616), f) := by
    unfold doesF madeF
    simp only [Int.reduceEq, or_false, false_or, or_self, or_true, true_or, if_false, if_true, ↓reduceIte]
  rw [ed]
  clear ed
  simp only
  try rw [← hki]
  generalize getF r d = rd at *
  generalize getF r n = rn at *
  generalize getF r m = rm at *
  generalize getF r a = ra at *
  have o1 := u64_mul Tryd.prog 43 false rn rm
  generalize rn * rm % 18446744073709551616 = z1' at *
  have o2 := u64_add Tryd.prog 43 false z1' ra
  generalize (z1' + ra) % 18446744073709551616 = xx at *
  rw [alembicref17_One.step]
  unfold alembicref17_One.c
  rw [zeroRg, zeroRgL]
  have hZ : (List.replicate 31 0 : List Nat).length = 31 := rfl
  have z1 : buildArr 1 (natsU (List.replicate 31 0)) [] = some (rgV (List.replicate 31 0)) := rfl
  have z2 : buildArr 1 [.bool false, .bool false, .bool false, .bool false] [] = some f00.a := rfl
  have b1 : boxA 44 (rgV (List.replicate 31 0)) [] = some (.ptr 0 1 0 0, [⟨44, 31, [rgV (List.replicate 31 0)]⟩]) := boxRg _ rfl []
  have b2 : boxA 53 (.agg [.bool false, .bool false, .bool false, .bool false]) [⟨44, 31, [rgV (List.replicate 31 0)]⟩] = some (.ptr 1 1 0 0, hp2 (List.replicate 31 0) f00) := rfl
  generalize List.replicate 31 0 = Z at *
  have c0 : ∀ H, boxRoA (rgV r) H = some (.rp false (rgV r) 0, H) := fun H => rfl
  have c1 : ∀ H, boxRoA f.a H = some (.rp false f.a 0, H) := fun H => rfl
  have c2 : ∀ H, loadV G true 31 (.rp false (rgV r) 0) H = some (rgV r) := fun H => by
    rw [q_ldrpT, if_pos (by rw [natsU_len, hr.len]; exact Nat.le_refl _), List.drop_zero, List.take_of_length_le (by rw [natsU_len, hr.len]; exact Nat.le_refl _)]
  have c3 : ∀ H, loadV G true 4 (.rp false f.a 0) H = some f.a := fun H => rfl
  have c4 : ∀ q : List Nat, q.length = 31 → stS (storeV 31 (.ptr 0 1 0 0) (rgV q) (hp2 Z f00)) = some (.tup [], hp2 q f00) := fun q hq => stRgA hq hZ rfl
  have c5 : ∀ (q : List Nat) (g : FL), stS (storeV 4 (.ptr 1 1 0 0) g.a (hp2 q f00)) = some (.tup [], hp2 q g) := fun q g => rfl
  have st' := st xx
  have hq := setF_len r hr.len d xx
  generalize setF r d xx = q at *
  have c4' := c4 q hq
  have c5' := c5 q f
  refine e_in ?_
  have fx := And.intro r1 <| And.intro g1 <| And.intro g2 <| And.intro g3 <| And.intro g4 <| And.intro k1 <| And.intro k2 <| And.intro k3 <| And.intro b1 <| And.intro b2 <| And.intro c0 <| And.intro c1 <| And.intro c2 <| And.intro c3 <| And.intro z1 <| And.intro z2 <| And.intro o1 <| And.intro o2 <| And.intro st' <| And.intro c4' <| c5'
  refine wkB ?_
  exact oF (rone_fin G q hq f true)
theorem rone_9 (G : Globs) (k : Nat) (d n m a imm : Int) (hw : rightB ⟨9, d, n, m, a, imm⟩ = true) (r : List Nat) (hr : RgOk r) (f : FL) :
    alembicref17_One.f G (k + 7) [mV 9 d n m a imm, rgV r, f.a] [] = some (oneV ((doesF ⟨9, d, n, m, a, imm⟩ r f).1, (doesF ⟨9, d, n, m, a, imm⟩ r f).2, true), []) := by
  have r1 : ∀ H, pureCall (alembicref17_Word.f G (k + 6)) [mV 9 d n m a imm] H = _ := fun H => pureCall_of (H := H) (rword_spec G k ⟨9, d, n, m, a, imm⟩) rfl rfl
  rw [hw] at r1
  obtain ⟨_, hd, hn, hm, ha, hf⟩ := right_ok hw
  have himm : 0 ≤ imm ∧ imm < 65536 := by
    unfold rightB at hw
    rw [Bool.and_eq_true] at hw
    obtain ⟨_, h⟩ := hw
    simp [formF, fairB, regB, extraB, immB, halfI, stackB] at h
    omega
  simp only at hd hn hm ha hf
  clear hw
  have ld := hr.get d
  have ln := hr.get n
  have lm := hr.get m
  have la := hr.get a
  have g : ∀ j, 0 ≤ j → j ≤ 31 → ∀ H, pureCall (alembicref17_get.f G (k + 6)) [rgV r, I6 j] H = some (Un (getF r j), H) := fun j h0 h1 H => pureCall_of (H := H) (rget_spec G (k + 5) r hr.len j h0 h1) (by simp [plainL, plainB, plainU]) rfl
  have g1 := g d hd.1 hd.2
  have g2 := g n hn.1 hn.2
  have g3 := g m hm.1 hm.2
  have g4 := g a ha.1 ha.2
  clear g
  have st : ∀ x H, pureCall (alembicref17_set.f G (k + 6)) [rgV r, I6 d, Un x] H = some (rgV (setF r d x), H) := fun x H => pureCall_of (H := H) (rset_spec G (k + 5) r hr.len d hd.1 hd.2 x) (by simp [plainL, plainB, plainU]) (by simp [cleanB, cleanU])
  obtain ⟨ki, hki⟩ : ∃ z, z = u64 imm := ⟨_, rfl⟩
  have hkl : ki < 18446744073709551616 := by rw [hki]; exact u64_lt _
  have hkv : (ki : Int) = imm := by rw [hki]; unfold u64; omega
  have k1 : convInt .u64 (I6 imm) = some (Un ki) := by rw [conv_u64, hki]
  have k2 : bin Tryd.prog .and 3 true (I6 imm) (.int .i64 63) = some (I6 (imm % 64)) := i64_and63 _ _ _ (by omega) (by omega)
  obtain ⟨kj, hkj⟩ : ∃ z : Nat, (z : Int) = imm % 64 := ⟨(imm % 64).toNat, by omega⟩
  rw [← hkj] at k2
  have k3 : convInt .u64 (Nn kj) = some (Un kj) := by rw [convInt_int, wrap_of_u64 (by omega) (by omega)]
  have ed : doesF ⟨9, d, n, m, a, imm⟩ r f = (setF r d (getF r n * getF r m / 18446744073709551616), f) := by
    unfold doesF madeF
    simp only [Int.reduceEq, or_false, false_or, or_self, or_true, true_or, if_false, if_true, ↓reduceIte]
  rw [ed]
  clear ed
  simp only
  try rw [← hki]
  generalize getF r d = rd at *
  generalize getF r n = rn at *
  generalize getF r m = rm at *
  generalize getF r a = ra at *
  have o1 : ∀ H, pureCall (math_bits_Mul64.f G (k + 6)) [Un rn, Un rm] H = _ := fun H => pureCall_of (H := H) (mul64_spec G (k + 5) rn rm ln lm) rfl rfl
  generalize rn * rm / 18446744073709551616 = xx at *
  rw [alembicref17_One.step]
  unfold alembicref17_One.c
  rw [zeroRg, zeroRgL]
  have hZ : (List.replicate 31 0 : List Nat).length = 31 := rfl
  have z1 : buildArr 1 (natsU (List.replicate 31 0)) [] = some (rgV (List.replicate 31 0)) := rfl
  have z2 : buildArr 1 [.bool false, .bool false, .bool false, .bool false] [] = some f00.a := rfl
  have b1 : boxA 44 (rgV (List.replicate 31 0)) [] = some (.ptr 0 1 0 0, [⟨44, 31, [rgV (List.replicate 31 0)]⟩]) := boxRg _ rfl []
  have b2 : boxA 53 (.agg [.bool false, .bool false, .bool false, .bool false]) [⟨44, 31, [rgV (List.replicate 31 0)]⟩] = some (.ptr 1 1 0 0, hp2 (List.replicate 31 0) f00) := rfl
  generalize List.replicate 31 0 = Z at *
  have c0 : ∀ H, boxRoA (rgV r) H = some (.rp false (rgV r) 0, H) := fun H => rfl
  have c1 : ∀ H, boxRoA f.a H = some (.rp false f.a 0, H) := fun H => rfl
  have c2 : ∀ H, loadV G true 31 (.rp false (rgV r) 0) H = some (rgV r) := fun H => by
    rw [q_ldrpT, if_pos (by rw [natsU_len, hr.len]; exact Nat.le_refl _), List.drop_zero, List.take_of_length_le (by rw [natsU_len, hr.len]; exact Nat.le_refl _)]
  have c3 : ∀ H, loadV G true 4 (.rp false f.a 0) H = some f.a := fun H => rfl
  have c4 : ∀ q : List Nat, q.length = 31 → stS (storeV 31 (.ptr 0 1 0 0) (rgV q) (hp2 Z f00)) = some (.tup [], hp2 q f00) := fun q hq => stRgA hq hZ rfl
  have c5 : ∀ (q : List Nat) (g : FL), stS (storeV 4 (.ptr 1 1 0 0) g.a (hp2 q f00)) = some (.tup [], hp2 q g) := fun q g => rfl
  have st' := st xx
  have hq := setF_len r hr.len d xx
  generalize setF r d xx = q at *
  have c4' := c4 q hq
  have c5' := c5 q f
  refine e_in ?_
  have fx := And.intro r1 <| And.intro g1 <| And.intro g2 <| And.intro g3 <| And.intro g4 <| And.intro k1 <| And.intro k2 <| And.intro k3 <| And.intro b1 <| And.intro b2 <| And.intro c0 <| And.intro c1 <| And.intro c2 <| And.intro c3 <| And.intro z1 <| And.intro z2 <| And.intro o1 <| And.intro st' <| And.intro c4' <| c5'
  refine wkB ?_
  exact oF (rone_fin G q hq f true)
theorem rone_10 (G : Globs) (k : Nat) (d n m a imm : Int) (hw : rightB ⟨10, d, n, m, a, imm⟩ = true) (r : List Nat) (hr : RgOk r) (f : FL) :
    alembicref17_One.f G (k + 7) [mV 10 d n m a imm, rgV r, f.a] [] = some (oneV ((doesF ⟨10, d, n, m, a, imm⟩ r f).1, (doesF ⟨10, d, n, m, a, imm⟩ r f).2, true), []) := by
  have r1 : ∀ H, pureCall (alembicref17_Word.f G (k + 6)) [mV 10 d n m a imm] H = _ := fun H => pureCall_of (H := H) (rword_spec G k ⟨10, d, n, m, a, imm⟩) rfl rfl
  rw [hw] at r1
  obtain ⟨_, hd, hn, hm, ha, hf⟩ := right_ok hw
  have himm : 0 ≤ imm ∧ imm < 65536 := by
    unfold rightB at hw
    rw [Bool.and_eq_true] at hw
    obtain ⟨_, h⟩ := hw
    simp [formF, fairB, regB, extraB, immB, halfI, stackB] at h
    omega
  simp only at hd hn hm ha hf
  clear hw
  have ld := hr.get d
  have ln := hr.get n
  have lm := hr.get m
  have la := hr.get a
  have g : ∀ j, 0 ≤ j → j ≤ 31 → ∀ H, pureCall (alembicref17_get.f G (k + 6)) [rgV r, I6 j] H = some (Un (getF r j), H) := fun j h0 h1 H => pureCall_of (H := H) (rget_spec G (k + 5) r hr.len j h0 h1) (by simp [plainL, plainB, plainU]) rfl
  have g1 := g d hd.1 hd.2
  have g2 := g n hn.1 hn.2
  have g3 := g m hm.1 hm.2
  have g4 := g a ha.1 ha.2
  clear g
  have st : ∀ x H, pureCall (alembicref17_set.f G (k + 6)) [rgV r, I6 d, Un x] H = some (rgV (setF r d x), H) := fun x H => pureCall_of (H := H) (rset_spec G (k + 5) r hr.len d hd.1 hd.2 x) (by simp [plainL, plainB, plainU]) (by simp [cleanB, cleanU])
  obtain ⟨ki, hki⟩ : ∃ z, z = u64 imm := ⟨_, rfl⟩
  have hkl : ki < 18446744073709551616 := by rw [hki]; exact u64_lt _
  have hkv : (ki : Int) = imm := by rw [hki]; unfold u64; omega
  have k1 : convInt .u64 (I6 imm) = some (Un ki) := by rw [conv_u64, hki]
  have k2 : bin Tryd.prog .and 3 true (I6 imm) (.int .i64 63) = some (I6 (imm % 64)) := i64_and63 _ _ _ (by omega) (by omega)
  obtain ⟨kj, hkj⟩ : ∃ z : Nat, (z : Int) = imm % 64 := ⟨(imm % 64).toNat, by omega⟩
  rw [← hkj] at k2
  have k3 : convInt .u64 (Nn kj) = some (Un kj) := by rw [convInt_int, wrap_of_u64 (by omega) (by omega)]
  have ed : doesF ⟨10, d, n, m, a, imm⟩ r f = (setF r d ((getF r n + u64 imm) % 18446744073709551616), f) := by
    unfold doesF madeF
    simp only [Int.reduceEq, or_false, false_or, or_self, or_true, true_or, if_false, if_true, ↓reduceIte]
  rw [ed]
  clear ed
  simp only
  try rw [← hki]
  generalize getF r d = rd at *
  generalize getF r n = rn at *
  generalize getF r m = rm at *
  generalize getF r a = ra at *
  have o1 := u64_add Tryd.prog 43 false rn ki
  generalize (rn + ki) % 18446744073709551616 = xx at *
  rw [alembicref17_One.step]
  unfold alembicref17_One.c
  rw [zeroRg, zeroRgL]
  have hZ : (List.replicate 31 0 : List Nat).length = 31 := rfl
  have z1 : buildArr 1 (natsU (List.replicate 31 0)) [] = some (rgV (List.replicate 31 0)) := rfl
  have z2 : buildArr 1 [.bool false, .bool false, .bool false, .bool false] [] = some f00.a := rfl
  have b1 : boxA 44 (rgV (List.replicate 31 0)) [] = some (.ptr 0 1 0 0, [⟨44, 31, [rgV (List.replicate 31 0)]⟩]) := boxRg _ rfl []
  have b2 : boxA 53 (.agg [.bool false, .bool false, .bool false, .bool false]) [⟨44, 31, [rgV (List.replicate 31 0)]⟩] = some (.ptr 1 1 0 0, hp2 (List.replicate 31 0) f00) := rfl
  generalize List.replicate 31 0 = Z at *
  have c0 : ∀ H, boxRoA (rgV r) H = some (.rp false (rgV r) 0, H) := fun H => rfl
  have c1 : ∀ H, boxRoA f.a H = some (.rp false f.a 0, H) := fun H => rfl
  have c2 : ∀ H, loadV G true 31 (.rp false (rgV r) 0) H = some (rgV r) := fun H => by
    rw [q_ldrpT, if_pos (by rw [natsU_len, hr.len]; exact Nat.le_refl _), List.drop_zero, List.take_of_length_le (by rw [natsU_len, hr.len]; exact Nat.le_refl _)]
  have c3 : ∀ H, loadV G true 4 (.rp false f.a 0) H = some f.a := fun H => rfl
  have c4 : ∀ q : List Nat, q.length = 31 → stS (storeV 31 (.ptr 0 1 0 0) (rgV q) (hp2 Z f00)) = some (.tup [], hp2 q f00) := fun q hq => stRgA hq hZ rfl
  have c5 : ∀ (q : List Nat) (g : FL), stS (storeV 4 (.ptr 1 1 0 0) g.a (hp2 q f00)) = some (.tup [], hp2 q g) := fun q g => rfl
  have st' := st xx
  have hq := setF_len r hr.len d xx
  generalize setF r d xx = q at *
  have c4' := c4 q hq
  have c5' := c5 q f
  refine e_in ?_
  have fx := And.intro r1 <| And.intro g1 <| And.intro g2 <| And.intro g3 <| And.intro g4 <| And.intro k1 <| And.intro k2 <| And.intro k3 <| And.intro b1 <| And.intro b2 <| And.intro c0 <| And.intro c1 <| And.intro c2 <| And.intro c3 <| And.intro z1 <| And.intro z2 <| And.intro o1 <| And.intro st' <| And.intro c4' <| c5'
  refine wkB ?_
  exact oF (rone_fin G q hq f true)
theorem rone_11 (G : Globs) (k : Nat) (d n m a imm : Int) (hw : rightB ⟨11, d, n, m, a, imm⟩ = true) (r : List Nat) (hr : RgOk r) (f : FL) :
    alembicref17_One.f G (k + 7) [mV 11 d n m a imm, rgV r, f.a] [] = some (oneV ((doesF ⟨11, d, n, m, a, imm⟩ r f).1, (doesF ⟨11, d, n, m, a, imm⟩ r f).2, true), []) := by
  have r1 : ∀ H, pureCall (alembicref17_Word.f G (k + 6)) [mV 11 d n m a imm] H = _ := fun H => pureCall_of (H := H) (rword_spec G k ⟨11, d, n, m, a, imm⟩) rfl rfl
  rw [hw] at r1
  obtain ⟨_, hd, hn, hm, ha, hf⟩ := right_ok hw
  have himm : 0 ≤ imm ∧ imm < 65536 := by
    unfold rightB at hw
    rw [Bool.and_eq_true] at hw
    obtain ⟨_, h⟩ := hw
    simp [formF, fairB, regB, extraB, immB, halfI, stackB] at h
    omega
  simp only at hd hn hm ha hf
  clear hw
  have ld := hr.get d
  have ln := hr.get n
  have lm := hr.get m
  have la := hr.get a
  have g : ∀ j, 0 ≤ j → j ≤ 31 → ∀ H, pureCall (alembicref17_get.f G (k + 6)) [rgV r, I6 j] H = some (Un (getF r j), H) := fun j h0 h1 H => pureCall_of (H := H) (rget_spec G (k + 5) r hr.len j h0 h1) (by simp [plainL, plainB, plainU]) rfl
  have g1 := g d hd.1 hd.2
  have g2 := g n hn.1 hn.2
  have g3 := g m hm.1 hm.2
  have g4 := g a ha.1 ha.2
  clear g
  have st : ∀ x H, pureCall (alembicref17_set.f G (k + 6)) [rgV r, I6 d, Un x] H = some (rgV (setF r d x), H) := fun x H => pureCall_of (H := H) (rset_spec G (k + 5) r hr.len d hd.1 hd.2 x) (by simp [plainL, plainB, plainU]) (by simp [cleanB, cleanU])
  obtain ⟨ki, hki⟩ : ∃ z, z = u64 imm := ⟨_, rfl⟩
  have hkl : ki < 18446744073709551616 := by rw [hki]; exact u64_lt _
  have hkv : (ki : Int) = imm := by rw [hki]; unfold u64; omega
  have k1 : convInt .u64 (I6 imm) = some (Un ki) := by rw [conv_u64, hki]
  have k2 : bin Tryd.prog .and 3 true (I6 imm) (.int .i64 63) = some (I6 (imm % 64)) := i64_and63 _ _ _ (by omega) (by omega)
  obtain ⟨kj, hkj⟩ : ∃ z : Nat, (z : Int) = imm % 64 := ⟨(imm % 64).toNat, by omega⟩
  rw [← hkj] at k2
  have k3 : convInt .u64 (Nn kj) = some (Un kj) := by rw [convInt_int, wrap_of_u64 (by omega) (by omega)]
  have ed : doesF ⟨11, d, n, m, a, imm⟩ r f = (setF r d ((getF r n + 18446744073709551616 - u64 imm) % 18446744073709551616), f) := by
    unfold doesF madeF
    simp only [Int.reduceEq, or_false, false_or, or_self, or_true, true_or, if_false, if_true, ↓reduceIte]
  rw [ed]
  clear ed
  simp only
  try rw [← hki]
  generalize getF r d = rd at *
  generalize getF r n = rn at *
  generalize getF r m = rm at *
  generalize getF r a = ra at *
  have o1 := u64_sub Tryd.prog 43 false rn ki hkl
  generalize (rn + 18446744073709551616 - ki) % 18446744073709551616 = xx at *
  rw [alembicref17_One.step]
  unfold alembicref17_One.c
  rw [zeroRg, zeroRgL]
  have hZ : (List.replicate 31 0 : List Nat).length = 31 := rfl
  have z1 : buildArr 1 (natsU (List.replicate 31 0)) [] = some (rgV (List.replicate 31 0)) := rfl
  have z2 : buildArr 1 [.bool false, .bool false, .bool false, .bool false] [] = some f00.a := rfl
  have b1 : boxA 44 (rgV (List.replicate 31 0)) [] = some (.ptr 0 1 0 0, [⟨44, 31, [rgV (List.replicate 31 0)]⟩]) := boxRg _ rfl []
  have b2 : boxA 53 (.agg [.bool false, .bool false, .bool false, .bool false]) [⟨44, 31, [rgV (List.replicate 31 0)]⟩] = some (.ptr 1 1 0 0, hp2 (List.replicate 31 0) f00) := rfl
  generalize List.replicate 31 0 = Z at *
  have c0 : ∀ H, boxRoA (rgV r) H = some (.rp false (rgV r) 0, H) := fun H => rfl
  have c1 : ∀ H, boxRoA f.a H = some (.rp false f.a 0, H) := fun H => rfl
  have c2 : ∀ H, loadV G true 31 (.rp false (rgV r) 0) H = some (rgV r) := fun H => by
    rw [q_ldrpT, if_pos (by rw [natsU_len, hr.len]; exact Nat.le_refl _), List.drop_zero, List.take_of_length_le (by rw [natsU_len, hr.len]; exact Nat.le_refl _)]
  have c3 : ∀ H, loadV G true 4 (.rp false f.a 0) H = some f.a := fun H => rfl
  have c4 : ∀ q : List Nat, q.length = 31 → stS (storeV 31 (.ptr 0 1 0 0) (rgV q) (hp2 Z f00)) = some (.tup [], hp2 q f00) := fun q hq => stRgA hq hZ rfl
  have c5 : ∀ (q : List Nat) (g : FL), stS (storeV 4 (.ptr 1 1 0 0) g.a (hp2 q f00)) = some (.tup [], hp2 q g) := fun q g => rfl
  have st' := st xx
  have hq := setF_len r hr.len d xx
  generalize setF r d xx = q at *
  have c4' := c4 q hq
  have c5' := c5 q f
  refine e_in ?_
  have fx := And.intro r1 <| And.intro g1 <| And.intro g2 <| And.intro g3 <| And.intro g4 <| And.intro k1 <| And.intro k2 <| And.intro k3 <| And.intro b1 <| And.intro b2 <| And.intro c0 <| And.intro c1 <| And.intro c2 <| And.intro c3 <| And.intro z1 <| And.intro z2 <| And.intro o1 <| And.intro st' <| And.intro c4' <| c5'
  refine wkB ?_
  exact oF (rone_fin G q hq f true)
theorem rone_12 (G : Globs) (k : Nat) (d n m a imm : Int) (hw : rightB ⟨12, d, n, m, a, imm⟩ = true) (r : List Nat) (hr : RgOk r) (f : FL) :
    alembicref17_One.f G (k + 7) [mV 12 d n m a imm, rgV r, f.a] [] = some (oneV ((doesF ⟨12, d, n, m, a, imm⟩ r f).1, (doesF ⟨12, d, n, m, a, imm⟩ r f).2, true), []) := by
  have r1 : ∀ H, pureCall (alembicref17_Word.f G (k + 6)) [mV 12 d n m a imm] H = _ := fun H => pureCall_of (H := H) (rword_spec G k ⟨12, d, n, m, a, imm⟩) rfl rfl
  rw [hw] at r1
  obtain ⟨_, hd, hn, hm, ha, hf⟩ := right_ok hw
  have himm : 0 ≤ imm ∧ imm < 65536 := by
    unfold rightB at hw
    rw [Bool.and_eq_true] at hw
    obtain ⟨_, h⟩ := hw
    simp [formF, fairB, regB, extraB, immB, halfI, stackB] at h
    omega
  simp only at hd hn hm ha hf
  clear hw
  have ld := hr.get d
  have ln := hr.get n
  have lm := hr.get m
  have la := hr.get a
  have g : ∀ j, 0 ≤ j → j ≤ 31 → ∀ H, pureCall (alembicref17_get.f G (k + 6)) [rgV r, I6 j] H = some (Un (getF r j), H) := fun j h0 h1 H => pureCall_of (H := H) (rget_spec G (k + 5) r hr.len j h0 h1) (by simp [plainL, plainB, plainU]) rfl
  have g1 := g d hd.1 hd.2
  have g2 := g n hn.1 hn.2
  have g3 := g m hm.1 hm.2
  have g4 := g a ha.1 ha.2
  clear g
  have st : ∀ x H, pureCall (alembicref17_set.f G (k + 6)) [rgV r, I6 d, Un x] H = some (rgV (setF r d x), H) := fun x H => pureCall_of (H := H) (rset_spec G (k + 5) r hr.len d hd.1 hd.2 x) (by simp [plainL, plainB, plainU]) (by simp [cleanB, cleanU])
  obtain ⟨ki, hki⟩ : ∃ z, z = u64 imm := ⟨_, rfl⟩
  have hkl : ki < 18446744073709551616 := by rw [hki]; exact u64_lt _
  have hkv : (ki : Int) = imm := by rw [hki]; unfold u64; omega
  have k1 : convInt .u64 (I6 imm) = some (Un ki) := by rw [conv_u64, hki]
  have k2 : bin Tryd.prog .and 3 true (I6 imm) (.int .i64 63) = some (I6 (imm % 64)) := i64_and63 _ _ _ (by omega) (by omega)
  obtain ⟨kj, hkj⟩ : ∃ z : Nat, (z : Int) = imm % 64 := ⟨(imm % 64).toNat, by omega⟩
  rw [← hkj] at k2
  have k3 : convInt .u64 (Nn kj) = some (Un kj) := by rw [convInt_int, wrap_of_u64 (by omega) (by omega)]
  have ed : doesF ⟨12, d, n, m, a, imm⟩ r f = (setF r d (getF r n * 2 ^ (u64 imm) % 18446744073709551616), f) := by
    unfold doesF madeF
    simp only [Int.reduceEq, or_false, false_or, or_self, or_true, true_or, if_false, if_true, ↓reduceIte]
  rw [ed]
  clear ed
  simp only
  try rw [← hki]
  generalize getF r d = rd at *
  generalize getF r n = rn at *
  generalize getF r m = rm at *
  generalize getF r a = ra at *
  have hi := hf.2 (by omega) (by omega)
  have ej : kj = ki := by omega
  subst ej
  have o1 := u64_shl Tryd.prog 43 false .u64 rn kj (by omega)
  generalize rn * 2 ^ kj % 18446744073709551616 = xx at *
  rw [alembicref17_One.step]
  unfold alembicref17_One.c
  rw [zeroRg, zeroRgL]
  have hZ : (List.replicate 31 0 : List Nat).length = 31 := rfl
  have z1 : buildArr 1 (natsU (List.replicate 31 0)) [] = some (rgV (List.replicate 31 0)) := rfl
  have z2 : buildArr 1 [.bool false, .bool false, .bool false, .bool false] [] = some f00.a := rfl
  have b1 : boxA 44 (rgV (List.replicate 31 0)) [] = some (.ptr 0 1 0 0, [⟨44, 31, [rgV (List.replicate 31 0)]⟩]) := boxRg _ rfl []
  have b2 : boxA 53 (.agg [.bool false, .bool false, .bool false, .bool false]) [⟨44, 31, [rgV (List.replicate 31 0)]⟩] = some (.ptr 1 1 0 0, hp2 (List.replicate 31 0) f00) := rfl
  generalize List.replicate 31 0 = Z at *
  have c0 : ∀ H, boxRoA (rgV r) H = some (.rp false (rgV r) 0, H) := fun H => rfl
  have c1 : ∀ H, boxRoA f.a H = some (.rp false f.a 0, H) := fun H => rfl
  have c2 : ∀ H, loadV G true 31 (.rp false (rgV r) 0) H = some (rgV r) := fun H => by
    rw [q_ldrpT, if_pos (by rw [natsU_len, hr.len]; exact Nat.le_refl _), List.drop_zero, List.take_of_length_le (by rw [natsU_len, hr.len]; exact Nat.le_refl _)]
  have c3 : ∀ H, loadV G true 4 (.rp false f.a 0) H = some f.a := fun H => rfl
  have c4 : ∀ q : List Nat, q.length = 31 → stS (storeV 31 (.ptr 0 1 0 0) (rgV q) (hp2 Z f00)) = some (.tup [], hp2 q f00) := fun q hq => stRgA hq hZ rfl
  have c5 : ∀ (q : List Nat) (g : FL), stS (storeV 4 (.ptr 1 1 0 0) g.a (hp2 q f00)) = some (.tup [], hp2 q g) := fun q g => rfl
  have st' := st xx
  have hq := setF_len r hr.len d xx
  generalize setF r d xx = q at *
  have c4' := c4 q hq
  have c5' := c5 q f
  refine e_in ?_
  have fx := And.intro r1 <| And.intro g1 <| And.intro g2 <| And.intro g3 <| And.intro g4 <| And.intro k1 <| And.intro k2 <| And.intro k3 <| And.intro b1 <| And.intro b2 <| And.intro c0 <| And.intro c1 <| And.intro c2 <| And.intro c3 <| And.intro z1 <| And.intro z2 <| And.intro o1 <| And.intro st' <| And.intro c4' <| c5'
  refine wkB ?_
  exact oF (rone_fin G q hq f true)
theorem rone_13 (G : Globs) (k : Nat) (d n m a imm : Int) (hw : rightB ⟨13, d, n, m, a, imm⟩ = true) (r : List Nat) (hr : RgOk r) (f : FL) :
    alembicref17_One.f G (k + 7) [mV 13 d n m a imm, rgV r, f.a] [] = some (oneV ((doesF ⟨13, d, n, m, a, imm⟩ r f).1, (doesF ⟨13, d, n, m, a, imm⟩ r f).2, true), []) := by
  have r1 : ∀ H, pureCall (alembicref17_Word.f G (k + 6)) [mV 13 d n m a imm] H = _ := fun H => pureCall_of (H := H) (rword_spec G k ⟨13, d, n, m, a, imm⟩) rfl rfl
  rw [hw] at r1
  obtain ⟨_, hd, hn, hm, ha, hf⟩ := right_ok hw
  have himm : 0 ≤ imm ∧ imm < 65536 := by
    unfold rightB at hw
    rw [Bool.and_eq_true] at hw
    obtain ⟨_, h⟩ := hw
    simp [formF, fairB, regB, extraB, immB, halfI, stackB] at h
    omega
  simp only at hd hn hm ha hf
  clear hw
  have ld := hr.get d
  have ln := hr.get n
  have lm := hr.get m
  have la := hr.get a
  have g : ∀ j, 0 ≤ j → j ≤ 31 → ∀ H, pureCall (alembicref17_get.f G (k + 6)) [rgV r, I6 j] H = some (Un (getF r j), H) := fun j h0 h1 H => pureCall_of (H := H) (rget_spec G (k + 5) r hr.len j h0 h1) (by simp [plainL, plainB, plainU]) rfl
  have g1 := g d hd.1 hd.2
  have g2 := g n hn.1 hn.2
  have g3 := g m hm.1 hm.2
  have g4 := g a ha.1 ha.2
  clear g
  have st : ∀ x H, pureCall (alembicref17_set.f G (k + 6)) [rgV r, I6 d, Un x] H = some (rgV (setF r d x), H) := fun x H => pureCall_of (H := H) (rset_spec G (k + 5) r hr.len d hd.1 hd.2 x) (by simp [plainL, plainB, plainU]) (by simp [cleanB, cleanU])
  obtain ⟨ki, hki⟩ : ∃ z, z = u64 imm := ⟨_, rfl⟩
  have hkl : ki < 18446744073709551616 := by rw [hki]; exact u64_lt _
  have hkv : (ki : Int) = imm := by rw [hki]; unfold u64; omega
  have k1 : convInt .u64 (I6 imm) = some (Un ki) := by rw [conv_u64, hki]
  have k2 : bin Tryd.prog .and 3 true (I6 imm) (.int .i64 63) = some (I6 (imm % 64)) := i64_and63 _ _ _ (by omega) (by omega)
  obtain ⟨kj, hkj⟩ : ∃ z : Nat, (z : Int) = imm % 64 := ⟨(imm % 64).toNat, by omega⟩
  rw [← hkj] at k2
  have k3 : convInt .u64 (Nn kj) = some (Un kj) := by rw [convInt_int, wrap_of_u64 (by omega) (by omega)]
  have ed : doesF ⟨13, d, n, m, a, imm⟩ r f = (setF r d (getF r n / 2 ^ (u64 imm)), f) := by
    unfold doesF madeF
    simp only [Int.reduceEq, or_false, false_or, or_self, or_true, true_or, if_false, if_true, ↓reduceIte]
  rw [ed]
  clear ed
  simp only
  try rw [← hki]
  generalize getF r d = rd at *
  generalize getF r n = rn at *
  generalize getF r m = rm at *
  generalize getF r a = ra at *
  have hi := hf.2 (by omega) (by omega)
  have ej : kj = ki := by omega
  subst ej
  have o1 := u64_shr Tryd.prog 43 false .u64 rn kj (by omega)
  generalize rn / 2 ^ kj = xx at *
  rw [alembicref17_One.step]
  unfold alembicref17_One.c
  rw [zeroRg, zeroRgL]
  have hZ : (List.replicate 31 0 : List Nat).length = 31 := rfl
  have z1 : buildArr 1 (natsU (List.replicate 31 0)) [] = some (rgV (List.replicate 31 0)) := rfl
  have z2 : buildArr 1 [.bool false, .bool false, .bool false, .bool false] [] = some f00.a := rfl
  have b1 : boxA 44 (rgV (List.replicate 31 0)) [] = some (.ptr 0 1 0 0, [⟨44, 31, [rgV (List.replicate 31 0)]⟩]) := boxRg _ rfl []
  have b2 : boxA 53 (.agg [.bool false, .bool false, .bool false, .bool false]) [⟨44, 31, [rgV (List.replicate 31 0)]⟩] = some (.ptr 1 1 0 0, hp2 (List.replicate 31 0) f00) := rfl
  generalize List.replicate 31 0 = Z at *
  have c0 : ∀ H, boxRoA (rgV r) H = some (.rp false (rgV r) 0, H) := fun H => rfl
  have c1 : ∀ H, boxRoA f.a H = some (.rp false f.a 0, H) := fun H => rfl
  have c2 : ∀ H, loadV G true 31 (.rp false (rgV r) 0) H = some (rgV r) := fun H => by
    rw [q_ldrpT, if_pos (by rw [natsU_len, hr.len]; exact Nat.le_refl _), List.drop_zero, List.take_of_length_le (by rw [natsU_len, hr.len]; exact Nat.le_refl _)]
  have c3 : ∀ H, loadV G true 4 (.rp false f.a 0) H = some f.a := fun H => rfl
  have c4 : ∀ q : List Nat, q.length = 31 → stS (storeV 31 (.ptr 0 1 0 0) (rgV q) (hp2 Z f00)) = some (.tup [], hp2 q f00) := fun q hq => stRgA hq hZ rfl
  have c5 : ∀ (q : List Nat) (g : FL), stS (storeV 4 (.ptr 1 1 0 0) g.a (hp2 q f00)) = some (.tup [], hp2 q g) := fun q g => rfl
  have st' := st xx
  have hq := setF_len r hr.len d xx
  generalize setF r d xx = q at *
  have c4' := c4 q hq
  have c5' := c5 q f
  refine e_in ?_
  have fx := And.intro r1 <| And.intro g1 <| And.intro g2 <| And.intro g3 <| And.intro g4 <| And.intro k1 <| And.intro k2 <| And.intro k3 <| And.intro b1 <| And.intro b2 <| And.intro c0 <| And.intro c1 <| And.intro c2 <| And.intro c3 <| And.intro z1 <| And.intro z2 <| And.intro o1 <| And.intro st' <| And.intro c4' <| c5'
  refine wkB ?_
  exact oF (rone_fin G q hq f true)
theorem rone_14 (G : Globs) (k : Nat) (d n m a imm : Int) (hw : rightB ⟨14, d, n, m, a, imm⟩ = true) (r : List Nat) (hr : RgOk r) (f : FL) :
    alembicref17_One.f G (k + 7) [mV 14 d n m a imm, rgV r, f.a] [] = some (oneV ((doesF ⟨14, d, n, m, a, imm⟩ r f).1, (doesF ⟨14, d, n, m, a, imm⟩ r f).2, true), []) := by
  have r1 : ∀ H, pureCall (alembicref17_Word.f G (k + 6)) [mV 14 d n m a imm] H = _ := fun H => pureCall_of (H := H) (rword_spec G k ⟨14, d, n, m, a, imm⟩) rfl rfl
  rw [hw] at r1
  obtain ⟨_, hd, hn, hm, ha, hf⟩ := right_ok hw
  have himm : 0 ≤ imm ∧ imm < 65536 := by
    unfold rightB at hw
    rw [Bool.and_eq_true] at hw
    obtain ⟨_, h⟩ := hw
    simp [formF, fairB, regB, extraB, immB, halfI, stackB] at h
    omega
  simp only at hd hn hm ha hf
  clear hw
  have ld := hr.get d
  have ln := hr.get n
  have lm := hr.get m
  have la := hr.get a
  have g : ∀ j, 0 ≤ j → j ≤ 31 → ∀ H, pureCall (alembicref17_get.f G (k + 6)) [rgV r, I6 j] H = some (Un (getF r j), H) := fun j h0 h1 H => pureCall_of (H := H) (rget_spec G (k + 5) r hr.len j h0 h1) (by simp [plainL, plainB, plainU]) rfl
  have g1 := g d hd.1 hd.2
  have g2 := g n hn.1 hn.2
  have g3 := g m hm.1 hm.2
  have g4 := g a ha.1 ha.2
  clear g
  have st : ∀ x H, pureCall (alembicref17_set.f G (k + 6)) [rgV r, I6 d, Un x] H = some (rgV (setF r d x), H) := fun x H => pureCall_of (H := H) (rset_spec G (k + 5) r hr.len d hd.1 hd.2 x) (by simp [plainL, plainB, plainU]) (by simp [cleanB, cleanU])
  obtain ⟨ki, hki⟩ : ∃ z, z = u64 imm := ⟨_, rfl⟩
  have hkl : ki < 18446744073709551616 := by rw [hki]; exact u64_lt _
  have hkv : (ki : Int) = imm := by rw [hki]; unfold u64; omega
  have k1 : convInt .u64 (I6 imm) = some (Un ki) := by rw [conv_u64, hki]
  have k2 : bin Tryd.prog .and 3 true (I6 imm) (.int .i64 63) = some (I6 (imm % 64)) := i64_and63 _ _ _ (by omega) (by omega)
  obtain ⟨kj, hkj⟩ : ∃ z : Nat, (z : Int) = imm % 64 := ⟨(imm % 64).toNat, by omega⟩
  rw [← hkj] at k2
  have k3 : convInt .u64 (Nn kj) = some (Un kj) := by rw [convInt_int, wrap_of_u64 (by omega) (by omega)]
  have ed : doesF ⟨14, d, n, m, a, imm⟩ r f = (setF r d (sarF (getF r n) (u64 imm)), f) := by
    unfold doesF madeF
    simp only [Int.reduceEq, or_false, false_or, or_self, or_true, true_or, if_false, if_true, ↓reduceIte]
  rw [ed]
  clear ed
  simp only
  try rw [← hki]
  generalize getF r d = rd at *
  generalize getF r n = rn at *
  generalize getF r m = rm at *
  generalize getF r a = ra at *
  have hi := hf.2 (by omega) (by omega)
  have ej : kj = ki := by omega
  subst ej
  have o1 := conv_i64 rn ln
  have o2 : bin Tryd.prog .shr 2 false (I6 (s64 rn)) (Un kj) = some (I6 ((s64 rn).fdiv (2 ^ kj))) := by
    rw [bin_shr _ _ _ _ _ _ _ (Int.natCast_nonneg kj)]
    have e : min ((kj : Int)).toNat IntKind.i64.bits = kj := by rw [Int.toNat_natCast]; exact Nat.min_eq_left (by have : IntKind.i64.bits = 64 := rfl; omega)
    rw [e]
  have o3 := conv_u64 .i64 ((s64 rn).fdiv (2 ^ kj))
  have hq : u64 ((s64 rn).fdiv (2 ^ kj)) = sarF rn kj := rfl
  rw [hq] at o3
  clear hq
  generalize sarF rn kj = xx at *
  generalize (s64 rn).fdiv (2 ^ kj) = yy at *
  rw [alembicref17_One.step]
  unfold alembicref17_One.c
  rw [zeroRg, zeroRgL]
  have hZ : (List.replicate 31 0 : List Nat).length = 31 := rfl
  have z1 : buildArr 1 (natsU (List.replicate 31 0)) [] = some (rgV (List.replicate 31 0)) := rfl
  have z2 : buildArr 1 [.bool false, .bool false, .bool false, .bool false] [] = some f00.a := rfl
  have b1 : boxA 44 (rgV (List.replicate 31 0)) [] = some (.ptr 0 1 0 0, [⟨44, 31, [rgV (List.replicate 31 0)]⟩]) := boxRg _ rfl []
  have b2 : boxA 53 (.agg [.bool false, .bool false, .bool false, .bool false]) [⟨44, 31, [rgV (List.replicate 31 0)]⟩] = some (.ptr 1 1 0 0, hp2 (List.replicate 31 0) f00) := rfl
  generalize List.replicate 31 0 = Z at *
  have c0 : ∀ H, boxRoA (rgV r) H = some (.rp false (rgV r) 0, H) := fun H => rfl
  have c1 : ∀ H, boxRoA f.a H = some (.rp false f.a 0, H) := fun H => rfl
  have c2 : ∀ H, loadV G true 31 (.rp false (rgV r) 0) H = some (rgV r) := fun H => by
    rw [q_ldrpT, if_pos (by rw [natsU_len, hr.len]; exact Nat.le_refl _), List.drop_zero, List.take_of_length_le (by rw [natsU_len, hr.len]; exact Nat.le_refl _)]
  have c3 : ∀ H, loadV G true 4 (.rp false f.a 0) H = some f.a := fun H => rfl
  have c4 : ∀ q : List Nat, q.length = 31 → stS (storeV 31 (.ptr 0 1 0 0) (rgV q) (hp2 Z f00)) = some (.tup [], hp2 q f00) := fun q hq => stRgA hq hZ rfl
  have c5 : ∀ (q : List Nat) (g : FL), stS (storeV 4 (.ptr 1 1 0 0) g.a (hp2 q f00)) = some (.tup [], hp2 q g) := fun q g => rfl
  have st' := st xx
  have hq := setF_len r hr.len d xx
  generalize setF r d xx = q at *
  have c4' := c4 q hq
  have c5' := c5 q f
  refine e_in ?_
  have fx := And.intro r1 <| And.intro g1 <| And.intro g2 <| And.intro g3 <| And.intro g4 <| And.intro k1 <| And.intro k2 <| And.intro k3 <| And.intro b1 <| And.intro b2 <| And.intro c0 <| And.intro c1 <| And.intro c2 <| And.intro c3 <| And.intro z1 <| And.intro z2 <| And.intro o1 <| And.intro o2 <| And.intro o3 <| And.intro st' <| And.intro c4' <| c5'
  refine wkB ?_
  exact oF (rone_fin G q hq f true)
theorem rone_15 (G : Globs) (k : Nat) (d n m a imm : Int) (hw : rightB ⟨15, d, n, m, a, imm⟩ = true) (r : List Nat) (hr : RgOk r) (f : FL) :
    alembicref17_One.f G (k + 7) [mV 15 d n m a imm, rgV r, f.a] [] = some (oneV ((doesF ⟨15, d, n, m, a, imm⟩ r f).1, (doesF ⟨15, d, n, m, a, imm⟩ r f).2, true), []) := by
  have r1 : ∀ H, pureCall (alembicref17_Word.f G (k + 6)) [mV 15 d n m a imm] H = _ := fun H => pureCall_of (H := H) (rword_spec G k ⟨15, d, n, m, a, imm⟩) rfl rfl
  rw [hw] at r1
  obtain ⟨_, hd, hn, hm, ha, hf⟩ := right_ok hw
  have himm : 0 ≤ imm ∧ imm < 65536 := by
    unfold rightB at hw
    rw [Bool.and_eq_true] at hw
    obtain ⟨_, h⟩ := hw
    simp [formF, fairB, regB, extraB, immB, halfI, stackB] at h
    omega
  simp only at hd hn hm ha hf
  clear hw
  have ld := hr.get d
  have ln := hr.get n
  have lm := hr.get m
  have la := hr.get a
  have g : ∀ j, 0 ≤ j → j ≤ 31 → ∀ H, pureCall (alembicref17_get.f G (k + 6)) [rgV r, I6 j] H = some (Un (getF r j), H) := fun j h0 h1 H => pureCall_of (H := H) (rget_spec G (k + 5) r hr.len j h0 h1) (by simp [plainL, plainB, plainU]) rfl
  have g1 := g d hd.1 hd.2
  have g2 := g n hn.1 hn.2
  have g3 := g m hm.1 hm.2
  have g4 := g a ha.1 ha.2
  clear g
  have st : ∀ x H, pureCall (alembicref17_set.f G (k + 6)) [rgV r, I6 d, Un x] H = some (rgV (setF r d x), H) := fun x H => pureCall_of (H := H) (rset_spec G (k + 5) r hr.len d hd.1 hd.2 x) (by simp [plainL, plainB, plainU]) (by simp [cleanB, cleanU])
  obtain ⟨ki, hki⟩ : ∃ z, z = u64 imm := ⟨_, rfl⟩
  have hkl : ki < 18446744073709551616 := by rw [hki]; exact u64_lt _
  have hkv : (ki : Int) = imm := by rw [hki]; unfold u64; omega
  have k1 : convInt .u64 (I6 imm) = some (Un ki) := by rw [conv_u64, hki]
  have k2 : bin Tryd.prog .and 3 true (I6 imm) (.int .i64 63) = some (I6 (imm % 64)) := i64_and63 _ _ _ (by omega) (by omega)
  obtain ⟨kj, hkj⟩ : ∃ z : Nat, (z : Int) = imm % 64 := ⟨(imm % 64).toNat, by omega⟩
  rw [← hkj] at k2
  have k3 : convInt .u64 (Nn kj) = some (Un kj) := by rw [convInt_int, wrap_of_u64 (by omega) (by omega)]
  have ed : doesF ⟨15, d, n, m, a, imm⟩ r f = (r, lessF (getF r n) (getF r m)) := rfl
  rw [ed]
  clear ed
  simp only
  generalize getF r d = rd at *
  generalize getF r n = rn at *
  generalize getF r m = rm at *
  generalize getF r a = ra at *
  unfold lessF
  have k1' := u64_sub Tryd.prog 43 false rn rm lm
  obtain ⟨x, hx⟩ : ∃ x, x = (rn + 18446744073709551616 - rm) % 18446744073709551616 := ⟨_, rfl⟩
  have hxl : x < 18446744073709551616 := by omega
  rw [← hx] at k1' ⊢
  unfold lessX
  have k2' : bin Tryd.prog .shr 43 true (Un x) (.int .u64 63) = some (Un (x / 2 ^ 63)) := u64_shr Tryd.prog 43 true .u64 x 63 (by omega)
  have k3' : bin Tryd.prog .eql 43 true (Un (x / 2 ^ 63)) (.int .u64 1) = some (.bool (decide (x / 2 ^ 63 = 1))) := by rw [bin_eql]; congr 2; simp only [decide_eq_decide]; omega
  have k4' : bin Tryd.prog .eql 43 true (Un x) (.int .u64 0) = some (.bool (decide (x = 0))) := by rw [bin_eql]; congr 2; simp only [decide_eq_decide]; omega
  have k5' : bin Tryd.prog .geq 43 false (Un rn) (Un rm) = some (.bool (decide (rm ≤ rn))) := by rw [bin_geq]; congr 2; simp only [decide_eq_decide]; omega
  have k6' : bin Tryd.prog .xor 43 false (Un rn) (Un rm) = some (Un (rn ^^^ rm)) := by rw [bin_xor, u64_xor rn rm ln lm]
  have k7' : bin Tryd.prog .xor 43 false (Un rn) (Un x) = some (Un (rn ^^^ x)) := by rw [bin_xor, u64_xor rn x ln hxl]
  have l6 : rn ^^^ rm < 2 ^ 64 := Nat.xor_lt_two_pow ln lm
  have l7 : rn ^^^ x < 2 ^ 64 := Nat.xor_lt_two_pow ln hxl
  obtain ⟨y, hy⟩ : ∃ y, y = (rn ^^^ rm) &&& (rn ^^^ x) := ⟨_, rfl⟩
  have k8' : bin Tryd.prog .and 43 false (Un (rn ^^^ rm)) (Un (rn ^^^ x)) = some (Un y) := by rw [bin_and, u64_and _ _ (by omega) (by omega), hy]
  rw [← hy]
  have k9' : bin Tryd.prog .shr 43 true (Un y) (.int .u64 63) = some (Un (y / 2 ^ 63)) := u64_shr Tryd.prog 43 true .u64 y 63 (by omega)
  have k10' : bin Tryd.prog .eql 43 true (Un (y / 2 ^ 63)) (.int .u64 1) = some (.bool (decide (y / 2 ^ 63 = 1))) := by rw [bin_eql]; congr 2; simp only [decide_eq_decide]; omega
  have x2 : ∀ p q r s, buildArr 1 [.bool false, .bool false, .bool false, .bool false] [(0, .bool p), (1, .bool q), (2, .bool r), (3, .bool s)] = some (FL.a ⟨p, q, r, s⟩) := fun p q r s => rfl
  clear hx hy l6 l7 hxl
  generalize rn ^^^ rm = z1' at *
  generalize rn ^^^ x = z2' at *
  generalize decide (x / 2 ^ 63 = 1) = t1 at *
  generalize decide (x = 0) = t2 at *
  generalize decide (rm ≤ rn) = t3 at *
  generalize decide (y / 2 ^ 63 = 1) = t4 at *
  generalize x / 2 ^ 63 = z3' at *
  generalize y / 2 ^ 63 = z4' at *
  obtain ⟨ff, hff⟩ : ∃ ff : FL, ff = ⟨t1, t2, t3, t4⟩ := ⟨_, rfl⟩
  have x3 := x2 t1 t2 t3 t4
  rw [← hff] at x3 ⊢
  clear x2 hff
  rw [alembicref17_One.step]
  unfold alembicref17_One.c
  rw [zeroRg, zeroRgL]
  have hZ : (List.replicate 31 0 : List Nat).length = 31 := rfl
  have z1 : buildArr 1 (natsU (List.replicate 31 0)) [] = some (rgV (List.replicate 31 0)) := rfl
  have z2 : buildArr 1 [.bool false, .bool false, .bool false, .bool false] [] = some f00.a := rfl
  have b1 : boxA 44 (rgV (List.replicate 31 0)) [] = some (.ptr 0 1 0 0, [⟨44, 31, [rgV (List.replicate 31 0)]⟩]) := boxRg _ rfl []
  have b2 : boxA 53 (.agg [.bool false, .bool false, .bool false, .bool false]) [⟨44, 31, [rgV (List.replicate 31 0)]⟩] = some (.ptr 1 1 0 0, hp2 (List.replicate 31 0) f00) := rfl
  generalize List.replicate 31 0 = Z at *
  have c0 : ∀ H, boxRoA (rgV r) H = some (.rp false (rgV r) 0, H) := fun H => rfl
  have c1 : ∀ H, boxRoA f.a H = some (.rp false f.a 0, H) := fun H => rfl
  have c2 : ∀ H, loadV G true 31 (.rp false (rgV r) 0) H = some (rgV r) := fun H => by
    rw [q_ldrpT, if_pos (by rw [natsU_len, hr.len]; exact Nat.le_refl _), List.drop_zero, List.take_of_length_le (by rw [natsU_len, hr.len]; exact Nat.le_refl _)]
  have c3 : ∀ H, loadV G true 4 (.rp false f.a 0) H = some f.a := fun H => rfl
  have c4 : ∀ q : List Nat, q.length = 31 → stS (storeV 31 (.ptr 0 1 0 0) (rgV q) (hp2 Z f00)) = some (.tup [], hp2 q f00) := fun q hq => stRgA hq hZ rfl
  have c5 : ∀ (q : List Nat) (g : FL), stS (storeV 4 (.ptr 1 1 0 0) g.a (hp2 q f00)) = some (.tup [], hp2 q g) := fun q g => rfl
  have c4' := c4 r hr.len
  have c5' := c5 r ff
  refine e_in ?_
  have fx := And.intro r1 <| And.intro g1 <| And.intro g2 <| And.intro g3 <| And.intro g4 <| And.intro k1 <| And.intro k2 <| And.intro k3 <| And.intro b1 <| And.intro b2 <| And.intro c0 <| And.intro c1 <| And.intro c2 <| And.intro c3 <| And.intro z1 <| And.intro z2 <| And.intro k1' <| And.intro k2' <| And.intro k3' <| And.intro k4' <| And.intro k5' <| And.intro k6' <| And.intro k7' <| And.intro k8' <| And.intro k9' <| And.intro k10' <| And.intro x3 <| And.intro c4' <| c5'
  refine wkB ?_
  exact oF (rone_fin G r hr.len ff true)
theorem rone_16 (G : Globs) (k : Nat) (d n m a imm : Int) (hw : rightB ⟨16, d, n, m, a, imm⟩ = true) (r : List Nat) (hr : RgOk r) (f : FL) :
    alembicref17_One.f G (k + 7) [mV 16 d n m a imm, rgV r, f.a] [] = some (oneV ((doesF ⟨16, d, n, m, a, imm⟩ r f).1, (doesF ⟨16, d, n, m, a, imm⟩ r f).2, true), []) := by
  have r1 : ∀ H, pureCall (alembicref17_Word.f G (k + 6)) [mV 16 d n m a imm] H = _ := fun H => pureCall_of (H := H) (rword_spec G k ⟨16, d, n, m, a, imm⟩) rfl rfl
  rw [hw] at r1
  obtain ⟨_, hd, hn, hm, ha, hf⟩ := right_ok hw
  have himm : 0 ≤ imm ∧ imm < 65536 := by
    unfold rightB at hw
    rw [Bool.and_eq_true] at hw
    obtain ⟨_, h⟩ := hw
    simp [formF, fairB, regB, extraB, immB, halfI, stackB] at h
    omega
  simp only at hd hn hm ha hf
  clear hw
  have ld := hr.get d
  have ln := hr.get n
  have lm := hr.get m
  have la := hr.get a
  have g : ∀ j, 0 ≤ j → j ≤ 31 → ∀ H, pureCall (alembicref17_get.f G (k + 6)) [rgV r, I6 j] H = some (Un (getF r j), H) := fun j h0 h1 H => pureCall_of (H := H) (rget_spec G (k + 5) r hr.len j h0 h1) (by simp [plainL, plainB, plainU]) rfl
  have g1 := g d hd.1 hd.2
  have g2 := g n hn.1 hn.2
  have g3 := g m hm.1 hm.2
  have g4 := g a ha.1 ha.2
  clear g
  have st : ∀ x H, pureCall (alembicref17_set.f G (k + 6)) [rgV r, I6 d, Un x] H = some (rgV (setF r d x), H) := fun x H => pureCall_of (H := H) (rset_spec G (k + 5) r hr.len d hd.1 hd.2 x) (by simp [plainL, plainB, plainU]) (by simp [cleanB, cleanU])
  obtain ⟨ki, hki⟩ : ∃ z, z = u64 imm := ⟨_, rfl⟩
  have hkl : ki < 18446744073709551616 := by rw [hki]; exact u64_lt _
  have hkv : (ki : Int) = imm := by rw [hki]; unfold u64; omega
  have k1 : convInt .u64 (I6 imm) = some (Un ki) := by rw [conv_u64, hki]
  have k2 : bin Tryd.prog .and 3 true (I6 imm) (.int .i64 63) = some (I6 (imm % 64)) := i64_and63 _ _ _ (by omega) (by omega)
  obtain ⟨kj, hkj⟩ : ∃ z : Nat, (z : Int) = imm % 64 := ⟨(imm % 64).toNat, by omega⟩
  rw [← hkj] at k2
  have k3 : convInt .u64 (Nn kj) = some (Un kj) := by rw [convInt_int, wrap_of_u64 (by omega) (by omega)]
  have ed : doesF ⟨16, d, n, m, a, imm⟩ r f = (setF r d ((if holdsF a f = true then getF r n else getF r m)), f) := by
    unfold doesF madeF
    simp only [Int.reduceEq, or_false, false_or, or_self, or_true, true_or, if_false, if_true, ↓reduceIte]
  rw [ed]
  clear ed
  simp only
  try rw [← hki]
  generalize getF r d = rd at *
  generalize getF r n = rn at *
  generalize getF r m = rm at *
  generalize getF r a = ra at *
  have o1 : ∀ H, pureCall (alembicref17_Holds.f G (k + 6)) [I6 a, f.a] H = _ := fun H => pureCall_of (H := H) (rholds_spec G (k + 5) a f) rfl rfl
  generalize holdsF a f = hh at *
  rw [alembicref17_One.step]
  unfold alembicref17_One.c
  rw [zeroRg, zeroRgL]
  have hZ : (List.replicate 31 0 : List Nat).length = 31 := rfl
  have z1 : buildArr 1 (natsU (List.replicate 31 0)) [] = some (rgV (List.replicate 31 0)) := rfl
  have z2 : buildArr 1 [.bool false, .bool false, .bool false, .bool false] [] = some f00.a := rfl
  have b1 : boxA 44 (rgV (List.replicate 31 0)) [] = some (.ptr 0 1 0 0, [⟨44, 31, [rgV (List.replicate 31 0)]⟩]) := boxRg _ rfl []
  have b2 : boxA 53 (.agg [.bool false, .bool false, .bool false, .bool false]) [⟨44, 31, [rgV (List.replicate 31 0)]⟩] = some (.ptr 1 1 0 0, hp2 (List.replicate 31 0) f00) := rfl
  generalize List.replicate 31 0 = Z at *
  have c0 : ∀ H, boxRoA (rgV r) H = some (.rp false (rgV r) 0, H) := fun H => rfl
  have c1 : ∀ H, boxRoA f.a H = some (.rp false f.a 0, H) := fun H => rfl
  have c2 : ∀ H, loadV G true 31 (.rp false (rgV r) 0) H = some (rgV r) := fun H => by
    rw [q_ldrpT, if_pos (by rw [natsU_len, hr.len]; exact Nat.le_refl _), List.drop_zero, List.take_of_length_le (by rw [natsU_len, hr.len]; exact Nat.le_refl _)]
  have c3 : ∀ H, loadV G true 4 (.rp false f.a 0) H = some f.a := fun H => rfl
  have c4 : ∀ q : List Nat, q.length = 31 → stS (storeV 31 (.ptr 0 1 0 0) (rgV q) (hp2 Z f00)) = some (.tup [], hp2 q f00) := fun q hq => stRgA hq hZ rfl
  have c5 : ∀ (q : List Nat) (g : FL), stS (storeV 4 (.ptr 1 1 0 0) g.a (hp2 q f00)) = some (.tup [], hp2 q g) := fun q g => rfl
  refine e_in ?_
  cases hh
  · simp only [Bool.false_eq_true, if_false, if_true]
    have st' : ∀ H, pureCall (alembicref17_set.f G (k + 6)) [rgV r, I6 d, Un rm] H = some (rgV (setF r d rm), H) := st rm
    have hq := setF_len r hr.len d rm
    generalize setF r d rm = q at *
    have c4' := c4 q hq
    have c5' := c5 q f
    have fx := And.intro r1 <| And.intro g1 <| And.intro g2 <| And.intro g3 <| And.intro g4 <| And.intro k1 <| And.intro k2 <| And.intro k3 <| And.intro b1 <| And.intro b2 <| And.intro c0 <| And.intro c1 <| And.intro c2 <| And.intro c3 <| And.intro z1 <| And.intro z2 <| And.intro o1 <| And.intro st' <| And.intro c4' <| c5'
    refine wkB ?_
    exact oF (rone_fin G q hq f true)
  · simp only [Bool.false_eq_true, if_false, if_true]
    have st' : ∀ H, pureCall (alembicref17_set.f G (k + 6)) [rgV r, I6 d, Un rn] H = some (rgV (setF r d rn), H) := st rn
    have hq := setF_len r hr.len d rn
    generalize setF r d rn = q at *
    have c4' := c4 q hq
    have c5' := c5 q f
    have fx := And.intro r1 <| And.intro g1 <| And.intro g2 <| And.intro g3 <| And.intro g4 <| And.intro k1 <| And.intro k2 <| And.intro k3 <| And.intro b1 <| And.intro b2 <| And.intro c0 <| And.intro c1 <| And.intro c2 <| And.intro c3 <| And.intro z1 <| And.intro z2 <| And.intro o1 <| And.intro st' <| And.intro c4' <| c5'
    refine wkB ?_
    exact oF (rone_fin G q hq f true)
theorem rone_17 (G : Globs) (k : Nat) (d n m a imm : Int) (hw : rightB ⟨17, d, n, m, a, imm⟩ = true) (r : List Nat) (hr : RgOk r) (f : FL) :
    alembicref17_One.f G (k + 7) [mV 17 d n m a imm, rgV r, f.a] [] = some (oneV ((doesF ⟨17, d, n, m, a, imm⟩ r f).1, (doesF ⟨17, d, n, m, a, imm⟩ r f).2, true), []) := by
  have r1 : ∀ H, pureCall (alembicref17_Word.f G (k + 6)) [mV 17 d n m a imm] H = _ := fun H => pureCall_of (H := H) (rword_spec G k ⟨17, d, n, m, a, imm⟩) rfl rfl
  rw [hw] at r1
  obtain ⟨_, hd, hn, hm, ha, hf⟩ := right_ok hw
  have himm : 0 ≤ imm ∧ imm < 65536 := by
    unfold rightB at hw
    rw [Bool.and_eq_true] at hw
    obtain ⟨_, h⟩ := hw
    simp [formF, fairB, regB, extraB, immB, halfI, stackB] at h
    omega
  simp only at hd hn hm ha hf
  clear hw
  have ld := hr.get d
  have ln := hr.get n
  have lm := hr.get m
  have la := hr.get a
  have g : ∀ j, 0 ≤ j → j ≤ 31 → ∀ H, pureCall (alembicref17_get.f G (k + 6)) [rgV r, I6 j] H = some (Un (getF r j), H) := fun j h0 h1 H => pureCall_of (H := H) (rget_spec G (k + 5) r hr.len j h0 h1) (by simp [plainL, plainB, plainU]) rfl
  have g1 := g d hd.1 hd.2
  have g2 := g n hn.1 hn.2
  have g3 := g m hm.1 hm.2
  have g4 := g a ha.1 ha.2
  clear g
  have st : ∀ x H, pureCall (alembicref17_set.f G (k + 6)) [rgV r, I6 d, Un x] H = some (rgV (setF r d x), H) := fun x H => pureCall_of (H := H) (rset_spec G (k + 5) r hr.len d hd.1 hd.2 x) (by simp [plainL, plainB, plainU]) (by simp [cleanB, cleanU])
  obtain ⟨ki, hki⟩ : ∃ z, z = u64 imm := ⟨_, rfl⟩
  have hkl : ki < 18446744073709551616 := by rw [hki]; exact u64_lt _
  have hkv : (ki : Int) = imm := by rw [hki]; unfold u64; omega
  have k1 : convInt .u64 (I6 imm) = some (Un ki) := by rw [conv_u64, hki]
  have k2 : bin Tryd.prog .and 3 true (I6 imm) (.int .i64 63) = some (I6 (imm % 64)) := i64_and63 _ _ _ (by omega) (by omega)
  obtain ⟨kj, hkj⟩ : ∃ z : Nat, (z : Int) = imm % 64 := ⟨(imm % 64).toNat, by omega⟩
  rw [← hkj] at k2
  have k3 : convInt .u64 (Nn kj) = some (Un kj) := by rw [convInt_int, wrap_of_u64 (by omega) (by omega)]
  have ed : doesF ⟨17, d, n, m, a, imm⟩ r f = (setF r d ((if holdsF a f = true then 1 else 0)), f) := by
    unfold doesF madeF
    simp only [Int.reduceEq, or_false, false_or, or_self, or_true, true_or, if_false, if_true, ↓reduceIte]
  rw [ed]
  clear ed
  simp only
  try rw [← hki]
  generalize getF r d = rd at *
  generalize getF r n = rn at *
  generalize getF r m = rm at *
  generalize getF r a = ra at *
  have o1 : ∀ H, pureCall (alembicref17_Holds.f G (k + 6)) [I6 a, f.a] H = _ := fun H => pureCall_of (H := H) (rholds_spec G (k + 5) a f) rfl rfl
  generalize holdsF a f = hh at *
  rw [alembicref17_One.step]
  unfold alembicref17_One.c
  rw [zeroRg, zeroRgL]
  have hZ : (List.replicate 31 0 : List Nat).length = 31 := rfl
  have z1 : buildArr 1 (natsU (List.replicate 31 0)) [] = some (rgV (List.replicate 31 0)) := rfl
  have z2 : buildArr 1 [.bool false, .bool false, .bool false, .bool false] [] = some f00.a := rfl
  have b1 : boxA 44 (rgV (List.replicate 31 0)) [] = some (.ptr 0 1 0 0, [⟨44, 31, [rgV (List.replicate 31 0)]⟩]) := boxRg _ rfl []
  have b2 : boxA 53 (.agg [.bool false, .bool false, .bool false, .bool false]) [⟨44, 31, [rgV (List.replicate 31 0)]⟩] = some (.ptr 1 1 0 0, hp2 (List.replicate 31 0) f00) := rfl
  generalize List.replicate 31 0 = Z at *
  have c0 : ∀ H, boxRoA (rgV r) H = some (.rp false (rgV r) 0, H) := fun H => rfl
  have c1 : ∀ H, boxRoA f.a H = some (.rp false f.a 0, H) := fun H => rfl
  have c2 : ∀ H, loadV G true 31 (.rp false (rgV r) 0) H = some (rgV r) := fun H => by
    rw [q_ldrpT, if_pos (by rw [natsU_len, hr.len]; exact Nat.le_refl _), List.drop_zero, List.take_of_length_le (by rw [natsU_len, hr.len]; exact Nat.le_refl _)]
  have c3 : ∀ H, loadV G true 4 (.rp false f.a 0) H = some f.a := fun H => rfl
  have c4 : ∀ q : List Nat, q.length = 31 → stS (storeV 31 (.ptr 0 1 0 0) (rgV q) (hp2 Z f00)) = some (.tup [], hp2 q f00) := fun q hq => stRgA hq hZ rfl
  have c5 : ∀ (q : List Nat) (g : FL), stS (storeV 4 (.ptr 1 1 0 0) g.a (hp2 q f00)) = some (.tup [], hp2 q g) := fun q g => rfl
  refine e_in ?_
  cases hh
  · simp only [Bool.false_eq_true, if_false, if_true]
    have st' : ∀ H, pureCall (alembicref17_set.f G (k + 6)) [rgV r, I6 d, .int .u64 0] H = some (rgV (setF r d 0), H) := st 0
    have hq := setF_len r hr.len d 0
    generalize setF r d 0 = q at *
    have c4' := c4 q hq
    have c5' := c5 q f
    have fx := And.intro r1 <| And.intro g1 <| And.intro g2 <| And.intro g3 <| And.intro g4 <| And.intro k1 <| And.intro k2 <| And.intro k3 <| And.intro b1 <| And.intro b2 <| And.intro c0 <| And.intro c1 <| And.intro c2 <| And.intro c3 <| And.intro z1 <| And.intro z2 <| And.intro o1 <| And.intro st' <| And.intro c4' <| c5'
    refine wkB ?_
    exact oF (rone_fin G q hq f true)
  · simp only [Bool.false_eq_true, if_false, if_true]
    have st' : ∀ H, pureCall (alembicref17_set.f G (k + 6)) [rgV r, I6 d, .int .u64 1] H = some (rgV (setF r d 1), H) := st 1
    have hq := setF_len r hr.len d 1
    generalize setF r d 1 = q at *
    have c4' := c4 q hq
    have c5' := c5 q f
    have fx := And.intro r1 <| And.intro g1 <| And.intro g2 <| And.intro g3 <| And.intro g4 <| And.intro k1 <| And.intro k2 <| And.intro k3 <| And.intro b1 <| And.intro b2 <| And.intro c0 <| And.intro c1 <| And.intro c2 <| And.intro c3 <| And.intro z1 <| And.intro z2 <| And.intro o1 <| And.intro st' <| And.intro c4' <| c5'
    refine wkB ?_
    exact oF (rone_fin G q hq f true)
theorem rOne_spec (G : Globs) (k : Nat) (i : MI) (r : List Nat) (hr : RgOk r) (f : FL) : alembicref17_One.f G (k + 7) [i.v, rgV r, f.a] [] = some (oneV (oneF i r f), []) := by
  unfold oneF
  by_cases h : rightB i = true ∧ i.op ≤ 17
  · rw [if_pos h]
    have h24 := right24 h.1
    obtain ⟨op, d, n, m, a, imm⟩ := i
    obtain ⟨hw, h17⟩ := h
    simp only at h17 h24
    show alembicref17_One.f G (k + 7) [mV op d n m a imm, rgV r, f.a] [] = _
    have h17' : op = 1 ∨ op = 2 ∨ op = 3 ∨ op = 4 ∨ op = 5 ∨ op = 6 ∨ op = 7 ∨ op = 8 ∨ op = 9 ∨ op = 10 ∨ op = 11 ∨ op = 12 ∨ op = 13 ∨ op = 14 ∨ op = 15 ∨ op = 16 ∨ op = 17 := by omega
    rcases h17' with rfl | rfl | rfl | rfl | rfl | rfl | rfl | rfl | rfl | rfl | rfl | rfl | rfl | rfl | rfl | rfl | rfl
    · exact rone_1 G k d n m a imm hw r hr f
    · exact rone_2 G k d n m a imm hw r hr f
    · exact rone_3 G k d n m a imm hw r hr f
    · exact rone_4 G k d n m a imm hw r hr f
    · exact rone_5 G k d n m a imm hw r hr f
    · exact rone_6 G k d n m a imm hw r hr f
    · exact rone_7 G k d n m a imm hw r hr f
    · exact rone_8 G k d n m a imm hw r hr f
    · exact rone_9 G k d n m a imm hw r hr f
    · exact rone_10 G k d n m a imm hw r hr f
    · exact rone_11 G k d n m a imm hw r hr f
    · exact rone_12 G k d n m a imm hw r hr f
    · exact rone_13 G k d n m a imm hw r hr f
    · exact rone_14 G k d n m a imm hw r hr f
    · exact rone_15 G k d n m a imm hw r hr f
    · exact rone_16 G k d n m a imm hw r hr f
    · exact rone_17 G k d n m a imm hw r hr f
  · rw [if_neg h]
    have r1 : ∀ H, pureCall (alembicref17_Word.f G (k + 6)) [i.v] H = _ := fun H => pureCall_of (H := H) (rword_spec G k i) rfl rfl
    rw [alembicref17_One.step]
    unfold alembicref17_One.c
    rw [zeroRg, zeroRgL]
    have hZ : (List.replicate 31 0 : List Nat).length = 31 := rfl
    have z1 : buildArr 1 (natsU (List.replicate 31 0)) [] = some (rgV (List.replicate 31 0)) := rfl
    have z2 : buildArr 1 [.bool false, .bool false, .bool false, .bool false] [] = some f00.a := rfl
    have b1 : boxA 44 (rgV (List.replicate 31 0)) [] = some (.ptr 0 1 0 0, [⟨44, 31, [rgV (List.replicate 31 0)]⟩]) := boxRg _ rfl []
    have b2 : boxA 53 (.agg [.bool false, .bool false, .bool false, .bool false]) [⟨44, 31, [rgV (List.replicate 31 0)]⟩] = some (.ptr 1 1 0 0, hp2 (List.replicate 31 0) f00) := rfl
    have c0 : ∀ H, boxRoA (rgV r) H = some (.rp false (rgV r) 0, H) := fun H => rfl
    have c1 : ∀ H, boxRoA f.a H = some (.rp false f.a 0, H) := fun H => rfl
    have c4 : stS (storeV 31 (.ptr 0 1 0 0) (rgV (List.replicate 31 0)) (hp2 (List.replicate 31 0) f00)) = some (.tup [], hp2 (List.replicate 31 0) f00) := stRgA hZ hZ rfl
    have c5 : ∀ (q : List Nat) (g : FL), stS (storeV 4 (.ptr 1 1 0 0) g.a (hp2 q f00)) = some (.tup [], hp2 q g) := fun q g => rfl
    generalize List.replicate 31 0 = Z at *
    obtain ⟨op, d, n, m, a, imm⟩ := i
    simp only at h
    generalize rightB ⟨op, d, n, m, a, imm⟩ = b at *
    unfold MI.v at *
    simp only at *
    refine e_in ?_
    cases b
    · have fx := And.intro r1 <| And.intro b1 <| And.intro b2 <| And.intro c0 <| And.intro c1 <| And.intro z1 <| And.intro z2 <| And.intro c4 <| c5
      refine wkB ?_
      exact oF (rone_fin G Z hZ f00 false)
    · have h17 : ¬ op ≤ 17 := fun h2 => h ⟨rfl, h2⟩
      have fx := And.intro r1 <| And.intro b1 <| And.intro b2 <| And.intro c0 <| And.intro c1 <| And.intro z1 <| And.intro z2 <| And.intro c4 <| c5
      refine wkB ?_
      exact oF (rone_fin G Z hZ f00 false)
end Go.Proofs.YtdfglgnflldkpaaDoor.Mir
namespace Go.Proofs.YtdfglgnflldkpaaDoor.Mir
open Go
set_option linter.unusedVariables false
set_option linter.unusedSimpArgs false
set_option maxHeartbeats 8000000
set_option maxRecDepth 20000
/-! ### The blocks of the document's run -/
def QS.tailR (s : QS) : List AV := [.sl 6 s.leaks.length 0 s.leaks.length 2, Nn s.steps]
def QS.cellsR (s : QS) : List AV := I6 s.code :: .sl 2 s.mem.length 0 s.mem.length 1 :: (natsU s.regs ++ s.tailR)
def hpR (b0 : ABlk) (T : AHeap) (s : QS) : AHeap :=
  b0 :: ⟨43, 1, []⟩ :: ⟨43, 1, natsU s.mem⟩ :: ⟨46, 35, [.agg s.cellsR]⟩ :: ⟨53, 4, [s.flags.a]⟩ :: ⟨107, 2, []⟩ :: ⟨107, 2, leaksV s.leaks⟩ :: T
abbrev RX : AV := .ptr 3 1 0 0
section
variable (G : Globs) (b0 : ABlk) (T : AHeap) (s : QS)
theorem rldQ (o : Nat) : loadV G false 1 (.ptr 3 1 0 o) (hpR b0 T s) = s.cellsR[o]? := rfl
theorem rldQT (o z : Nat) : loadV G true z (.ptr 3 1 0 o) (hpR b0 T s) = if o + z ≤ s.cellsR.length then some (.agg ((s.cellsR.drop o).take z)) else none := rfl
variable (hr : s.regs.length = 31)
theorem rcells_at (j : Nat) (hr : s.regs.length = 31) : s.cellsR[33 + j]? = s.tailR[j]? := by
  unfold QS.cellsR
  have e : 33 + j = 31 + j + 1 + 1 := by omega
  rw [e, List.getElem?_cons_succ, List.getElem?_cons_succ, List.getElem?_append_right (by rw [natsU_len]; omega), natsU_len, hr]
  congr 1; omega
theorem rcells_len (hr : s.regs.length = 31) : s.cellsR.length = 35 := by
  simp [QS.cellsR, QS.tailR, natsU_len, hr]
include hr in
theorem rldTail (j : Nat) : loadV G false 1 (.ptr 3 1 0 (33 + j)) (hpR b0 T s) = s.tailR[j]? := by
  rw [rldQ, rcells_at _ _ hr]
include hr in
theorem rld33 : loadV G false 1 (.ptr 3 1 0 33) (hpR b0 T s) = some (.sl 6 s.leaks.length 0 s.leaks.length 2) := rldTail G b0 T s hr 0
include hr in
theorem rld34 : loadV G false 1 (.ptr 3 1 0 34) (hpR b0 T s) = some (Nn s.steps) := rldTail G b0 T s hr 1
theorem rld1 : loadV G false 1 (.ptr 3 1 0 1) (hpR b0 T s) = some (.sl 2 s.mem.length 0 s.mem.length 1) := rfl
include hr in
theorem rldRg : loadV G true 31 (.ptr 3 1 0 2) (hpR b0 T s) = some (rgV s.regs) := by
  rw [rldQT, rcells_len _ hr, if_pos (by omega)]
  have hl : (natsU s.regs).length = 31 := by rw [natsU_len, hr]
  have e : (s.cellsR.drop 2).take 31 = natsU s.regs := by
    unfold QS.cellsR
    rw [show 2 = 0 + 1 + 1 from rfl, List.drop_succ_cons, List.drop_succ_cons, List.drop_zero, List.take_append, hl, List.take_of_length_le (by omega)]
    simp
  rw [e]
theorem rldFl : loadV G true 4 (.ptr 4 1 0 0) (hpR b0 T s) = some s.flags.a := rfl
include hr in
theorem rldAll : loadV G true 35 RX (hpR b0 T s) = some (.agg s.cellsR) := by
  rw [rldQT, rcells_len _ hr, if_pos (by omega), List.drop_zero, List.take_of_length_le (by rw [rcells_len _ hr]; exact Nat.le_refl _)]
theorem rstQ (o : Nat) (v : AV) (hv : storable v = true) (h1 : v.cells = [v]) (ho : o < 35) (hr : s.regs.length = 31) : stS (storeV 1 (.ptr 3 1 0 o) v (hpR b0 T s)) =
    some (.tup [], (hpR b0 T s).set 3 ⟨46, 35, [.agg (putC s.cellsR o [v])]⟩) := by
  have e : (hpR b0 T s)[3]? = some ⟨46, 35, [.agg s.cellsR]⟩ := rfl
  have e2 : (AV.agg s.cellsR).cells = s.cellsR := rfl
  unfold storeV
  simp only [e, List.length_singleton, hv, List.getElem?_cons_zero, h1]
  rw [if_pos (by simp), e2, if_pos (by rw [rcells_len _ hr]; omega)]
  rfl
theorem rput_tail (j : Nat) (v : AV) (hr : s.regs.length = 31) : putC s.cellsR (33 + j) [v] = I6 s.code :: .sl 2 s.mem.length 0 s.mem.length 1 :: (natsU s.regs ++ putC s.tailR j [v]) := by
  have hl : (natsU s.regs).length = 31 := by rw [natsU_len, hr]
  unfold QS.cellsR putC
  rw [show 33 + j = 31 + j + 1 + 1 by omega, List.take_succ_cons, List.take_succ_cons, show 31 + j + 1 + 1 + [v].length = 31 + (j + [v].length) + 1 + 1 by omega, List.drop_succ_cons, List.drop_succ_cons,
    List.take_append, hl, List.take_of_length_le (by omega), List.drop_append, hl, List.drop_of_length_le (by omega)]
  simp only [Nat.add_sub_cancel_left, List.nil_append, List.cons_append, List.append_assoc]
theorem rst0 (n : Int) (hr : s.regs.length = 31) : stS (storeV 1 (.ptr 3 1 0 0) (I6 n) (hpR b0 T s)) = some (.tup [], hpR b0 T { s with code := n }) := rstQ b0 T s 0 (I6 n) rfl rfl (by decide) hr
theorem rst34 (n : Nat) (hr : s.regs.length = 31) : stS (storeV 1 (.ptr 3 1 0 34) (Nn n) (hpR b0 T s)) = some (.tup [], hpR b0 T { s with steps := n }) := by
  rw [rstQ b0 T s 34 (Nn n) rfl rfl (by decide) hr, rput_tail s 1 (Nn n) hr]; rfl
theorem rstFl (f : FL) : stS (storeV 4 (.ptr 4 1 0 0) f.a (hpR b0 T s)) = some (.tup [], hpR b0 T { s with flags := f }) := rfl
theorem rstRg (q : List Nat) (hq : q.length = 31) (hr : s.regs.length = 31) : stS (storeV 31 (.ptr 3 1 0 2) (rgV q) (hpR b0 T s)) = some (.tup [], hpR b0 T { s with regs := q }) := by
  have e : (hpR b0 T s)[3]? = some ⟨46, 35, [.agg s.cellsR]⟩ := rfl
  have e2 : (AV.agg s.cellsR).cells = s.cellsR := rfl
  have e3 : (rgV q).cells = natsU q := rfl
  have hs : storable (rgV q) = true := rfl
  have hl : (natsU s.regs).length = 31 := by rw [natsU_len, hr]
  have hlq : (natsU q).length = 31 := by rw [natsU_len, hq]
  have e4 : putC s.cellsR 2 (natsU q) = QS.cellsR { s with regs := q } := by
    show putC (I6 s.code :: .sl 2 s.mem.length 0 s.mem.length 1 :: (natsU s.regs ++ s.tailR)) 2 _ = I6 s.code :: .sl 2 s.mem.length 0 s.mem.length 1 :: (natsU q ++ s.tailR)
    unfold putC
    rw [hlq, show 2 = 0 + 1 + 1 from rfl, List.take_succ_cons, List.take_succ_cons, List.take_zero, show 0 + 1 + 1 + 31 = 31 + 1 + 1 from rfl, List.drop_succ_cons, List.drop_succ_cons, List.drop_append, hl, List.drop_of_length_le (by omega)]
    simp
  unfold storeV
  simp only [e, List.length_singleton, hs, List.getElem?_cons_zero, e3]
  rw [if_pos (by refine ⟨?_, ?_, ?_⟩ <;> first | trivial | exact hlq), e2, if_pos (by rw [rcells_len _ hr]; decide), e4]
  rfl
theorem rldMem (n : Nat) : idxAddrSl 1 (.sl 2 s.mem.length 0 s.mem.length 1) (Un n) = if n < s.mem.length then some (.ptr 2 s.mem.length n 0) else none := by
  have h0 : (0 : Int) ≤ (n : Int) := by omega
  by_cases h : n < s.mem.length
  · have h' : (n : Int) < (s.mem.length : Int) := by omega
    rw [if_pos h]
    simp [idxAddrSl, h0, h']
  · have h' : ¬ (n : Int) < (s.mem.length : Int) := by omega
    rw [if_neg h]
    simp [idxAddrSl, h0, h']
theorem rldM (j : Nat) (h : j < s.mem.length) : loadV G false 1 (.ptr 2 s.mem.length j 0) (hpR b0 T s) = some (Un (s.mem.getD j 0)) := by
  have e : (hpR b0 T s)[2]? = some ⟨43, 1, natsU s.mem⟩ := rfl
  unfold loadV
  simp only [e, natsU_len, natsU_get _ _ h, if_true]
  rfl
theorem rstM (j x : Nat) (h : j < s.mem.length) : stS (storeV 1 (.ptr 2 s.mem.length j 0) (Un x) (hpR b0 T s)) = some (.tup [], hpR b0 T { s with mem := s.mem.set j x }) := by
  have e : (hpR b0 T s)[2]? = some ⟨43, 1, natsU s.mem⟩ := rfl
  have e2 : QS.cellsR { s with mem := s.mem.set j x } = s.cellsR := by
    unfold QS.cellsR QS.tailR
    simp only [List.length_set]
  unfold storeV
  simp only [e, natsU_len, natsU_get _ _ h]
  unfold hpR
  rw [e2]
  simp only [natsU_set]
  rfl
theorem rapL (p : Int × Int) (hl : s.leaks.length ≤ 1000000) : appendV 107 2 (.sl 6 s.leaks.length 0 s.leaks.length 2) (.ro false [leakV p]) (hpR b0 T s) =
    some (.sl 6 (s.leaks.length + 1) 0 (s.leaks.length + 1) 2, (hpR b0 T s).set 6 ⟨107, 2, leaksV (s.leaks ++ [p])⟩) := by
  have e : (hpR b0 T s)[6]? = some ⟨107, 2, leaksV s.leaks⟩ := rfl
  unfold appendV
  simp only [e, elemsOf, leaksV_len, List.length_singleton]
  rw [if_pos (by refine ⟨?_, ?_, ?_, ?_, ?_⟩ <;> first | trivial | rfl | omega)]
  have e2 : (leaksV s.leaks).take s.leaks.length = leaksV s.leaks := List.take_of_length_le (by rw [leaksV_len]; exact Nat.le_refl _)
  have e3 : (leaksV s.leaks).drop (s.leaks.length + 1) = [] := List.drop_of_length_le (by rw [leaksV_len]; omega)
  rw [e2, e3, List.append_nil]
  have e4 : leaksV s.leaks ++ [leakV p] = leaksV (s.leaks ++ [p]) := by simp [leaksV]
  rw [e4, leaksV_len]; simp
theorem rstL (p : Int × Int) (hr : s.regs.length = 31) : stS (storeV 1 (.ptr 3 1 0 33) (.sl 6 (s.leaks.length + 1) 0 (s.leaks.length + 1) 2) ((hpR b0 T s).set 6 ⟨107, 2, leaksV (s.leaks ++ [p])⟩)) =
    some (.tup [], hpR b0 T (s.leak p.1 p.2)) := by
  have e : ((hpR b0 T s).set 6 ⟨107, 2, leaksV (s.leaks ++ [p])⟩)[3]? = some ⟨46, 35, [.agg s.cellsR]⟩ := rfl
  have e2 : (AV.agg s.cellsR).cells = s.cellsR := rfl
  have e3 : QS.cellsR (s.leak p.1 p.2) = I6 s.code :: .sl 2 s.mem.length 0 s.mem.length 1 :: (natsU s.regs ++ putC s.tailR 0 [.sl 6 (s.leaks.length + 1) 0 (s.leaks.length + 1) 2]) := by
    unfold QS.cellsR QS.tailR QS.leak
    simp only [List.length_append, List.length_singleton]
    rfl
  have e4 := rput_tail s 0 (.sl 6 (s.leaks.length + 1) 0 (s.leaks.length + 1) 2) hr
  unfold storeV
  simp only [e, List.length_singleton, List.getElem?_cons_zero]
  rw [if_pos (by refine ⟨?_, ?_, ?_⟩ <;> first | trivial | rfl), e2, if_pos (by rw [rcells_len _ hr]; decide)]
  have e5 : (AV.sl 6 (s.leaks.length + 1) 0 (s.leaks.length + 1) 2).cells = [.sl 6 (s.leaks.length + 1) 0 (s.leaks.length + 1) 2] := rfl
  have e4' : putC s.cellsR 33 [.sl 6 (s.leaks.length + 1) 0 (s.leaks.length + 1) 2] = _ := e4
  rw [e5, e4', ← e3]
  rfl
theorem belowL_app (n : Nat) : ∀ xs ys : List AV, belowL n xs = true → belowL n ys = true → belowL n (xs ++ ys) = true
  | [], ys, _, h => h
  | x :: xs, ys, h1, h2 => by
    simp only [belowL, Bool.and_eq_true] at h1
    simp [belowL, h1.1, belowL_app n xs ys h1.2 h2]
theorem rcut7 (hb : belowL 7 b0.elems = true) (xs : List AV) (hx : belowL 7 xs = true) : cutH 7 xs (hpR b0 T s) = some (hpR b0 [] s) := by
  have e : (hpR b0 T s).take 7 = hpR b0 [] s := rfl
  have h1 : belowL 7 s.cellsR = true := by
    unfold QS.cellsR
    simp [belowL, belowB, belowL_app, natsU_below, QS.tailR]
  have h2 : heapBelow 7 (hpR b0 [] s) = true := by
    simp [hpR, heapBelow, belowL, belowB, hb, natsU_below, leaksV_below, h1, FL.a]
  unfold cutH
  rw [e, hx, h2]; rfl
theorem rstRes (T' : Nat) (z cs : List AV) (hz : z.length = 35) (hc : cs.length = 35) : stS (storeV 35 (.ptr 0 1 0 0) (.agg cs) (hpR (bR T' z) T s)) = some (.tup [], hpR (bR T' cs) T s) := by
  have e : (hpR (bR T' z) T s)[0]? = some ⟨T', 35, [.agg z]⟩ := rfl
  have e2 : putC z 0 cs = cs := by
    unfold putC
    rw [List.take_zero, List.nil_append, List.drop_of_length_le (by omega), List.append_nil]
  have e3 : (AV.agg cs).cells = cs := rfl
  have e4 : (AV.agg z).cells = z := rfl
  have hs : storable (.agg cs) = true := rfl
  unfold storeV
  simp only [e, List.length_singleton, hs, List.getElem?_cons_zero, e3]
  rw [if_pos (by refine ⟨?_, ?_, ?_⟩ <;> first | trivial | exact hc), e4, if_pos (by omega), e2]
  rfl
end
end Go.Proofs.YtdfglgnflldkpaaDoor.Mir
namespace Go.Proofs.YtdfglgnflldkpaaDoor.Mir
open Go
set_option linter.unusedVariables false
set_option linter.unusedSimpArgs false
set_option maxHeartbeats 8000000
set_option maxRecDepth 20000
theorem idxRo {b : Bool} {xs : List AV} {j : Nat} {k : IntKind} {n : Int} (h : xs[j]? = some (.int k n)) : idxAddrSl 1 (.ro b xs) (Nn j) = some (.rp b (.int k n) 0) := by
  have h0 : (0 : Int) ≤ (j : Int) := by omega
  unfold idxAddrSl
  simp only [Int.toNat_natCast, h]
  rw [if_pos h0]
  rfl
abbrev bZ : ABlk := ⟨46, 35, [.agg (I6 0 :: .nils :: (natsU (List.replicate 31 0) ++ [.nils, .int .i64 0]))]⟩
theorem bZ_below (n : Nat) : belowL n bZ.elems = true := by simp [bZ, belowL, belowB, belowL_app, natsU_below]
def hpW (l : List Nat) : AHeap := [bZ, ⟨43, 1, []⟩, ⟨43, 1, natsU l⟩]
theorem words_loop (G : Globs) (k : Nat) (self : Den) (b : Bool) (mem : List Nat) (hml : mem.length ≤ 1000000) : ∀ (suf pre : List Nat) (f : Nat), mem = pre ++ suf → suf.length < f →
    loopN (alembicref_Words.l3 G k 3 self) f [.ro b (natsU mem), .sl 2 pre.length 0 pre.length 1, Nn pre.length] (hpW pre) = some (.exit 0, [.ro b (natsU mem), .sl 2 mem.length 0 mem.length 1, Nn mem.length], hpW mem)
  | suf, pre, 0, hm, hf => by omega
  | [], pre, f + 1, hm, hf => by
    rw [loopN_succ, alembicref_Words.l3]
    have hl : mem = pre := by rw [hm]; simp
    have hc : cutH 3 [.ro b (natsU mem), .sl 2 pre.length 0 pre.length 1, Nn pre.length] (hpW pre) = some (hpW pre) := by
      have hz := bZ_below 3; simp only [bZ] at hz; simp [cutH, hpW, belowL, belowB, heapBelow, natsU_below, belowL_app]
    have lc : lenSl (.ro b (natsU mem)) = some (I6 mem.length) := by simp [lenSl, natsU_len]
    have q : bin Tryd.prog .lss 3 false (Nn pre.length) (Nn mem.length) = some (.bool false) := by rw [bin_lss, decide_eq_false (by rw [hl]; omega)]
    refine e_id ?_
    refine eC hc ?_
    have fx := And.intro lc <| q
    refine wkA ?_
    rw [hl]
    refine e_out ?_; rfl
  | a :: suf, pre, f + 1, hm, hf => by
    rw [loopN_succ, alembicref_Words.l3]
    have hl : mem.length = pre.length + (suf.length + 1) := by rw [hm]; simp
    have hc : cutH 3 [.ro b (natsU mem), .sl 2 pre.length 0 pre.length 1, Nn pre.length] (hpW pre) = some (hpW pre) := by
      have hz := bZ_below 3; simp only [bZ] at hz; simp [cutH, hpW, belowL, belowB, heapBelow, natsU_below, belowL_app]
    have lc : lenSl (.ro b (natsU mem)) = some (I6 mem.length) := by simp [lenSl, natsU_len]
    have q : bin Tryd.prog .lss 3 false (Nn pre.length) (Nn mem.length) = some (.bool true) := by rw [bin_lss, decide_eq_true (by omega)]
    have ha : mem.getD pre.length 0 = a := by rw [hm]; simp [List.getD]
    have d1 : idxAddrSl 1 (.ro b (natsU mem)) (Nn pre.length) = some (.rp b (Un a) 0) := by
      have := natsU_get mem pre.length (by omega)
      rw [ha] at this
      exact idxRo this
    have d2 : ∀ H, loadV G false 1 (.rp b (Un a) 0) H = some (Un a) := fun H => rfl
    have d3 : appendV 43 1 (.sl 2 pre.length 0 pre.length 1) (.ro false [Un a]) (hpW pre) = some (.sl 2 (pre ++ [a]).length 0 (pre ++ [a]).length 1, hpW (pre ++ [a])) := by
      have e : (hpW pre)[2]? = some ⟨43, 1, natsU pre⟩ := rfl
      unfold appendV
      simp only [e, elemsOf, natsU_len, List.length_singleton]
      rw [if_pos (by refine ⟨?_, ?_, ?_, ?_, ?_⟩ <;> first | trivial | rfl | omega)]
      have e2 : (natsU pre).take pre.length = natsU pre := List.take_of_length_le (by rw [natsU_len]; exact Nat.le_refl _)
      have e3 : (natsU pre).drop (pre.length + 1) = [] := List.drop_of_length_le (by rw [natsU_len]; omega)
      rw [e2, e3, List.append_nil]
      have e4 : natsU pre ++ [Un a] = natsU (pre ++ [a]) := by simp [natsU]
      rw [e4, natsU_len]; simp [hpW]
    have d4 : bin Tryd.prog .add 3 true (Nn pre.length) (.int .i64 1) = some (Nn (pre ++ [a]).length) := by
      rw [bin_add, wrap_of_i64 (by omega) (by omega)]; congr 2; simp
    have ih := words_loop G k self b mem hml suf (pre ++ [a]) f (by rw [hm]; simp) (by simp at hf; omega)
    refine e_id ?_
    refine eC hc ?_
    have fx := And.intro lc <| And.intro q <| And.intro d1 <| And.intro d2 <| And.intro d3 <| d4
    refine wkA ?_
    exact ih
theorem words_spec (G : Globs) (k : Nat) (b : Bool) (mem : List Nat) (hml : mem.length ≤ 1000000) (hk : mem.length < k) : alembicref_Words.f G (k + 1) [.ro b (natsU mem)] [bZ] = some (.sl 2 mem.length 0 mem.length 1, hpW mem) := by
  rw [alembicref_Words.step]
  unfold alembicref_Words.c
  have lc : lenSl (.ro b (natsU mem)) = some (I6 mem.length) := by simp [lenSl, natsU_len]
  have ms : makeSliceV 43 1 (.int .u64 0) (.int .i64 0) (I6 mem.length) [bZ, ⟨43, 1, []⟩] = some (.sl 2 0 0 0 1, hpW []) := by
    unfold makeSliceV
    simp only
    rw [if_pos (by omega)]
    rfl
  have lp : loopN (alembicref_Words.l3 G k 3 (alembicref_Words.f G k)) k [.ro b (natsU mem), .sl 2 0 0 0 1, .int .i64 0] (hpW []) = _ := words_loop G k (alembicref_Words.f G k) b mem hml mem [] k rfl hk
  refine e_in ?_
  have fx := And.intro lc <| ms
  have lx1 := lp
  refine wkA ?_
  refine e_out ?_; rfl
theorem rone_spec (G : Globs) (k : Nat) (b : Bool) : alembicref17_one.f G (k + 1) [.bool b] [] = some (I6 (if b = true then 1 else 0), []) := by
  rw [alembicref17_one.step]
  unfold alembicref17_one.c
  refine e_in ?_
  cases b
  · have fx := True.intro
    refine wkA ?_
    exact w1i rfl
  · have fx := True.intro
    refine wkA ?_
    exact w1i rfl
def xsR (fuel : Int) (bor : Bool) (cs : List Int) (pc : Int) : List AV := [.ro bor (codeW cs), I6 fuel, .ptr 0 1 0 0, RX, .ptr 4 1 0 0, I6 pc]
theorem xsR_below (fuel : Int) (bor : Bool) (cs : List Int) (pc : Int) : belowL 7 (xsR fuel bor cs pc) = true := by simp [xsR, belowL, belowB, codeW_below]
section
variable (G : Globs) (k : Nat) (self : Den) (z : List AV) (hz : z.length = 35) (hzb : belowL 7 z = true) (bor : Bool) (cs : List Int) (fuel : Int) (lp : LoopF)
/-- An instruction's cells. -/
theorem t7v (b0 : ABlk) (i : MI) (l : AHeap) (t : QS) : loadV G true 6 (.ptr 7 1 0 0) (hpR b0 (⟨57, 6, [i.v]⟩ :: l) t) = some i.v := rfl
theorem t70 (b0 : ABlk) (i : MI) (l : AHeap) (t : QS) : loadV G false 1 (.ptr 7 1 0 0) (hpR b0 (⟨57, 6, [i.v]⟩ :: l) t) = some (I6 i.op) := rfl
theorem t71 (b0 : ABlk) (i : MI) (l : AHeap) (t : QS) : loadV G false 1 (.ptr 7 1 0 1) (hpR b0 (⟨57, 6, [i.v]⟩ :: l) t) = some (I6 i.d) := rfl
theorem t72 (b0 : ABlk) (i : MI) (l : AHeap) (t : QS) : loadV G false 1 (.ptr 7 1 0 2) (hpR b0 (⟨57, 6, [i.v]⟩ :: l) t) = some (I6 i.n) := rfl
theorem t74 (b0 : ABlk) (i : MI) (l : AHeap) (t : QS) : loadV G false 1 (.ptr 7 1 0 4) (hpR b0 (⟨57, 6, [i.v]⟩ :: l) t) = some (I6 i.a) := rfl
theorem t75 (b0 : ABlk) (i : MI) (l : AHeap) (t : QS) : loadV G false 1 (.ptr 7 1 0 5) (hpR b0 (⟨57, 6, [i.v]⟩ :: l) t) = some (I6 i.imm) := rfl
/-- What a round does, as an equation: it goes on, or it ends. -/
def roundR (lp : LoopF) (z : List AV) (fuel : Int) (bor : Bool) (cs : List Int) (q : QS × Bool) (m : Option Outc) : Prop :=
  if q.2 = true then ∃ T, m = lp (xsR fuel bor cs q.1.at_) (hpR (bR 46 z) T q.1)
  else ∃ T xs, m = some (.ret, xs, hpR (bR 46 q.1.cellsR) T q.1) ∧ nth xs 2 = .ptr 0 1 0 0
include hz hzb in
theorem round_spec (T0 : AHeap) (s : QS) (hs : s.Ok) (hc : s.code = 3) (h1 : 0 ≤ s.at_) (h2 : s.at_ < cs.length) (h3 : (s.steps : Int) < fuel) (hf : fuel ≤ 99999) (hcl : cs.length ≤ 100000) (w0 : 0 ≤ cs.getD s.at_.toNat 0 ∧ cs.getD s.at_.toNat 0 < 4294967296) :
    roundR lp z fuel bor cs (s.tick.step (cs.getD s.at_.toNat 0)) (alembicref17_RunMach.l4 G (k + 41) 7 self lp (xsR fuel bor cs s.at_) (hpR (bR 46 z) T0 s)) := by
  have few := hs.few
  have lks := hs.leaks
  have hr := hs.rg.len
  have hb : belowL 7 (bR 46 z).elems = true := by simp [bR, belowL, belowB, hzb]
  have hcut := rcut7 (bR 46 z) T0 s hb _ (xsR_below fuel bor cs s.at_)
  rw [alembicref17_RunMach.l4, zeroRg]
  have hZ : (List.replicate 31 0 : List Nat).length = 31 := rfl
  generalize List.replicate 31 0 = Z at *
  have c2 : lenSl (.ro bor (codeW cs)) = some (Nn cs.length) := by simp [lenSl, codeW_len]
  have n0 : bin Tryd.prog .lss 3 true (I6 s.at_) (.int .i64 0) = some (.bool false) := q_lss_f (by omega)
  have n1 : bin Tryd.prog .geq 3 false (I6 s.at_) (Nn cs.length) = some (.bool false) := q_geq_f (by omega)
  have n2 : bin Tryd.prog .geq 2 false (Nn s.steps) (I6 fuel) = some (.bool false) := q_geq_f (by omega)
  have n3 : bin Tryd.prog .add 2 true (Nn s.steps) (.int .i64 1) = some (Nn (s.steps + 1)) := by
    rw [bin_add, wrap_of_i64 (by omega) (by omega)]; congr 2
  have f0 : fieldAddrV 0 RX = some RX := rfl
  have f1 : fieldAddrV 1 RX = some (.ptr 3 1 0 1) := rfl
  have f2 : fieldAddrV 2 RX = some (.ptr 3 1 0 2) := rfl
  have f33 : fieldAddrV 33 RX = some (.ptr 3 1 0 33) := rfl
  have f34 : fieldAddrV 34 RX = some (.ptr 3 1 0 34) := rfl
  have c3 := rld34 G (bR 46 z) [] s hr
  have c4 := rst34 (bR 46 z) [] s (s.steps + 1) hr
  have c5 := rld33 G (bR 46 z) [] { s with steps := s.steps + 1 } hr
  have ll : s.leaks.length ≤ 999990 := by omega
  have c6 := rapL (bR 46 z) [] { s with steps := s.steps + 1 } (1, s.at_) (by simp only; omega)
  have c7 := rstL (bR 46 z) [] { s with steps := s.steps + 1 } (1, s.at_) hr
  have bl : ∀ a b : Int, buildSt [(0, 1), (1, 1)] [(.int .i64 0), (.int .i64 0)] [(0, I6 a), (1, I6 b)] = some (leakV (a, b)) := fun a b => rfl
  have br : ∀ (a b : Int) H, buildRo 2 1 (.agg [(.int .i64 0), (.int .i64 0)]) [(0, leakV (a, b))] H = some (.ro false [leakV (a, b)], H) := fun a b H => rfl
  have bl1 : buildSt [(0, 1), (1, 1)] [(.int .i64 0), (.int .i64 0)] [(0, (.int .i64 1)), (1, I6 s.at_)] = some (leakV (1, s.at_)) := rfl
  have br1 := br 1 s.at_
  have et : (({ s with steps := s.steps + 1 } : QS).leak 1 s.at_) = s.tick := rfl
  simp only at c5 c6 c7
  rw [et] at c7
  have c8 := wAt bor cs s.at_ h1 h2
  have c9 : ∀ w H, loadV G false 1 (.rp bor (W32 w) 0) H = some (W32 w) := fun w H => rfl
  have okt : s.tick.Ok := ⟨hs.rg, hs.mem, by simp [QS.tick, QS.leak]; omega, hs.big, by simp [QS.tick, QS.leak]; omega⟩
  have tll : s.tick.leaks.length ≤ 999995 := by simp [QS.tick, QS.leak]; omega
  have tc : s.tick.code = 3 := hc
  have tat : s.tick.at_ = s.at_ := rfl
  generalize cs.getD s.at_.toNat 0 = w at *
  obtain ⟨t, ht⟩ : ∃ t, t = s.tick := ⟨_, rfl⟩
  rw [← ht] at c7 okt tll tc tat ⊢
  have tr := okt.rg.len
  have of : ∀ H, pureCall (alembicref17_Of.f G (k + 41)) [W32 w] H = some (ofV (ofF w), H) := fun H => pureCall_of (H := H) (rOf_spec G (k + 1) w w0.1 w0.2) rfl (by unfold ofV; split <;> rfl)
  have bx0 : boxA 57 (.agg [.int .i64 0, .int .i64 0, .int .i64 0, .int .i64 0, .int .i64 0, .int .i64 0]) (hpR (bR 46 z) [] t) = some (.ptr 7 1 0 0, hpR (bR 46 z) (TB ⟨0, 0, 0, 0, 0, 0⟩) t) := rfl
  have s7 : ∀ y : MI, stS (storeV 6 (.ptr 7 1 0 0) y.v (hpR (bR 46 z) (TB ⟨0, 0, 0, 0, 0, 0⟩) t)) = some (.tup [], hpR (bR 46 z) (TB y) t) := fun y => rfl
  have rAll : ∀ (T : AHeap) (q : QS), q.regs.length = 31 → loadV G true 35 RX (hpR (bR 46 z) T q) = some (.agg q.cellsR) := fun T q hq => rldAll G (bR 46 z) T q hq
  have sAll : ∀ (T : AHeap) (q : QS), q.regs.length = 31 → stS (storeV 35 (.ptr 0 1 0 0) (.agg q.cellsR) (hpR (bR 46 z) T q)) = some (.tup [], hpR (bR 46 q.cellsR) T q) := fun T q hq => rstRes T q 46 z _ hz (rcells_len q hq)
  unfold roundR QS.step
  cases ho : ofF w with
  | none =>
    have e3 : ({ t with code := 3 } : QS) = t := by rw [← tc]
    simp only
    rw [if_neg (by simp), e3]
    rw [ho] at of
    unfold ofV at of
    simp only at of
    have s7' := s7 ⟨0, 0, 0, 0, 0, 0⟩
    have z2 : (⟨0, 0, 0, 0, 0, 0⟩ : MI).v = mV 0 0 0 0 0 0 := rfl
    rw [z2] at s7'
    have l1 := rAll (TB ⟨0, 0, 0, 0, 0, 0⟩) t tr
    have l2 := sAll (TB ⟨0, 0, 0, 0, 0, 0⟩) t tr
    clear s7 rAll sAll z2
    refine ⟨TB ⟨0, 0, 0, 0, 0, 0⟩, [.ro bor (codeW cs), I6 fuel, .ptr 0 1 0 0, RX, .ptr 4 1 0 0, I6 s.at_], ?_, rfl⟩
    refine e_id ?_
    refine eC hcut ?_
    unfold xsR
    generalize TB ⟨0, 0, 0, 0, 0, 0⟩ = tb at *
    generalize t.cellsR = tcs at *
    generalize leakV (1, s.at_) = lv at *
    have fx := And.intro f0 <| And.intro f1 <| And.intro f2 <| And.intro f33 <| And.intro f34 <| And.intro c2 <| And.intro n0 <| And.intro n1 <| And.intro c3 <| And.intro n2 <| And.intro n3 <| And.intro c4 <| And.intro c5 <| And.intro bl1 <| And.intro br1 <| And.intro c6 <| And.intro c7 <| And.intro c8 <| And.intro c9 <| And.intro of <| And.intro bx0 <| And.intro s7' <| And.intro l1 <| l2
    refine wkB ?_
    refine e_out ?_; rfl
  | some i =>
    have hri := (of_some ho).1
    have h24 := right24 hri
    have hok := (right_ok hri).2
    have him := imm_small hri
    rw [ho] at of
    unfold ofV at of
    simp only at of ⊢
    have s7' := s7 i
    have a70 : fieldAddrV 0 (.ptr 7 1 0 0) = some (.ptr 7 1 0 0) := rfl
    have a71 : fieldAddrV 1 (.ptr 7 1 0 0) = some (.ptr 7 1 0 1) := rfl
    have a72 : fieldAddrV 2 (.ptr 7 1 0 0) = some (.ptr 7 1 0 2) := rfl
    have a74 : fieldAddrV 4 (.ptr 7 1 0 0) = some (.ptr 7 1 0 4) := rfl
    have a75 : fieldAddrV 5 (.ptr 7 1 0 0) = some (.ptr 7 1 0 5) := rfl
    have l70 := fun l t => t70 G (bR 46 z) i l t
    have l71 := fun l t => t71 G (bR 46 z) i l t
    have l72 := fun l t => t72 G (bR 46 z) i l t
    have l74 := fun l t => t74 G (bR 46 z) i l t
    have l75 := fun l t => t75 G (bR 46 z) i l t
    have l7v := fun l t => t7v G (bR 46 z) i l t
    have pc1 : bin Tryd.prog .add 3 true (I6 s.at_) (.int .i64 1) = some (I6 (s.at_ + 1)) := q_add (by omega) (by omega)
    have g : ∀ j, 0 ≤ j → j ≤ 31 → ∀ H, pureCall (alembicref17_get.f G (k + 41)) [rgV t.regs, I6 j] H = some (Un (getF t.regs j), H) := fun j h0 h1 H => pureCall_of (H := H) (rget_spec G (k + 40) t.regs tr j h0 h1) (by simp [plainL, plainB, plainU]) rfl
    have gn := g i.n hok.n.1 hok.n.2
    have gd_ := g i.d hok.d.1 hok.d.2
    clear g s7
    have atn : t.next.at_ = s.at_ + 1 := by rw [← tat]; rfl
    unfold QS.act
    by_cases t1 : i.op = 18 ∨ i.op = 19
    · rw [if_pos t1]
      have rg := rldRg G (bR 46 z) (TB i) t tr
      have d10 : convInt .u64 (I6 i.imm) = some (Un (u64 i.imm)) := conv_u64 ..
      have d11 : bin Tryd.prog .mul 43 true (.int .u64 8) (Un (u64 i.imm)) = some (Un (8 * u64 i.imm % 18446744073709551616)) := u64_mul Tryd.prog 43 true 8 (u64 i.imm)
      have ea : t.next.addr i = t.addr i := rfl
      have d12 : bin Tryd.prog .add 43 false (Un (getF t.regs i.n)) (Un (8 * u64 i.imm % 18446744073709551616)) = some (Un (t.addr i)) := u64_add ..
      have hal : t.addr i < 18446744073709551616 := by unfold QS.addr; exact Nat.mod_lt _ (by decide)
      unfold QS.touch
      rw [ea]
      generalize t.addr i = ad at *
      have d13 := conv_i64 ad hal
      have x33 := rld33 G (bR 46 z) (TB i) t tr
      have x6 := rapL (bR 46 z) (TB i) t (3, s64 ad) (by omega)
      have x7 := rstL (bR 46 z) (TB i) t (3, s64 ad) tr
      have bl3 : buildSt [(0, 1), (1, 1)] [(.int .i64 0), (.int .i64 0)] [(0, (.int .i64 3)), (1, I6 (s64 ad))] = some (leakV (3, s64 ad)) := rfl
      have br3 := br 3 (s64 ad)
      obtain ⟨t2, ht2⟩ : ∃ t2, t2 = t.leak 3 (s64 ad) := ⟨_, rfl⟩
      simp only at x7
      rw [← ht2] at x7
      have hm1 : t2.mem = t.mem := by rw [ht2]; rfl
      have hr1 : t2.regs = t.regs := by rw [ht2]; rfl
      have tr2 : t2.regs.length = 31 := by rw [hr1]; exact tr
      have d15 := u64_rem8 Tryd.prog 43 true ad
      have d16 := u64_quo8 Tryd.prog 43 true ad hal
      have d17 := rld1 G (bR 46 z) (TB i) t2
      have d18 : lenSl (.sl 2 t2.mem.length 0 t2.mem.length 1) = some (Nn t2.mem.length) := rfl
      have tb := okt.big
      have d19 : convInt .u64 (Nn t2.mem.length) = some (Un t2.mem.length) := by rw [convInt_int, wrap_of_u64 (by omega) (by rw [hm1]; omega)]
      have d20 : bin Tryd.prog .neq 43 true (Un (ad % 8)) (.int .u64 0) = some (.bool (decide (ad % 8 ≠ 0))) := by rw [bin_neq]; congr 2; simp only [decide_eq_decide]; omega
      have d21 : bin Tryd.prog .geq 43 false (Un (ad / 8)) (Un t2.mem.length) = some (.bool (decide (t.mem.length ≤ ad / 8))) := by rw [bin_geq, hm1]; congr 2; simp only [decide_eq_decide]; omega
      have nm : t.next.mem = t.mem := rfl
      have nr : t.next.regs = t.regs := rfl
      by_cases hbad : ad % 8 ≠ 0 ∨ t.mem.length ≤ ad / 8
      · rw [nm, if_pos hbad]
        simp only [Bool.false_eq_true, if_false]
        have e4 : ({ t.next.leak 3 (s64 ad) with code := 3 } : QS) = { t2 with at_ := s.at_ + 1 } := by
          rw [ht2, ← tc, ← tat]; rfl
        rw [e4]
        have l1 := rAll (TB i) t2 tr2
        have l2 := sAll (TB i) t2 tr2
        have e5 : ({ t2 with at_ := s.at_ + 1 } : QS).cellsR = t2.cellsR := rfl
        rw [e5]
        clear ht2 e4 e5 ea rAll sAll hm1 hr1 atn
        refine ⟨TB i, [.ro bor (codeW cs), I6 fuel, .ptr 0 1 0 0, RX, .ptr 4 1 0 0, I6 s.at_], ?_, rfl⟩
        show _ = some (Ex.ret, _, hpR (bR 46 t2.cellsR) (TB i) t2)
        refine e_id ?_
        refine eC hcut ?_
        unfold xsR
        generalize t2.cellsR = tcs at *
        generalize leakV (1, s.at_) = lv at *
        generalize leakV (3, s64 ad) = lv3 at *
        generalize 8 * u64 i.imm % 18446744073709551616 = u8i at *
        by_cases hx : ad % 8 ≠ 0
        · rw [decide_eq_true hx] at d20
          have fx := And.intro f0 <| And.intro f1 <| And.intro f2 <| And.intro f33 <| And.intro f34 <| And.intro c2 <| And.intro n0 <| And.intro n1 <| And.intro c3 <| And.intro n2 <| And.intro n3 <| And.intro c4 <| And.intro c5 <| And.intro bl1 <| And.intro br1 <| And.intro c6 <| And.intro c7 <| And.intro c8 <| And.intro c9 <| And.intro of <| And.intro bx0 <| And.intro s7' <| And.intro a70 <| And.intro a71 <| And.intro a72 <| And.intro a74 <| And.intro a75 <| And.intro l70 <| And.intro pc1 <| And.intro l72 <| And.intro l75 <| And.intro rg <| And.intro gn <| And.intro d10 <| And.intro d11 <| And.intro d12 <| And.intro d13 <| And.intro x33 <| And.intro x6 <| And.intro x7 <| And.intro bl3 <| And.intro br3 <| And.intro d15 <| And.intro d16 <| And.intro d17 <| And.intro d18 <| And.intro d19 <| And.intro d20 <| And.intro d21 <| And.intro l1 <| l2
          refine wkA ?_
          all_goals first | omega | (refine e_out ?_; rfl)
        · rw [decide_eq_false hx] at d20
          rw [decide_eq_true (by rcases hbad with h | h; exact absurd h hx; exact h)] at d21
          have fx := And.intro f0 <| And.intro f1 <| And.intro f2 <| And.intro f33 <| And.intro f34 <| And.intro c2 <| And.intro n0 <| And.intro n1 <| And.intro c3 <| And.intro n2 <| And.intro n3 <| And.intro c4 <| And.intro c5 <| And.intro bl1 <| And.intro br1 <| And.intro c6 <| And.intro c7 <| And.intro c8 <| And.intro c9 <| And.intro of <| And.intro bx0 <| And.intro s7' <| And.intro a70 <| And.intro a71 <| And.intro a72 <| And.intro a74 <| And.intro a75 <| And.intro l70 <| And.intro pc1 <| And.intro l72 <| And.intro l75 <| And.intro rg <| And.intro gn <| And.intro d10 <| And.intro d11 <| And.intro d12 <| And.intro d13 <| And.intro x33 <| And.intro x6 <| And.intro x7 <| And.intro bl3 <| And.intro br3 <| And.intro d15 <| And.intro d16 <| And.intro d17 <| And.intro d18 <| And.intro d19 <| And.intro d20 <| And.intro d21 <| And.intro l1 <| l2
          refine wkA ?_
          all_goals first | omega | (refine e_out ?_; rfl)
      rw [nm, if_neg hbad]
      have hb1 : ¬ (ad % 8 ≠ 0) := fun h => hbad (.inl h)
      have hb2 : ¬ (t.mem.length ≤ ad / 8) := fun h => hbad (.inr h)
      rw [decide_eq_false hb1] at d20
      rw [decide_eq_false hb2] at d21
      have d37 := rldMem t2 (ad / 8)
      rw [if_pos (by rw [hm1]; omega)] at d37
      have rg2 := rldRg G (bR 46 z) (TB i) t2 tr2
      rw [hr1] at rg2
      by_cases h18 : i.op = 18
      · rw [if_pos h18]
        simp only [if_true]
        have d38 := rldM G (bR 46 z) (TB i) t2 (ad / 8) (by rw [hm1]; omega)
        have em : t2.mem.getD (ad / 8) 0 = t.mem.getD (ad / 8) 0 := by rw [hm1]
        rw [em] at d38
        have st : ∀ H, pureCall (alembicref17_set.f G (k + 41)) [rgV t.regs, I6 i.d, Un (t.mem.getD (ad / 8) 0)] H = some (rgV (setF t.regs i.d (t.mem.getD (ad / 8) 0)), H) := fun H => pureCall_of (H := H) (rset_spec G (k + 40) t.regs tr i.d hok.d.1 hok.d.2 _) (by simp [plainL, plainB, plainU]) (by simp [cleanB, cleanU])
        have d40 := rstRg (bR 46 z) (TB i) t2 (setF t.regs i.d (t.mem.getD (ad / 8) 0)) (setF_len _ tr _ _) tr2
        refine ⟨TB i, ?_⟩
        have e6 : hpR (bR 46 z) (TB i) { t.next.leak 3 (s64 ad) with regs := setF t.next.regs i.d (t.mem.getD (ad / 8) 0) } = hpR (bR 46 z) (TB i) { t2 with regs := setF t.regs i.d (t.mem.getD (ad / 8) 0) } := by
          rw [ht2]; rfl
        have e7 : (t.next.leak 3 (s64 ad)).at_ = s.at_ + 1 := atn
        rw [e6, e7]
        clear ht2 e6 e7 ea rAll sAll hm1 hr1 atn em
        refine e_id ?_
        refine eC hcut ?_
        unfold xsR
        generalize leakV (1, s.at_) = lv at *
        generalize leakV (3, s64 ad) = lv3 at *
        generalize 8 * u64 i.imm % 18446744073709551616 = u8i at *
        generalize t.mem.getD (ad / 8) 0 = mv at *
        generalize setF t.regs i.d mv = rq at *
        have fx := And.intro f0 <| And.intro f1 <| And.intro f2 <| And.intro f33 <| And.intro f34 <| And.intro c2 <| And.intro n0 <| And.intro n1 <| And.intro c3 <| And.intro n2 <| And.intro n3 <| And.intro c4 <| And.intro c5 <| And.intro bl1 <| And.intro br1 <| And.intro c6 <| And.intro c7 <| And.intro c8 <| And.intro c9 <| And.intro of <| And.intro bx0 <| And.intro s7' <| And.intro a70 <| And.intro a71 <| And.intro a72 <| And.intro a74 <| And.intro a75 <| And.intro l70 <| And.intro pc1 <| And.intro l71 <| And.intro l72 <| And.intro l75 <| And.intro rg <| And.intro rg2 <| And.intro gn <| And.intro d10 <| And.intro d11 <| And.intro d12 <| And.intro d13 <| And.intro x33 <| And.intro x6 <| And.intro x7 <| And.intro bl3 <| And.intro br3 <| And.intro d15 <| And.intro d16 <| And.intro d17 <| And.intro d18 <| And.intro d19 <| And.intro d20 <| And.intro d21 <| And.intro d37 <| And.intro d38 <| And.intro st <| d40
        refine wkA ?_
        all_goals first | omega | (refine e_out ?_; rfl)
      · rw [if_neg h18]
        simp only [if_true]
        have d40 := rstM (bR 46 z) (TB i) t2 (ad / 8) (getF t.regs i.d) (by rw [hm1]; omega)
        refine ⟨TB i, ?_⟩
        have e6 : hpR (bR 46 z) (TB i) { t.next.leak 3 (s64 ad) with mem := t.mem.set (ad / 8) (getF t.next.regs i.d) } = hpR (bR 46 z) (TB i) { t2 with mem := t2.mem.set (ad / 8) (getF t.regs i.d) } := by
          rw [ht2]; rfl
        have e7 : (t.next.leak 3 (s64 ad)).at_ = s.at_ + 1 := atn
        rw [e6, e7]
        clear ht2 e6 e7 ea rAll sAll hm1 hr1 atn
        refine e_id ?_
        refine eC hcut ?_
        unfold xsR
        generalize leakV (1, s.at_) = lv at *
        generalize leakV (3, s64 ad) = lv3 at *
        generalize 8 * u64 i.imm % 18446744073709551616 = u8i at *
        generalize getF t.regs i.d = rd at *
        have fx := And.intro f0 <| And.intro f1 <| And.intro f2 <| And.intro f33 <| And.intro f34 <| And.intro c2 <| And.intro n0 <| And.intro n1 <| And.intro c3 <| And.intro n2 <| And.intro n3 <| And.intro c4 <| And.intro c5 <| And.intro bl1 <| And.intro br1 <| And.intro c6 <| And.intro c7 <| And.intro c8 <| And.intro c9 <| And.intro of <| And.intro bx0 <| And.intro s7' <| And.intro a70 <| And.intro a71 <| And.intro a72 <| And.intro a74 <| And.intro a75 <| And.intro l70 <| And.intro pc1 <| And.intro l71 <| And.intro l72 <| And.intro l75 <| And.intro rg <| And.intro rg2 <| And.intro gn <| And.intro gd_ <| And.intro d10 <| And.intro d11 <| And.intro d12 <| And.intro d13 <| And.intro x33 <| And.intro x6 <| And.intro x7 <| And.intro bl3 <| And.intro br3 <| And.intro d15 <| And.intro d16 <| And.intro d17 <| And.intro d18 <| And.intro d19 <| And.intro d20 <| And.intro d21 <| And.intro d37 <| d40
        refine wkA ?_
        all_goals first | omega | (refine e_out ?_; rfl)
    rw [if_neg t1]
    by_cases t2 : i.op = 20 ∨ i.op = 21 ∨ i.op = 22 ∨ i.op = 23
    · rw [if_pos t2]
      simp only [if_true]
      unfold QS.branch
      have jp : bin Tryd.prog .add 3 false (I6 s.at_) (I6 i.imm) = some (I6 (s.at_ + i.imm)) := q_add (by omega) (by omega)
      have eat : t.next.at_ + (i.imm - 1) = s.at_ + i.imm := by rw [atn]; omega
      by_cases h20 : i.op = 20
      · rw [if_pos h20]
        refine ⟨TB i, ?_⟩
        simp only
        rw [eat]
        show _ = lp _ (hpR (bR 46 z) (TB i) t)
        clear rAll sAll ht
        refine e_id ?_
        refine eC hcut ?_
        unfold xsR
        generalize leakV (1, s.at_) = lv at *
        generalize s.at_ + i.imm = at2 at *
        have fx := And.intro f0 <| And.intro f1 <| And.intro f2 <| And.intro f33 <| And.intro f34 <| And.intro c2 <| And.intro n0 <| And.intro n1 <| And.intro c3 <| And.intro n2 <| And.intro n3 <| And.intro c4 <| And.intro c5 <| And.intro bl1 <| And.intro br1 <| And.intro c6 <| And.intro c7 <| And.intro c8 <| And.intro c9 <| And.intro of <| And.intro bx0 <| And.intro s7' <| And.intro a70 <| And.intro a71 <| And.intro a72 <| And.intro a74 <| And.intro a75 <| And.intro l70 <| And.intro pc1 <| And.intro l75 <| jp
        refine wkA ?_
        all_goals first | omega | (refine e_out ?_; rfl)
      rw [if_neg h20]
      have fl := rldFl G (bR 46 z) (TB i) t
      have rg := rldRg G (bR 46 z) (TB i) t tr
      have hh : ∀ H, pureCall (alembicref17_Holds.f G (k + 41)) [I6 i.a, t.flags.a] H = _ := fun H => pureCall_of (H := H) (rholds_spec G (k + 40) i.a t.flags) (by simp [plainL, plainB, FL.a]) rfl
      have e1 : bin Tryd.prog .eql 43 true (Un (getF t.regs i.d)) (.int .u64 0) = some (.bool (decide (getF t.regs i.d = 0))) := by rw [bin_eql]; congr 2; simp only [decide_eq_decide]; omega
      have e22 : bin Tryd.prog .eql 3 true (I6 i.op) (.int .i64 22) = some (.bool (decide (i.op = 22))) := bin_eql ..
      have eb : bin Tryd.prog .eql 4 false (.bool (decide (getF t.regs i.d = 0))) (.bool (decide (i.op = 22))) = some (.bool (decide (getF t.regs i.d = 0) == decide (i.op = 22))) := bin_eql_bool Tryd.underlying4 ..
      have n21 : bin Tryd.prog .neq 3 true (I6 i.op) (.int .i64 21) = some (.bool (decide (i.op ≠ 21))) := bin_neq ..
      have gg : t.next.goes i = if i.op = 21 then holdsF i.a t.flags else (decide (getF t.regs i.d = 0) == decide (i.op = 22)) := by
        unfold QS.goes
        have q1 : t.next.flags = t.flags := rfl
        have q2 : t.next.regs = t.regs := rfl
        rw [q1, q2]
        by_cases h21 : i.op = 21
        · rw [if_pos h21, if_pos h21]
        rw [if_neg h21, if_neg h21]
        by_cases h22 : i.op = 22
        · rw [if_pos h22, decide_eq_true h22]; simp
        · rw [if_neg h22, decide_eq_false h22]; by_cases h : getF t.regs i.d = 0 <;> simp [h]
      have x33 := rld33 G (bR 46 z) (TB i) t tr
      have one : ∀ b H, pureCall (alembicref17_one.f G (k + 41)) [.bool b] H = some (I6 (if b = true then 1 else 0), H) := fun b H => pureCall_of (H := H) (rone_spec G (k + 40) b) rfl rfl
      cases hg : t.next.goes i
      · have x6 := rapL (bR 46 z) (TB i) t (2, 0) (by omega)
        have x7 := rstL (bR 46 z) (TB i) t (2, 0) tr
        have bl3 : buildSt [(0, 1), (1, 1)] [(.int .i64 0), (.int .i64 0)] [(0, (.int .i64 2)), (1, .int .i64 0)] = some (leakV (2, 0)) := rfl
        have br3 := br 2 0
        have ob : ∀ H, pureCall (alembicref17_one.f G (k + 41)) [.bool false] H = some (.int .i64 0, H) := fun H => one false H
        simp only at x7
        simp only [Bool.false_eq_true, if_false]
        rw [hg] at gg
        refine ⟨TB i, ?_⟩
        have ez : (t.next.leak 2 0).at_ = s.at_ + 1 := atn
        rw [ez]
        show _ = lp _ (hpR (bR 46 z) (TB i) (t.leak 2 0))
        clear rAll sAll ht one br bl hg
        refine e_id ?_
        refine eC hcut ?_
        unfold xsR
        generalize leakV (1, s.at_) = lv at *
        generalize t.leak 2 0 = tl at *
        generalize leakV (2, 0) = lv2 at *
        skip
        generalize holdsF i.a t.flags = hhh at *
        generalize decide (getF t.regs i.d = 0) = gz1 at *
        generalize getF t.regs i.d = rd at *
        by_cases h21 : i.op = 21
        · rw [if_pos h21] at gg
          rw [← gg] at hh
          rw [decide_eq_false (fun h => h h21)] at n21
          have fx := And.intro f0 <| And.intro f1 <| And.intro f2 <| And.intro f33 <| And.intro f34 <| And.intro c2 <| And.intro n0 <| And.intro n1 <| And.intro c3 <| And.intro n2 <| And.intro n3 <| And.intro c4 <| And.intro c5 <| And.intro bl1 <| And.intro br1 <| And.intro c6 <| And.intro c7 <| And.intro c8 <| And.intro c9 <| And.intro of <| And.intro bx0 <| And.intro s7' <| And.intro a70 <| And.intro a71 <| And.intro a72 <| And.intro a74 <| And.intro a75 <| And.intro l70 <| And.intro pc1 <| And.intro l71 <| And.intro l74 <| And.intro l75 <| And.intro fl <| And.intro rg <| And.intro hh <| And.intro gd_ <| And.intro e1 <| And.intro e22 <| And.intro eb <| And.intro n21 <| And.intro x33 <| And.intro ob <| And.intro x6 <| And.intro x7 <| And.intro bl3 <| And.intro br3 <| jp
          refine wkA ?_
          all_goals first | omega | (refine e_out ?_; rfl)
        · rw [if_neg h21] at gg
          rw [← gg] at eb
          rw [decide_eq_true h21] at n21
          by_cases h22 : i.op = 22
          · rw [decide_eq_true h22] at e22 eb
            have fx := And.intro f0 <| And.intro f1 <| And.intro f2 <| And.intro f33 <| And.intro f34 <| And.intro c2 <| And.intro n0 <| And.intro n1 <| And.intro c3 <| And.intro n2 <| And.intro n3 <| And.intro c4 <| And.intro c5 <| And.intro bl1 <| And.intro br1 <| And.intro c6 <| And.intro c7 <| And.intro c8 <| And.intro c9 <| And.intro of <| And.intro bx0 <| And.intro s7' <| And.intro a70 <| And.intro a71 <| And.intro a72 <| And.intro a74 <| And.intro a75 <| And.intro l70 <| And.intro pc1 <| And.intro l71 <| And.intro l74 <| And.intro l75 <| And.intro fl <| And.intro rg <| And.intro hh <| And.intro gd_ <| And.intro e1 <| And.intro e22 <| And.intro eb <| And.intro n21 <| And.intro x33 <| And.intro ob <| And.intro x6 <| And.intro x7 <| And.intro bl3 <| And.intro br3 <| jp
            refine wkA ?_
            all_goals first | omega | (refine e_out ?_; rfl)
          · rw [decide_eq_false h22] at e22 eb
            have fx := And.intro f0 <| And.intro f1 <| And.intro f2 <| And.intro f33 <| And.intro f34 <| And.intro c2 <| And.intro n0 <| And.intro n1 <| And.intro c3 <| And.intro n2 <| And.intro n3 <| And.intro c4 <| And.intro c5 <| And.intro bl1 <| And.intro br1 <| And.intro c6 <| And.intro c7 <| And.intro c8 <| And.intro c9 <| And.intro of <| And.intro bx0 <| And.intro s7' <| And.intro a70 <| And.intro a71 <| And.intro a72 <| And.intro a74 <| And.intro a75 <| And.intro l70 <| And.intro pc1 <| And.intro l71 <| And.intro l74 <| And.intro l75 <| And.intro fl <| And.intro rg <| And.intro hh <| And.intro gd_ <| And.intro e1 <| And.intro e22 <| And.intro eb <| And.intro n21 <| And.intro x33 <| And.intro ob <| And.intro x6 <| And.intro x7 <| And.intro bl3 <| And.intro br3 <| jp
            refine wkA ?_
            all_goals first | omega | (refine e_out ?_; rfl)
      · have x6 := rapL (bR 46 z) (TB i) t (2, 1) (by omega)
        have x7 := rstL (bR 46 z) (TB i) t (2, 1) tr
        have bl3 : buildSt [(0, 1), (1, 1)] [(.int .i64 0), (.int .i64 0)] [(0, (.int .i64 2)), (1, .int .i64 1)] = some (leakV (2, 1)) := rfl
        have br3 := br 2 1
        have ob : ∀ H, pureCall (alembicref17_one.f G (k + 41)) [.bool true] H = some (.int .i64 1, H) := fun H => one true H
        simp only at x7
        simp only [if_true]
        rw [hg] at gg
        refine ⟨TB i, ?_⟩
        rw [eat]
        show _ = lp _ (hpR (bR 46 z) (TB i) (t.leak 2 1))
        skip
        clear rAll sAll ht one br bl hg
        refine e_id ?_
        refine eC hcut ?_
        unfold xsR
        generalize leakV (1, s.at_) = lv at *
        generalize t.leak 2 1 = tl at *
        generalize leakV (2, 1) = lv2 at *
        generalize s.at_ + i.imm = at2 at *
        generalize holdsF i.a t.flags = hhh at *
        generalize decide (getF t.regs i.d = 0) = gz1 at *
        generalize getF t.regs i.d = rd at *
        by_cases h21 : i.op = 21
        · rw [if_pos h21] at gg
          rw [← gg] at hh
          rw [decide_eq_false (fun h => h h21)] at n21
          have fx := And.intro f0 <| And.intro f1 <| And.intro f2 <| And.intro f33 <| And.intro f34 <| And.intro c2 <| And.intro n0 <| And.intro n1 <| And.intro c3 <| And.intro n2 <| And.intro n3 <| And.intro c4 <| And.intro c5 <| And.intro bl1 <| And.intro br1 <| And.intro c6 <| And.intro c7 <| And.intro c8 <| And.intro c9 <| And.intro of <| And.intro bx0 <| And.intro s7' <| And.intro a70 <| And.intro a71 <| And.intro a72 <| And.intro a74 <| And.intro a75 <| And.intro l70 <| And.intro pc1 <| And.intro l71 <| And.intro l74 <| And.intro l75 <| And.intro fl <| And.intro rg <| And.intro hh <| And.intro gd_ <| And.intro e1 <| And.intro e22 <| And.intro eb <| And.intro n21 <| And.intro x33 <| And.intro ob <| And.intro x6 <| And.intro x7 <| And.intro bl3 <| And.intro br3 <| jp
          refine wkA ?_
          all_goals first | omega | (refine e_out ?_; rfl)
        · rw [if_neg h21] at gg
          rw [← gg] at eb
          rw [decide_eq_true h21] at n21
          by_cases h22 : i.op = 22
          · rw [decide_eq_true h22] at e22 eb
            have fx := And.intro f0 <| And.intro f1 <| And.intro f2 <| And.intro f33 <| And.intro f34 <| And.intro c2 <| And.intro n0 <| And.intro n1 <| And.intro c3 <| And.intro n2 <| And.intro n3 <| And.intro c4 <| And.intro c5 <| And.intro bl1 <| And.intro br1 <| And.intro c6 <| And.intro c7 <| And.intro c8 <| And.intro c9 <| And.intro of <| And.intro bx0 <| And.intro s7' <| And.intro a70 <| And.intro a71 <| And.intro a72 <| And.intro a74 <| And.intro a75 <| And.intro l70 <| And.intro pc1 <| And.intro l71 <| And.intro l74 <| And.intro l75 <| And.intro fl <| And.intro rg <| And.intro hh <| And.intro gd_ <| And.intro e1 <| And.intro e22 <| And.intro eb <| And.intro n21 <| And.intro x33 <| And.intro ob <| And.intro x6 <| And.intro x7 <| And.intro bl3 <| And.intro br3 <| jp
            refine wkA ?_
            all_goals first | omega | (refine e_out ?_; rfl)
          · rw [decide_eq_false h22] at e22 eb
            have fx := And.intro f0 <| And.intro f1 <| And.intro f2 <| And.intro f33 <| And.intro f34 <| And.intro c2 <| And.intro n0 <| And.intro n1 <| And.intro c3 <| And.intro n2 <| And.intro n3 <| And.intro c4 <| And.intro c5 <| And.intro bl1 <| And.intro br1 <| And.intro c6 <| And.intro c7 <| And.intro c8 <| And.intro c9 <| And.intro of <| And.intro bx0 <| And.intro s7' <| And.intro a70 <| And.intro a71 <| And.intro a72 <| And.intro a74 <| And.intro a75 <| And.intro l70 <| And.intro pc1 <| And.intro l71 <| And.intro l74 <| And.intro l75 <| And.intro fl <| And.intro rg <| And.intro hh <| And.intro gd_ <| And.intro e1 <| And.intro e22 <| And.intro eb <| And.intro n21 <| And.intro x33 <| And.intro ob <| And.intro x6 <| And.intro x7 <| And.intro bl3 <| And.intro br3 <| jp
            refine wkA ?_
            all_goals first | omega | (refine e_out ?_; rfl)
    rw [if_neg t2]
    by_cases t3 : i.op = 24
    · rw [if_pos t3]
      simp only [Bool.false_eq_true, if_false]
      by_cases t4 : i.imm ≤ 2
      · rw [if_pos t4]
        have q4 : bin Tryd.prog .leq 3 true (I6 i.imm) (.int .i64 2) = some (.bool true) := q_leq_t t4
        have x0 := rst0 (bR 46 z) (TB i) t i.imm tr
        have l1 := rAll (TB i) { t with code := i.imm } tr
        have l2 := sAll (TB i) { t with code := i.imm } tr
        refine ⟨TB i, [.ro bor (codeW cs), I6 fuel, .ptr 0 1 0 0, RX, .ptr 4 1 0 0, I6 s.at_], ?_, rfl⟩
        show _ = some (Ex.ret, _, hpR (bR 46 (QS.cellsR { t with code := i.imm })) (TB i) { t with code := i.imm })
        clear rAll sAll ht br bl
        refine e_id ?_
        refine eC hcut ?_
        unfold xsR
        generalize leakV (1, s.at_) = lv at *
        generalize (QS.cellsR { t with code := i.imm }) = tcs at *
        have fx := And.intro f0 <| And.intro f1 <| And.intro f2 <| And.intro f33 <| And.intro f34 <| And.intro c2 <| And.intro n0 <| And.intro n1 <| And.intro c3 <| And.intro n2 <| And.intro n3 <| And.intro c4 <| And.intro c5 <| And.intro bl1 <| And.intro br1 <| And.intro c6 <| And.intro c7 <| And.intro c8 <| And.intro c9 <| And.intro of <| And.intro bx0 <| And.intro s7' <| And.intro a70 <| And.intro a71 <| And.intro a72 <| And.intro a74 <| And.intro a75 <| And.intro l70 <| And.intro pc1 <| And.intro l75 <| And.intro q4 <| And.intro x0 <| And.intro l1 <| l2
        refine wkA ?_
        all_goals first | omega | (refine e_out ?_; rfl)
      · rw [if_neg t4]
        have q4 : bin Tryd.prog .leq 3 true (I6 i.imm) (.int .i64 2) = some (.bool false) := q_leq_f (by omega)
        have l1 := rAll (TB i) t tr
        have l2 := sAll (TB i) t tr
        have e5 : ({ t.next with code := 3 } : QS) = { t with at_ := s.at_ + 1 } := by rw [← tc, ← tat]; rfl
        rw [e5]
        refine ⟨TB i, [.ro bor (codeW cs), I6 fuel, .ptr 0 1 0 0, RX, .ptr 4 1 0 0, I6 s.at_], ?_, rfl⟩
        show _ = some (Ex.ret, _, hpR (bR 46 t.cellsR) (TB i) t)
        clear rAll sAll ht br bl e5
        refine e_id ?_
        refine eC hcut ?_
        unfold xsR
        generalize leakV (1, s.at_) = lv at *
        generalize t.cellsR = tcs at *
        have fx := And.intro f0 <| And.intro f1 <| And.intro f2 <| And.intro f33 <| And.intro f34 <| And.intro c2 <| And.intro n0 <| And.intro n1 <| And.intro c3 <| And.intro n2 <| And.intro n3 <| And.intro c4 <| And.intro c5 <| And.intro bl1 <| And.intro br1 <| And.intro c6 <| And.intro c7 <| And.intro c8 <| And.intro c9 <| And.intro of <| And.intro bx0 <| And.intro s7' <| And.intro a70 <| And.intro a71 <| And.intro a72 <| And.intro a74 <| And.intro a75 <| And.intro l70 <| And.intro pc1 <| And.intro l75 <| And.intro q4 <| And.intro l1 <| l2
        refine wkA ?_
        all_goals first | omega | (refine e_out ?_; rfl)
    rw [if_neg t3]
    simp only [if_true]
    have h17 : i.op ≤ 17 := by omega
    have rg := rldRg G (bR 46 z) (TB i) t tr
    have fl := rldFl G (bR 46 z) (TB i) t
    have pl : plainL [i.v, rgV t.regs, t.flags.a] = true := by simp [plainL, plainB, plainU, MI.v, FL.a]
    have cl : cleanB (oneV (oneF i t.regs t.flags)) = true := by simp [cleanB, cleanL, cleanU, FL.a]
    have on : ∀ H, pureCall (alembicref17_One.f G (k + 41)) [i.v, rgV t.regs, t.flags.a] H = _ := fun H => pureCall_of (H := H) (rOne_spec G (k + 34) i t.regs okt.rg t.flags) pl cl
    have eo : oneF i t.regs t.flags = ((doesF i t.regs t.flags).1, (doesF i t.regs t.flags).2, true) := by
      unfold oneF; rw [if_pos ⟨hri, h17⟩]
    have hq := (doesF_ok i okt.rg t.flags).len
    have nr : t.next.regs = t.regs := rfl
    have nf : t.next.flags = t.flags := rfl
    rw [nr, nf]
    rw [eo] at on
    unfold oneV at on
    simp only at on
    generalize doesF i t.regs t.flags = dd at *
    obtain ⟨q, f⟩ := dd
    simp only at hq on ⊢
    have b44 : boxA 44 (rgV Z) (hpR (bR 46 z) (TB i) t) = some (.ptr 8 1 0 0, hpR (bR 46 z) [⟨57, 6, [i.v]⟩, ⟨44, 31, [rgV Z]⟩] t) := boxRg Z hZ _
    have b53 : boxA 53 (.agg [.bool false, .bool false, .bool false, .bool false]) (hpR (bR 46 z) [⟨57, 6, [i.v]⟩, ⟨44, 31, [rgV Z]⟩] t) = some (.ptr 9 1 0 0, hpR (bR 46 z) [⟨57, 6, [i.v]⟩, ⟨44, 31, [rgV Z]⟩, ⟨53, 4, [f00.a]⟩] t) := rfl
    have s44 : stS (storeV 31 (.ptr 8 1 0 0) (rgV q) (hpR (bR 46 z) [⟨57, 6, [i.v]⟩, ⟨44, 31, [rgV Z]⟩, ⟨53, 4, [f00.a]⟩] t)) = some (.tup [], hpR (bR 46 z) [⟨57, 6, [i.v]⟩, ⟨44, 31, [rgV q]⟩, ⟨53, 4, [f00.a]⟩] t) := stRgA hq hZ rfl
    have s53 : stS (storeV 4 (.ptr 9 1 0 0) f.a (hpR (bR 46 z) [⟨57, 6, [i.v]⟩, ⟨44, 31, [rgV q]⟩, ⟨53, 4, [f00.a]⟩] t)) = some (.tup [], hpR (bR 46 z) [⟨57, 6, [i.v]⟩, ⟨44, 31, [rgV q]⟩, ⟨53, 4, [f.a]⟩] t) := rfl
    have l44 : loadV G true 31 (.ptr 8 1 0 0) (hpR (bR 46 z) [⟨57, 6, [i.v]⟩, ⟨44, 31, [rgV q]⟩, ⟨53, 4, [f.a]⟩] t) = some (rgV q) := ldRg G hq rfl
    have w44 := rstRg (bR 46 z) [⟨57, 6, [i.v]⟩, ⟨44, 31, [rgV q]⟩, ⟨53, 4, [f.a]⟩] t q hq tr
    have l53 : loadV G true 4 (.ptr 9 1 0 0) (hpR (bR 46 z) [⟨57, 6, [i.v]⟩, ⟨44, 31, [rgV q]⟩, ⟨53, 4, [f.a]⟩] { t with regs := q }) = some f.a := rfl
    have w53 := rstFl (bR 46 z) [⟨57, 6, [i.v]⟩, ⟨44, 31, [rgV q]⟩, ⟨53, 4, [f.a]⟩] { t with regs := q } f
    refine ⟨[⟨57, 6, [i.v]⟩, ⟨44, 31, [rgV q]⟩, ⟨53, 4, [f.a]⟩], ?_⟩
    show _ = lp (xsR fuel bor cs t.next.at_) (hpR (bR 46 z) [⟨57, 6, [i.v]⟩, ⟨44, 31, [rgV q]⟩, ⟨53, 4, [f.a]⟩] { t with regs := q, flags := f })
    rw [atn]
    clear rAll sAll ht br bl nr nf eo
    refine e_id ?_
    refine eC hcut ?_
    unfold xsR
    generalize leakV (1, s.at_) = lv at *
    have fx := And.intro f0 <| And.intro f1 <| And.intro f2 <| And.intro f33 <| And.intro f34 <| And.intro c2 <| And.intro n0 <| And.intro n1 <| And.intro c3 <| And.intro n2 <| And.intro n3 <| And.intro c4 <| And.intro c5 <| And.intro bl1 <| And.intro br1 <| And.intro c6 <| And.intro c7 <| And.intro c8 <| And.intro c9 <| And.intro of <| And.intro bx0 <| And.intro s7' <| And.intro a70 <| And.intro a71 <| And.intro a72 <| And.intro a74 <| And.intro a75 <| And.intro l70 <| And.intro pc1 <| And.intro l7v <| And.intro rg <| And.intro fl <| And.intro on <| And.intro b44 <| And.intro b53 <| And.intro s44 <| And.intro s53 <| And.intro l44 <| And.intro w44 <| And.intro l53 <| w53
    refine wkA ?_
    all_goals first | omega | (refine e_out ?_; rfl)
end
end Go.Proofs.YtdfglgnflldkpaaDoor.Mir
namespace Go.Proofs.YtdfglgnflldkpaaDoor.Mir
open Go
set_option linter.unusedVariables false
set_option linter.unusedSimpArgs false
set_option maxHeartbeats 8000000
set_option maxRecDepth 20000
theorem step_on {s s' : QS} {w : Int} (h : s.step w = (s', true)) : s'.code = s.code := by
  unfold QS.step at h
  cases ho : ofF w with
  | none => rw [ho] at h; simp at h
  | some i =>
    rw [ho] at h
    simp only at h
    unfold QS.act at h
    by_cases h1 : i.op = 18 ∨ i.op = 19
    · rw [if_pos h1] at h
      unfold QS.touch at h
      generalize s.next.addr i = ad at h
      by_cases h2 : ad % 8 ≠ 0 ∨ s.next.mem.length ≤ ad / 8
      · simp only [if_pos h2] at h; simp at h
      · simp only [if_neg h2] at h
        by_cases h3 : i.op = 18
        · simp only [if_pos h3] at h; simp only [Prod.mk.injEq] at h; rw [← h.1]; rfl
        · simp only [if_neg h3] at h; simp only [Prod.mk.injEq] at h; rw [← h.1]; rfl
    rw [if_neg h1] at h
    by_cases h2 : i.op = 20 ∨ i.op = 21 ∨ i.op = 22 ∨ i.op = 23
    · rw [if_pos h2] at h
      simp only [Prod.mk.injEq] at h
      rw [← h.1]
      unfold QS.branch
      by_cases h3 : i.op = 20
      · rw [if_pos h3]; rfl
      · rw [if_neg h3]
        cases s.next.goes i <;> rfl
    rw [if_neg h2] at h
    by_cases h3 : i.op = 24
    · rw [if_pos h3] at h; simp at h
    · rw [if_neg h3] at h
      simp only [Prod.mk.injEq] at h
      rw [← h.1]; rfl
section
variable (G : Globs) (k : Nat) (self : Den) (z : List AV) (hz : z.length = 35) (hzb : belowL 7 z = true) (bor : Bool) (cs : List Int) (fuel : Int)
include hz hzb in
theorem rrun_loop (hf : fuel ≤ 99999) (hcl : cs.length ≤ 100000) (hcs : ∀ w ∈ cs, 0 ≤ w ∧ w < 4294967296) : ∀ (f : Nat) (T0 : AHeap) (s s' : QS), runQ cs fuel f s = some s' → s.Ok → s.code = 3 → (s.steps : Int) ≤ fuel →
    s'.regs.length = 31 ∧ ∃ T xs, loopN (alembicref17_RunMach.l4 G (k + 41) 7 self) f (xsR fuel bor cs s.at_) (hpR (bR 46 z) T0 s) = some (.ret, xs, hpR (bR 46 s'.cellsR) T s') ∧ nth xs 2 = .ptr 0 1 0 0
  | 0, T0, s, s', h, _, _, _ => by simp [runQ] at h
  | f + 1, T0, s, s', h, hs, hc, hst => by
    have few := hs.few
    have lks := hs.leaks
    have hr := hs.rg.len
    have hb : belowL 7 (bR 46 z).elems = true := by simp [bR, belowL, belowB, hzb]
    have hcut := rcut7 (bR 46 z) T0 s hb _ (xsR_below fuel bor cs s.at_)
    rw [loopN_succ]
    simp only [runQ] at h
    by_cases h1 : s.at_ < 0 ∨ (cs.length : Int) ≤ s.at_
    · rw [if_pos h1] at h
      simp only [Option.some.injEq] at h
      have e3 : ({ s with code := 3 } : QS) = s := by rw [← hc]
      rw [e3] at h
      subst h
      have c2 : lenSl (.ro bor (codeW cs)) = some (Nn cs.length) := by simp [lenSl, codeW_len]
      have l1 := rldAll G (bR 46 z) [] s hr
      have l2 := rstRes [] s 46 z _ hz (rcells_len s hr)
      refine ⟨hr, [], [.ro bor (codeW cs), I6 fuel, .ptr 0 1 0 0, RX, .ptr 4 1 0 0, I6 s.at_], ?_, rfl⟩
      rw [alembicref17_RunMach.l4]
      refine e_id ?_
      refine eC hcut ?_
      unfold xsR
      generalize s.cellsR = tcs at *
      have fx := And.intro c2 <| And.intro l1 <| l2
      refine wkA ?_
      all_goals first | omega | (refine e_out ?_; rfl)
    rw [if_neg h1] at h
    by_cases h2 : (s.steps : Int) = fuel
    · rw [if_pos h2] at h
      simp only [Option.some.injEq] at h
      subst h
      have c2 : lenSl (.ro bor (codeW cs)) = some (Nn cs.length) := by simp [lenSl, codeW_len]
      have n0 : bin Tryd.prog .lss 3 true (I6 s.at_) (.int .i64 0) = some (.bool false) := q_lss_f (by omega)
      have n1 : bin Tryd.prog .geq 3 false (I6 s.at_) (Nn cs.length) = some (.bool false) := q_geq_f (by omega)
      have n2 : bin Tryd.prog .geq 2 false (Nn s.steps) (I6 fuel) = some (.bool true) := q_geq_t (by omega)
      have f0 : fieldAddrV 0 RX = some RX := rfl
      have f34 : fieldAddrV 34 RX = some (.ptr 3 1 0 34) := rfl
      have c3 := rld34 G (bR 46 z) [] s hr
      have c4 := rst0 (bR 46 z) [] s 4 hr
      have l1 := rldAll G (bR 46 z) [] { s with code := 4 } hr
      have l2 := rstRes [] { s with code := 4 } 46 z _ hz (rcells_len { s with code := 4 } hr)
      refine ⟨hr, [], [.ro bor (codeW cs), I6 fuel, .ptr 0 1 0 0, RX, .ptr 4 1 0 0, I6 s.at_], ?_, rfl⟩
      rw [alembicref17_RunMach.l4]
      refine e_id ?_
      refine eC hcut ?_
      unfold xsR
      generalize (QS.cellsR { s with code := 4 }) = tcs at *
      have fx := And.intro f0 <| And.intro f34 <| And.intro c2 <| And.intro n0 <| And.intro n1 <| And.intro n2 <| And.intro c3 <| And.intro c4 <| And.intro l1 <| l2
      refine wkB ?_
      refine e_out ?_; rfl
    rw [if_neg h2] at h
    have hw := hcs (cs.getD s.at_.toNat 0) (by
      have : s.at_.toNat < cs.length := by omega
      rw [List.getD_eq_getElem?_getD, List.getElem?_eq_getElem this]
      exact List.getElem_mem this)
    have rd := round_spec G k self z hz hzb bor cs fuel (loopN (alembicref17_RunMach.l4 G (k + 41) 7 self) f) T0 s hs hc (by omega) (by omega) (by omega) hf hcl hw
    have okt : s.tick.Ok := ⟨hs.rg, hs.mem, by simp [QS.tick, QS.leak]; omega, hs.big, by simp [QS.tick, QS.leak]; omega⟩
    obtain ⟨o1, o2, o3⟩ := QS.step_ok okt (cs.getD s.at_.toNat 0) (by simp [QS.tick, QS.leak]; omega)
    have hst2 : s.tick.steps = s.steps + 1 := rfl
    generalize cs.getD s.at_.toNat 0 = w at *
    obtain ⟨s2, b, hsb⟩ : ∃ s2 b, s.tick.step w = (s2, b) := ⟨_, _, rfl⟩
    rw [hsb] at h rd o1 o2
    simp only at h o1 o2
    unfold roundR at rd
    cases b
    · simp only [Bool.false_eq_true, if_false] at rd
      simp only [Option.some.injEq] at h
      subst h
      exact ⟨o1.rg.len, rd⟩
    · simp only [if_true] at rd
      simp only at h
      obtain ⟨T, hT⟩ := rd
      have hc2 : s2.code = 3 := by rw [step_on hsb]; exact hc
      rw [hT]
      exact rrun_loop hf hcl hcs f T s2 s' h o1 hc2 (by rw [o2, hst2]; omega)
theorem rfrz (b0 : ABlk) (T : AHeap) (s : QS) : frz (hpR b0 T s) 0 6 (.agg s.cellsR) = some (endQ s) := by
  have f1 := frz_sl (H := hpR b0 T s) (b := 2) (n0 := 0) (d := 4) (ty := 43) rfl (by omega) (natsU_len s.mem) (allSz_U _) (natsU_below 0 _)
  have f2 := frz_sl (H := hpR b0 T s) (b := 6) (n0 := 0) (d := 4) (ty := 107) rfl (by omega) (leaksV_len s.leaks) (allSz_L _) (leaksV_below 0 _)
  have f3 : mapO (frz (hpR b0 T s) 0 5) (natsU s.regs) = some (natsU s.regs) := mapO_low fun x hx => frz_low (belowL_mem (natsU_below 0 s.regs) x hx) 5
  exact frz_agg (by simp [QS.cellsR, belowL, belowB]) (mapO_cons (frz_low rfl 5) (mapO_cons f1 (mapO_app f3 (mapO_cons f2 (mapO_cons (frz_low rfl 5) mapO_nil)))))
theorem RunMach_spec (bm : Bool) (mem : List Nat) (hm : ∀ x ∈ mem, x < 18446744073709551616) (hml : mem.length ≤ 60000) (h0 : 0 ≤ fuel) (hf : fuel ≤ 99999) (hk : mem.length < k + 40) (hcl : cs.length ≤ 100000) (hcs : ∀ w ∈ cs, 0 ≤ w ∧ w < 4294967296)
    (s' : QS) (hrun : runQ cs fuel (k + 41) (q0 3 mem) = some s') :
    alembicref17_RunMach.f G (k + 42) [.ro bor (codeW cs), .ro bm (natsU mem), I6 fuel] [] = some (endQ s', []) := by
  rw [alembicref17_RunMach.step]
  unfold alembicref17_RunMach.c
  have hzl : zR.length = 35 := rfl
  have hzb : belowL 7 zR = true := rfl
  obtain ⟨hr', T, xs, lp, hx⟩ := rrun_loop G k (alembicref17_RunMach.f G (k + 41)) zR hzl hzb bor cs fuel hf hcl hcs (k + 41) [] (q0 3 mem) s' hrun (q0_ok 3 mem hm (by omega)) rfl (by simp only [q0]; omega)
  have w1_ : heapCall (alembicref_Words.f G (k + 41)) [.ro bm (natsU mem)] [bZ] = some (.sl 2 mem.length 0 mem.length 1, hpW mem) := heapCall_of (words_spec G (k + 40) bm mem (by omega) hk) (by simp [hpW])
  have zz : (AV.agg [.int .i64 0, .nils, .int .u64 0, .int .u64 0, .int .u64 0, .int .u64 0, .int .u64 0, .int .u64 0, .int .u64 0, .int .u64 0, .int .u64 0, .int .u64 0, .int .u64 0, .int .u64 0, .int .u64 0, .int .u64 0, .int .u64 0, .int .u64 0, .int .u64 0, .int .u64 0, .int .u64 0, .int .u64 0, .int .u64 0, .int .u64 0, .int .u64 0, .int .u64 0, .int .u64 0, .int .u64 0, .int .u64 0, .int .u64 0, .int .u64 0, .int .u64 0, .int .u64 0, .nils, .int .i64 0]) = .agg (I6 0 :: .nils :: (natsU (List.replicate 31 0) ++ [.nils, .int .i64 0])) := rfl
  have zb : buildSt [(0, 1), (1, 1), (2, 31), (33, 1), (34, 1)] [.int .i64 0, .nils, .int .u64 0, .int .u64 0, .int .u64 0, .int .u64 0, .int .u64 0, .int .u64 0, .int .u64 0, .int .u64 0, .int .u64 0, .int .u64 0, .int .u64 0, .int .u64 0, .int .u64 0, .int .u64 0, .int .u64 0, .int .u64 0, .int .u64 0, .int .u64 0, .int .u64 0, .int .u64 0, .int .u64 0, .int .u64 0, .int .u64 0, .int .u64 0, .int .u64 0, .int .u64 0, .int .u64 0, .int .u64 0, .int .u64 0, .int .u64 0, .int .u64 0, .nils, .int .i64 0] [(1, .sl 2 mem.length 0 mem.length 1), (0, .int .i64 3)] =
      some (.agg (I6 3 :: .sl 2 mem.length 0 mem.length 1 :: (natsU (List.replicate 31 0) ++ [.nils, .int .i64 0]))) := rfl
  have b1 : boxA 46 (.agg (I6 0 :: .nils :: (natsU (List.replicate 31 0) ++ [.nils, .int .i64 0]))) [] = some (.ptr 0 1 0 0, [bZ]) := rfl
  have b2 : boxA 46 (.agg (I6 0 :: .nils :: (natsU (List.replicate 31 0) ++ [.nils, .int .i64 0]))) (hpW mem) = some (.ptr 3 1 0 0, hpW mem ++ [bZ]) := rfl
  have s2 : stS (storeV 35 (.ptr 3 1 0 0) (.agg (I6 3 :: .sl 2 mem.length 0 mem.length 1 :: (natsU (List.replicate 31 0) ++ [.nils, .int .i64 0]))) (hpW mem ++ [bZ])) = some (.tup [], hpW mem ++ [⟨46, 35, [.agg (I6 3 :: .sl 2 mem.length 0 mem.length 1 :: (natsU (List.replicate 31 0) ++ [.nils, .int .i64 0]))]⟩]) := rfl
  have b3 : boxA 53 (.agg [.bool false, .bool false, .bool false, .bool false]) (hpW mem ++ [⟨46, 35, [.agg (I6 3 :: .sl 2 mem.length 0 mem.length 1 :: (natsU (List.replicate 31 0) ++ [.nils, .int .i64 0]))]⟩]) = some (.ptr 4 1 0 0, hpW mem ++ [⟨46, 35, [.agg (I6 3 :: .sl 2 mem.length 0 mem.length 1 :: (natsU (List.replicate 31 0) ++ [.nils, .int .i64 0]))]⟩, ⟨53, 4, [f00.a]⟩]) := rfl
  have v1 : ∀ m : Nat, virt1 (.ptr 0 1 0 0, 33, 107, 2) (hpW mem ++ [⟨46, 35, [.agg (I6 3 :: .sl 2 m 0 m 1 :: (natsU (List.replicate 31 0) ++ [.nils, .int .i64 0]))]⟩, ⟨53, 4, [f00.a]⟩]) =
     [bR 46 zR, ⟨43, 1, []⟩, ⟨43, 1, natsU mem⟩, ⟨46, 35, [.agg (I6 3 :: .sl 2 m 0 m 1 :: (natsU (List.replicate 31 0) ++ [.nils, .int .i64 0]))]⟩, ⟨53, 4, [f00.a]⟩, ⟨107, 2, []⟩] := fun m => rfl
  have v2 : virt1 (.ptr 3 1 0 0, 33, 107, 2) [bR 46 zR, ⟨43, 1, []⟩, ⟨43, 1, natsU mem⟩, ⟨46, 35, [.agg (I6 3 :: .sl 2 mem.length 0 mem.length 1 :: (natsU (List.replicate 31 0) ++ [.nils, .int .i64 0]))]⟩, ⟨53, 4, [f00.a]⟩, ⟨107, 2, []⟩] =
     hpR (bR 46 zR) [] (q0 3 mem) := by
    simp only [hpR, q0, QS.cellsR, QS.tailR]
    rfl
  have v1' := v1 mem.length
  have hl7 : (hpR (bR 46 zR) [] (q0 3 mem)).length = 7 := rfl
  have ldE : loadV G true 35 (.ptr 0 1 0 0) (hpR (bR 46 s'.cellsR) T s') = some (.agg s'.cellsR) := by
    have hrl := rcells_len s' hr'
    generalize s'.cellsR = rl at *
    show (if 0 + 35 ≤ rl.length then some (AV.agg ((rl.drop 0).take 35)) else none) = _
    rw [if_pos (by omega), List.drop_zero, List.take_of_length_le (by omega)]
  have fin : finL [loadV G true 35 (.ptr 0 1 0 0) (hpR (bR 46 s'.cellsR) T s')] 0 (hpR (bR 46 s'.cellsR) T s') = some (.ret, [endQ s'], []) := by
    have f3 := rfrz (bR 46 s'.cellsR) T s'
    unfold finL
    rw [ldE]
    simp only [allSome]
    unfold finV packR
    simp only [f3, cutH_zero]
  rw [zz]
  unfold xsR at lp
  clear zz v1 hcs hm
  refine e_in ?_
  generalize s'.cellsR = rl at *
  generalize hpR (bR 46 zR) [] (q0 3 mem) = hq at *
  generalize natsU (List.replicate 31 0) = NZ at *
  generalize hpW mem = HW at *
  have fx := And.intro b1 <| And.intro w1_ <| And.intro zb <| And.intro b2 <| And.intro s2 <| b3
  refine wkB ?_
  refine eV1 v1' ?_
  refine eV1 v2 ?_
  refine eV0 ?_
  rw [hl7]
  refine eK ?_
  refine eL lp ?_
  have fx := True.intro
  refine wkB ?_
  rw [hx]
  exact oF fin
end
theorem runQ_ok (cs : List Int) (fuel : Int) (hf : fuel ≤ 99999) : ∀ (f : Nat) (s s' : QS), runQ cs fuel f s = some s' → s.Ok → (s.steps : Int) ≤ fuel → s'.Ok ∧ s'.mem.length = s.mem.length
  | 0, s, s', h, _, _ => by simp [runQ] at h
  | f + 1, s, s', h, hs, hst => by
    have few := hs.few
    have lks := hs.leaks
    simp only [runQ] at h
    by_cases h1 : s.at_ < 0 ∨ (cs.length : Int) ≤ s.at_
    · rw [if_pos h1] at h
      simp only [Option.some.injEq] at h
      subst h
      exact ⟨⟨hs.rg, hs.mem, hs.leaks, hs.big, hs.few⟩, rfl⟩
    rw [if_neg h1] at h
    by_cases h2 : (s.steps : Int) = fuel
    · rw [if_pos h2] at h
      simp only [Option.some.injEq] at h
      subst h
      exact ⟨⟨hs.rg, hs.mem, hs.leaks, hs.big, hs.few⟩, rfl⟩
    rw [if_neg h2] at h
    have okt : s.tick.Ok := ⟨hs.rg, hs.mem, by simp [QS.tick, QS.leak]; omega, hs.big, by simp [QS.tick, QS.leak]; omega⟩
    obtain ⟨o1, o2, o3⟩ := QS.step_ok okt (cs.getD s.at_.toNat 0) (by simp [QS.tick, QS.leak]; omega)
    have hst2 : s.tick.steps = s.steps + 1 := rfl
    have tm : s.tick.mem = s.mem := rfl
    obtain ⟨s2, b, hsb⟩ : ∃ s2 b, s.tick.step (cs.getD s.at_.toNat 0) = (s2, b) := ⟨_, _, rfl⟩
    rw [hsb] at h o1 o2 o3
    simp only at h o1 o2 o3
    cases b
    · simp only [Option.some.injEq] at h
      subst h
      exact ⟨o1, by rw [o3, tm]⟩
    · simp only at h
      obtain ⟨p1, p2⟩ := runQ_ok cs fuel hf f s2 s' h o1 (by rw [o2, hst2]; omega)
      exact ⟨p1, by rw [p2, o3, tm]⟩
end Go.Proofs.YtdfglgnflldkpaaDoor.Mir
namespace Go.Proofs.YtdfglgnflldkpaaDoor.Mir
open Go
set_option linter.unusedVariables false
set_option linter.unusedSimpArgs false
set_option maxHeartbeats 8000000
set_option maxRecDepth 20000
theorem ofInt_nat (n : Nat) : BitVec.ofInt 64 (n : Int) = BitVec.ofNat 64 n := by
  apply BitVec.eq_of_toNat_eq
  rw [BitVec.toNat_ofInt, BitVec.toNat_ofNat]; omega
theorem wrapB (x : BitVec 64) : IntKind.u64.wrap (x.toNat : Int) = (x.toNat : Int) := by
  have := x.isLt
  rw [wrap_u64_eq]; omega
theorem ofB (x : BitVec 64) : BitVec.ofInt 64 (x.toNat : Int) = x := by rw [ofInt_nat]; simp
theorem movk_bv (d k s : Nat) : movkF d k s = ((BitVec.ofNat 64 d &&& ~~~ BitVec.ofNat 64 (65535 * 2 ^ s % 18446744073709551616)) ||| BitVec.ofNat 64 (k * 2 ^ s % 18446744073709551616)).toNat := by
  have h1 : bits .andNot .u64 (d : Int) ((65535 * 2 ^ s % 18446744073709551616 : Nat) : Int) = (((BitVec.ofNat 64 d &&& ~~~ BitVec.ofNat 64 (65535 * 2 ^ s % 18446744073709551616)).toNat : Nat) : Int) := by
    show IntKind.u64.wrap ((BitVec.ofInt 64 (d : Int) &&& ~~~ BitVec.ofInt 64 ((65535 * 2 ^ s % 18446744073709551616 : Nat) : Int)).toNat : Int) = _
    rw [wrapB, ofInt_nat, ofInt_nat]
  unfold movkF
  rw [h1]
  have h2 : ∀ x y : BitVec 64, bits .or .u64 (x.toNat : Int) (y.toNat : Int) = (((x ||| y).toNat : Nat) : Int) := fun x y => by
    show IntKind.u64.wrap ((BitVec.ofInt 64 (x.toNat : Int) ||| BitVec.ofInt 64 (y.toNat : Int)).toNat : Int) = _
    rw [ofB, ofB, wrapB]
  have h3 : ((k * 2 ^ s % 18446744073709551616 : Nat) : Int) = ((BitVec.ofNat 64 (k * 2 ^ s % 18446744073709551616)).toNat : Int) := by
    rw [BitVec.toNat_ofNat]; omega
  rw [h3, h2]
  have := ((BitVec.ofNat 64 d &&& ~~~ BitVec.ofNat 64 (65535 * 2 ^ s % 18446744073709551616)) ||| BitVec.ofNat 64 (k * 2 ^ s % 18446744073709551616)).isLt
  generalize ((BitVec.ofNat 64 d &&& ~~~ BitVec.ofNat 64 (65535 * 2 ^ s % 18446744073709551616)) ||| BitVec.ofNat 64 (k * 2 ^ s % 18446744073709551616)).toNat = q at *
  unfold u64
  omega
theorem bit_k (k s i : Nat) (hi : i < 64) : (k * 2 ^ s % 18446744073709551616).testBit i = (decide (s ≤ i) && k.testBit (i - s)) := by
  rw [show (18446744073709551616 : Nat) = 2 ^ 64 from rfl, Nat.testBit_mod_two_pow, Nat.testBit_mul_two_pow]
  simp [hi]
theorem bit_m (n : Nat) : (65535 : Nat).testBit n = decide (n < 16) := by
  rw [show (65535 : Nat) = 2 ^ 16 - 1 from rfl, Nat.testBit_two_pow_sub_one]
theorem movk_bit (d k s : Nat) (i : Nat) (hi : i < 64) (hk : k < 65536) : (movkF d k s).testBit i = if s ≤ i ∧ i < s + 16 then k.testBit (i - s) else d.testBit i := by
  rw [movk_bv]
  have e : ∀ x : BitVec 64, x.toNat.testBit i = x.getLsbD i := fun x => rfl
  rw [e]
  simp only [BitVec.getLsbD_or, BitVec.getLsbD_and, BitVec.getLsbD_not, BitVec.getLsbD_ofNat, hi, decide_true, Bool.true_and]
  rw [bit_k _ _ _ hi, bit_k _ _ _ hi, bit_m]
  have hkb : ∀ j, 16 ≤ j → k.testBit j = false := fun j hj => Nat.testBit_lt_two_pow (Nat.lt_of_lt_of_le (show k < 2 ^ 16 from hk) (Nat.pow_le_pow_right (by omega) hj))
  by_cases h1 : s ≤ i
  · by_cases h2 : i < s + 16
    · rw [if_pos ⟨h1, h2⟩]
      simp [h1, show i - s < 16 by omega]
    · rw [if_neg (by omega), hkb (i - s) (by omega)]
      simp [h1, show ¬ (i - s < 16) by omega]
  · rw [if_neg (by omega)]
    simp [h1]
/-- The four parts of a word. -/
def partF (w s : Nat) : Nat := w / 2 ^ s % 65536
theorem part_lt (w s : Nat) : partF w s < 65536 := Nat.mod_lt _ (by decide)
theorem part_bit (w s i : Nat) : (partF w s).testBit i = (decide (i < 16) && w.testBit (s + i)) := by
  unfold partF
  rw [show (65536 : Nat) = 2 ^ 16 from rfl, Nat.testBit_mod_two_pow, Nat.testBit_div_two_pow]
  rw [Nat.add_comm]
theorem four (w : Nat) (hw : w < 18446744073709551616) (a b c e : Nat) (hp : (a = 0 ∧ b = 16 ∧ c = 32 ∧ e = 48) ∨ (a = 16 ∧ b = 32 ∧ c = 48 ∧ e = 0) ∨ (a = 32 ∧ b = 48 ∧ c = 0 ∧ e = 16) ∨ (a = 48 ∧ b = 0 ∧ c = 16 ∧ e = 32)) :
    movkF (movkF (movkF (partF w a * 2 ^ a % 18446744073709551616) (partF w b) b) (partF w c) c) (partF w e) e = w := by
  apply Nat.eq_of_testBit_eq
  intro i
  by_cases hi : i < 64
  · have fin : ∀ s, s ≤ i ∧ i < s + 16 → (partF w s).testBit (i - s) = w.testBit i := fun s h => by
      rw [part_bit, show s + (i - s) = i by omega]
      simp; omega
    rw [movk_bit _ _ _ _ hi (part_lt _ _), movk_bit _ _ _ _ hi (part_lt _ _), movk_bit _ _ _ _ hi (part_lt _ _), bit_k _ _ _ hi]
    split
    · rename_i h; exact fin _ h
    split
    · rename_i h; exact fin _ h
    split
    · rename_i h; exact fin _ h
    have ha : a ≤ i ∧ i < a + 16 := by omega
    rw [decide_eq_true ha.1, Bool.true_and]
    exact fin _ ha
  · have hlt : ∀ x, x < 18446744073709551616 → x.testBit i = false := fun x hx => Nat.testBit_lt_two_pow (Nat.lt_of_lt_of_le (show x < 2 ^ 64 from hx) (Nat.pow_le_pow_right (by omega) (by omega)))
    rw [hlt w hw]
    exact hlt _ (by unfold movkF; exact u64_lt _)
end Go.Proofs.YtdfglgnflldkpaaDoor.Mir
namespace Go.Proofs.YtdfglgnflldkpaaDoor.Mir
open Go
set_option linter.unusedVariables false
set_option linter.unusedSimpArgs false
set_option maxHeartbeats 8000000
set_option maxRecDepth 20000
theorem allSz_I (l : List MI) : allSz 6 (instsV l) = true := allSz_map 6 _ (fun _ => rfl) l
theorem instsV_app (l : List MI) (i : MI) : instsV l ++ [i.v] = instsV (l ++ [i]) := by simp [instsV]
/-- One of its parts. -/
def cstep (d : Int) (u : Nat) (out : List MI) (a : Nat) : List MI :=
  if partF u (16 * a) = 0 then out else out ++ [⟨if out.length = 0 then 1 else 2, d, 0, 0, (a : Int), (partF u (16 * a) : Int)⟩]
def cparts (d : Int) (u : Nat) : Nat → List MI
  | 0 => []
  | a + 1 => cstep d u (cparts d u a) a
def constF (d : Int) (u : Nat) : List MI := if (cparts d u 4).length = 0 then [⟨1, d, 0, 0, 0, 0⟩] else cparts d u 4
theorem cparts_len (d : Int) (u : Nat) : ∀ a, (cparts d u a).length ≤ a
  | 0 => Nat.le_refl _
  | a + 1 => by
    have := cparts_len d u a
    unfold cparts cstep
    split
    · omega
    · simp; omega
theorem constF_len (d : Int) (u : Nat) : 1 ≤ (constF d u).length ∧ (constF d u).length ≤ 4 := by
  unfold constF
  split
  · simp
  · exact ⟨by omega, cparts_len d u 4⟩
/-! ### The program's -/
section
variable (G : Globs) (k : Nat) (self : Den)
/-- The blocks: what stood there, and two of its own. -/
def hpK (H : AHeap) (l : List MI) : AHeap := H ++ [⟨57, 6, []⟩, ⟨57, 6, instsV l⟩]
theorem hpK_len (H : AHeap) (l : List MI) : (hpK H l).length = H.length + 2 := by simp [hpK]
theorem hpK_get (H : AHeap) (l : List MI) : (hpK H l)[H.length + 1]? = some ⟨57, 6, instsV l⟩ := by
  unfold hpK
  rw [List.getElem?_append_right (by omega)]; simp
theorem hpK_ap (H : AHeap) (l : List MI) (i : MI) (hl : l.length ≤ 10) : appendV 57 6 (.sl (H.length + 1) l.length 0 l.length 6) (.ro false [i.v]) (hpK H l) = some (.sl (H.length + 1) (l ++ [i]).length 0 (l ++ [i]).length 6, hpK H (l ++ [i])) := by
  unfold appendV
  simp only [hpK_get, elemsOf, instsV_len, List.length_singleton]
  rw [if_pos (by refine ⟨?_, ?_, ?_, ?_, ?_⟩ <;> first | trivial | rfl | omega)]
  have e2 : (instsV l).take l.length = instsV l := List.take_of_length_le (by rw [instsV_len]; exact Nat.le_refl _)
  have e3 : (instsV l).drop (l.length + 1) = [] := List.drop_of_length_le (by rw [instsV_len]; omega)
  rw [e2, e3, List.append_nil, instsV_app, instsV_len, List.length_append, List.length_singleton]
  congr 2
  unfold hpK
  rw [List.set_append_right _ _ (by omega)]
  simp
theorem heapBelow_app (n : Nat) : ∀ A B : AHeap, heapBelow n A = true → heapBelow n B = true → heapBelow n (A ++ B) = true
  | [], B, _, h => h
  | a :: A, B, h1, h2 => by
    simp only [heapBelow, Bool.and_eq_true] at h1
    simp [heapBelow, h1.1, heapBelow_app n A B h1.2 h2]
def xsK (d kk : Int) (H : AHeap) (l : List MI) (a : Nat) : List AV := [I6 d, I6 kk, .sl (H.length + 1) l.length 0 l.length 6, Nn a]
theorem const_loop (d kk : Int) (H : AHeap) (hH : heapBelow (H.length + 2) H = true) (u : Nat) (hu : u = u64 kk) : ∀ (c a f : Nat), a + c = 4 → c < f →
    loopN (sel_constant.l3 G k (H.length + 2) self) f (xsK d kk H (cparts d u a) a) (hpK H (cparts d u a)) = some (.exit 0, xsK d kk H (cparts d u 4) 4, hpK H (cparts d u 4))
  | c, a, 0, h, hf => by omega
  | 0, a, f + 1, h, hf => by
    have ha : a = 4 := by omega
    subst ha
    rw [loopN_succ, sel_constant.l3]
    have hc : cutH (H.length + 2) (xsK d kk H (cparts d u 4) 4) (hpK H (cparts d u 4)) = some (hpK H (cparts d u 4)) := by
      have e : (hpK H (cparts d u 4)).take (H.length + 2) = hpK H (cparts d u 4) := List.take_of_length_le (by rw [hpK_len]; exact Nat.le_refl _)
      have hb : heapBelow (H.length + 2) (hpK H (cparts d u 4)) = true := heapBelow_app _ _ _ hH (by simp [heapBelow, belowL, instsV_below])
      unfold cutH
      rw [e, hb]
      simp [xsK, belowL, belowB]
    refine e_id ?_
    refine eC hc ?_
    unfold xsK
    generalize hpK H (cparts d u 4) = hh at *
    have fx := True.intro
    refine wkA ?_
    refine e_out ?_; rfl
  | c + 1, a, f + 1, h, hf => by
    rw [loopN_succ, sel_constant.l3]
    have ih := const_loop d kk H hH u hu c (a + 1) f (by omega) (by omega)
    have hlen := cparts_len d u a
    obtain ⟨l, hl⟩ : ∃ l, l = cparts d u a := ⟨_, rfl⟩
    have hs : cparts d u (a + 1) = cstep d u l a := by rw [hl]; rfl
    rw [hs] at ih
    rw [← hl] at hlen ⊢
    have hc : cutH (H.length + 2) (xsK d kk H l a) (hpK H l) = some (hpK H l) := by
      have e : (hpK H l).take (H.length + 2) = hpK H l := List.take_of_length_le (by rw [hpK_len]; exact Nat.le_refl _)
      have hb : heapBelow (H.length + 2) (hpK H l) = true := heapBelow_app _ _ _ hH (by simp [heapBelow, belowL, instsV_below])
      unfold cutH
      rw [e, hb]
      simp [xsK, belowL, belowB]
    have hul : u < 18446744073709551616 := by rw [hu]; exact u64_lt _
    have hp := part_lt u (16 * a)
    have c1 : convInt .u64 (I6 kk) = some (Un u) := by rw [conv_u64, hu]
    have c2 : bin Tryd.prog .mul 3 true (.int .i64 16) (Nn a) = some (Nn (16 * a)) := by
      rw [bin_mul, wrap_of_i64 (by omega) (by omega)]; congr 2
    have c3 := u64_shr Tryd.prog 43 false .i64 u (16 * a) (by omega)
    have dl : u / 2 ^ (16 * a) < 18446744073709551616 := Nat.lt_of_le_of_lt (Nat.div_le_self _ _) hul
    have c4 : bin Tryd.prog .and 43 true (Un (u / 2 ^ (16 * a))) (.int .u64 65535) = some (Un (partF u (16 * a))) := by
      have := u64_and (u / 2 ^ (16 * a)) 65535 dl (by decide)
      rw [bin_and]
      show some (AV.int .u64 (bits .and .u64 ((u / 2 ^ (16 * a) : Nat) : Int) ((65535 : Nat) : Int))) = _
      rw [this, show (65535 : Nat) = 2 ^ 16 - 1 from rfl, Nat.and_two_pow_sub_one_eq_mod]
      rfl
    have c5 : convInt .i64 (Un (partF u (16 * a))) = some (I6 (partF u (16 * a) : Int)) := q_cvI (by omega) (by omega)
    have c6 : bin Tryd.prog .add 3 true (Nn a) (.int .i64 1) = some (Nn (a + 1)) := by
      rw [bin_add, wrap_of_i64 (by omega) (by omega)]; congr 2
    have q0 : bin Tryd.prog .lss 3 true (Nn a) (.int .i64 4) = some (.bool true) := q_lss_t (by omega)
    by_cases hz : partF u (16 * a) = 0
    · have e : cstep d u l a = l := by unfold cstep; rw [if_pos hz]
      rw [e] at ih
      rw [hz] at c4 c5
      have q1 : bin Tryd.prog .eql 3 true (I6 ((0 : Nat) : Int)) (.int .i64 0) = some (.bool true) := q_eql_t rfl
      unfold xsK at ih ⊢
      clear hs hl hul dl
      generalize hpK H l = hh at *
      generalize u / 2 ^ (16 * a) = z at *
      generalize 16 * a = a16 at *
      refine e_id ?_
      refine eC hc ?_
      have fx := And.intro q0 <| And.intro c1 <| And.intro c2 <| And.intro c3 <| And.intro c4 <| And.intro c5 <| And.intro c6 <| q1
      refine wkB ?_
      exact ih
    · have e : cstep d u l a = l ++ [⟨if l.length = 0 then 1 else 2, d, 0, 0, (a : Int), (partF u (16 * a) : Int)⟩] := by unfold cstep; rw [if_neg hz]
      rw [e] at ih
      have q1 : bin Tryd.prog .eql 3 true (I6 (partF u (16 * a) : Int)) (.int .i64 0) = some (.bool false) := q_eql_f (by omega)
      have lc : lenSl (.sl (H.length + 1) l.length 0 l.length 6) = some (Nn l.length) := rfl
      have ap := hpK_ap H l ⟨if l.length = 0 then 1 else 2, d, 0, 0, (a : Int), (partF u (16 * a) : Int)⟩ (by omega)
      have br : ∀ (i : MI) HH, buildRo 6 1 (.agg [(.int .i64 0), (.int .i64 0), (.int .i64 0), (.int .i64 0), (.int .i64 0), (.int .i64 0)]) [(0, i.v)] HH = some (.ro false [i.v], HH) := fun i HH => rfl
      have br' := br ⟨if l.length = 0 then 1 else 2, d, 0, 0, (a : Int), (partF u (16 * a) : Int)⟩
      unfold xsK at ih ⊢
      clear hs hl hul dl br
      generalize u / 2 ^ (16 * a) = z at *
      generalize partF u (16 * a) = pp at *
      generalize 16 * a = a16 at *
      by_cases h0 : l.length = 0
      · rw [if_pos h0] at ap ih br'
        have q2 : bin Tryd.prog .eql 3 true (Nn l.length) (.int .i64 0) = some (.bool true) := q_eql_t (by omega)
        have bs : buildSt [(0, 1), (1, 1), (2, 1), (3, 1), (4, 1), (5, 1)] [(.int .i64 0), (.int .i64 0), (.int .i64 0), (.int .i64 0), (.int .i64 0), (.int .i64 0)] [(0, .int .i64 1), (1, I6 d), (4, Nn a), (5, I6 (pp : Int))] = some (MI.v ⟨1, d, 0, 0, (a : Int), (pp : Int)⟩) := rfl
        generalize (⟨1, d, 0, 0, (a : Int), (pp : Int)⟩ : MI) = i at *
        refine e_id ?_
        refine eC hc ?_
        have fx := And.intro q0 <| And.intro c1 <| And.intro c2 <| And.intro c3 <| And.intro c4 <| And.intro c5 <| And.intro c6 <| And.intro q1 <| And.intro lc <| And.intro q2 <| And.intro bs <| And.intro br' <| ap
        refine wkB ?_
        exact ih
      · rw [if_neg h0] at ap ih br'
        have q2 : bin Tryd.prog .eql 3 true (Nn l.length) (.int .i64 0) = some (.bool false) := q_eql_f (by omega)
        have bs : buildSt [(0, 1), (1, 1), (2, 1), (3, 1), (4, 1), (5, 1)] [(.int .i64 0), (.int .i64 0), (.int .i64 0), (.int .i64 0), (.int .i64 0), (.int .i64 0)] [(0, .int .i64 2), (1, I6 d), (4, Nn a), (5, I6 (pp : Int))] = some (MI.v ⟨2, d, 0, 0, (a : Int), (pp : Int)⟩) := rfl
        generalize (⟨2, d, 0, 0, (a : Int), (pp : Int)⟩ : MI) = i at *
        refine e_id ?_
        refine eC hc ?_
        have fx := And.intro q0 <| And.intro c1 <| And.intro c2 <| And.intro c3 <| And.intro c4 <| And.intro c5 <| And.intro c6 <| And.intro q1 <| And.intro lc <| And.intro q2 <| And.intro bs <| And.intro br' <| ap
        refine wkB ?_
        exact ih
theorem constant_spec (d kk : Int) (H : AHeap) (hH : heapBelow (H.length + 2) H = true) (hk : 5 < k) :
    heapCall (sel_constant.f G (k + 1)) [I6 d, I6 kk] H = some (.sl (H.length + 1) (constF d (u64 kk)).length 0 (constF d (u64 kk)).length 6, hpK H (constF d (u64 kk))) := by
  refine heapCall_of ?_ (by rw [hpK_len]; omega)
  rw [sel_constant.step]
  unfold sel_constant.c
  obtain ⟨u, hu⟩ : ∃ u, u = u64 kk := ⟨_, rfl⟩
  rw [← hu]
  have lp : loopN (sel_constant.l3 G k (H.length + 2) (sel_constant.f G k)) k [I6 d, I6 kk, .sl (H.length + 1) 0 0 0 6, .int .i64 0] (hpK H []) = _ := const_loop G k (sel_constant.f G k) d kk H hH u hu 4 0 k rfl (by omega)
  have e1 : (H ++ [⟨57, 6, []⟩] : AHeap).length = H.length + 1 := by simp
  have e2 : (H ++ [⟨57, 6, []⟩] ++ [⟨57, 6, []⟩] : AHeap) = hpK H [] := by simp [hpK, instsV]
  have hlen := cparts_len d u 4
  unfold constF
  unfold xsK at lp
  generalize cparts d u 4 = l at *
  have lc : lenSl (.sl (H.length + 1) l.length 0 l.length 6) = some (Nn l.length) := rfl
  have hl := hpK_len H []
  refine e_in ?_
  by_cases h0 : l.length = 0
  · rw [if_pos h0]
    have hl0 : l = [] := List.eq_nil_of_length_eq_zero h0
    subst hl0
    have ap := hpK_ap H [] ⟨1, d, 0, 0, 0, 0⟩ (by simp)
    have br : ∀ HH, buildRo 6 1 (.agg [(.int .i64 0), (.int .i64 0), (.int .i64 0), (.int .i64 0), (.int .i64 0), (.int .i64 0)]) [(0, MI.v ⟨1, d, 0, 0, 0, 0⟩)] HH = some (.ro false [MI.v ⟨1, d, 0, 0, 0, 0⟩], HH) := fun HH => rfl
    have bs : buildSt [(0, 1), (1, 1), (2, 1), (3, 1), (4, 1), (5, 1)] [(.int .i64 0), (.int .i64 0), (.int .i64 0), (.int .i64 0), (.int .i64 0), (.int .i64 0)] [(0, .int .i64 1), (1, I6 d)] = some (MI.v ⟨1, d, 0, 0, 0, 0⟩) := rfl
    have q2 : bin Tryd.prog .eql 3 true (Nn ([] : List MI).length) (.int .i64 0) = some (.bool true) := q_eql_t rfl
    have fx := True.intro
    refine wkB ?_
    simp only [e1, e2]
    rw [hl]
    have fx := And.intro lc <| And.intro q2 <| And.intro bs <| And.intro br <| ap
    have lx1 := lp
    refine wkB ?_
    refine e_out ?_; rfl
  · rw [if_neg h0]
    have q2 : bin Tryd.prog .eql 3 true (Nn l.length) (.int .i64 0) = some (.bool false) := q_eql_f (by omega)
    have fx := True.intro
    refine wkB ?_
    simp only [e1, e2]
    rw [hl]
    have fx := And.intro lc <| q2
    have lx1 := lp
    refine wkB ?_
    refine e_out ?_; rfl
end
/-! ### What they do -/
theorem movz_mod (u s : Nat) (hs : s + 16 ≤ 64) (h0 : u % 2 ^ s = 0) : partF u s * 2 ^ s % 18446744073709551616 = u % 2 ^ (s + 16) := by
  have e : u % 2 ^ (s + 16) = u % 2 ^ s + 2 ^ s * (u / 2 ^ s % 2 ^ 16) := by rw [Nat.pow_add, Nat.mod_mul]
  have hlt : u % 2 ^ (s + 16) < 2 ^ (s + 16) := Nat.mod_lt _ (Nat.two_pow_pos _)
  have hle : 2 ^ (s + 16) ≤ 2 ^ 64 := Nat.pow_le_pow_right (by decide) hs
  rw [h0, Nat.zero_add] at e
  have e2 : partF u s * 2 ^ s = u % 2 ^ (s + 16) := by rw [e, Nat.mul_comm]; rfl
  rw [e2, Nat.mod_eq_of_lt (by omega)]
theorem movk_mod (u s : Nat) (hs : s + 16 ≤ 64) : movkF (u % 2 ^ s) (partF u s) s = u % 2 ^ (s + 16) := by
  have hlt : u % 2 ^ (s + 16) < 2 ^ (s + 16) := Nat.mod_lt _ (Nat.two_pow_pos _)
  have hle : 2 ^ (s + 16) ≤ 2 ^ 64 := Nat.pow_le_pow_right (by decide) hs
  apply Nat.eq_of_testBit_eq
  intro i
  by_cases hi : i < 64
  · rw [movk_bit _ _ _ _ hi (part_lt _ _), Nat.testBit_mod_two_pow, Nat.testBit_mod_two_pow]
    by_cases h1 : s ≤ i ∧ i < s + 16
    · rw [if_pos h1, part_bit, show s + (i - s) = i by omega]
      simp [show i - s < 16 by omega, h1.2]
    · rw [if_neg h1]
      by_cases h2 : i < s
      · simp [h2, show i < s + 16 by omega]
      · simp [h2, show ¬ i < s + 16 by omega]
  · have z : ∀ x, x < 18446744073709551616 → x.testBit i = false := fun x hx => Nat.testBit_lt_two_pow (Nat.lt_of_lt_of_le (show x < 2 ^ 64 from hx) (Nat.pow_le_pow_right (by omega) (by omega)))
    rw [z _ (by unfold movkF; exact u64_lt _), z _ (by omega)]
/-- Registers behind some instructions. -/
def runI (f : FL) (l : List MI) (r : List Nat) : List Nat := l.foldl (fun r i => (doesF i r f).1) r
theorem runI_app (f : FL) (l : List MI) (i : MI) (r : List Nat) : runI f (l ++ [i]) r = (doesF i (runI f l r) f).1 := by simp [runI]
/-- An instruction of a number. -/
def isC (d : Int) (i : MI) : Prop := rightB i = true ∧ (i.op = 1 ∨ i.op = 2)
theorem cparts_do (d : Int) (hd : 0 ≤ d ∧ d ≤ 30) (u : Nat) (f : FL) : ∀ a, a ≤ 4 → (∀ i ∈ cparts d u a, isC d i) ∧ ((cparts d u a = [] ∧ u % 2 ^ (16 * a) = 0) ∨ (cparts d u a ≠ [] ∧ ∀ r : List Nat, r.length = 31 → runI f (cparts d u a) r = r.set d.toNat (u % 2 ^ (16 * a))))
  | 0, _ => ⟨fun i h => (by cases h), Or.inl ⟨rfl, by simp [Nat.mod_one]⟩⟩
  | a + 1, ha => by
    obtain ⟨h1, h2⟩ := cparts_do d hd u f a (by omega)
    have hs : cparts d u (a + 1) = cstep d u (cparts d u a) a := rfl
    rw [hs]
    have e16 : 16 * (a + 1) = 16 * a + 16 := by omega
    have hp := part_lt u (16 * a)
    generalize cparts d u a = l at *
    unfold cstep
    by_cases hz : partF u (16 * a) = 0
    · rw [if_pos hz]
      have em : u % 2 ^ (16 * (a + 1)) = u % 2 ^ (16 * a) := by
        rw [e16, Nat.pow_add, Nat.mod_mul]
        have : u / 2 ^ (16 * a) % 2 ^ 16 = 0 := hz
        rw [this]; simp
      rw [em]
      exact ⟨h1, h2⟩
    rw [if_neg hz]
    have rt : ∀ op : Int, (op = 1 ∨ op = 2) → rightB ⟨op, d, 0, 0, (a : Int), (partF u (16 * a) : Int)⟩ = true := fun op ho => by
      rcases ho with rfl | rfl <;> (simp [rightB, isOp, fairB, formF, regB, extraB, immB, halfI, stackB]; omega)
    have e64 : u64 ((partF u (16 * a) : Nat) : Int) = partF u (16 * a) := by unfold u64; omega
    have ea : (16 * (a : Int)).toNat = 16 * a := by omega
    refine ⟨fun i hi => ?_, .inr ⟨by simp, fun r hr => ?_⟩⟩
    · rcases List.mem_append.1 hi with h | h
      · exact h1 i h
      · obtain rfl := List.mem_singleton.1 h
        refine ⟨rt _ (by split <;> simp), ?_⟩
        show (if l.length = 0 then (1 : Int) else 2) = 1 ∨ (if l.length = 0 then (1 : Int) else 2) = 2
        split <;> simp
    · rw [runI_app, e16]
      rcases h2 with ⟨h2, h3⟩ | ⟨h2, h3⟩
      · subst h2
        have e : (doesF ⟨1, d, 0, 0, (a : Int), (partF u (16 * a) : Int)⟩ (runI f [] r) f).1 = setF r d (u64 ((partF u (16 * a) : Nat) : Int) * 2 ^ (16 * (a : Int)).toNat % 18446744073709551616) := rfl
        show (doesF ⟨1, d, 0, 0, (a : Int), (partF u (16 * a) : Int)⟩ (runI f [] r) f).1 = _
        rw [e, e64, ea, movz_mod u (16 * a) (by omega) h3]
        unfold setF
        rw [if_neg (by omega)]
      · have hl : l.length ≠ 0 := fun h => h2 (List.eq_nil_of_length_eq_zero h)
        rw [if_neg hl, h3 r hr]
        have e : ∀ q : List Nat, (doesF ⟨2, d, 0, 0, (a : Int), (partF u (16 * a) : Int)⟩ q f).1 = setF q d (movkF (getF q d) (u64 ((partF u (16 * a) : Nat) : Int)) (16 * (a : Int)).toNat) := fun q => rfl
        have hdl : d.toNat < r.length := by omega
        rw [e, e64, ea]
        unfold setF getF
        rw [if_neg (by omega), if_neg (by omega), List.set_set, List.getD_eq_getElem?_getD, List.getElem?_set_self hdl, Option.getD_some, movk_mod u (16 * a) (by omega)]
theorem const_do (d : Int) (hd : 0 ≤ d ∧ d ≤ 30) (u : Nat) (hu : u < 18446744073709551616) (f : FL) : (∀ i ∈ constF d u, isC d i) ∧ ∀ r : List Nat, r.length = 31 → runI f (constF d u) r = r.set d.toNat u := by
  obtain ⟨h1, h2⟩ := cparts_do d hd u f 4 (Nat.le_refl _)
  have eu : u % 2 ^ (16 * 4) = u := Nat.mod_eq_of_lt hu
  rw [eu] at h2
  unfold constF
  rcases h2 with ⟨h2, h3⟩ | ⟨h2, h3⟩
  · rw [h2, if_pos (show ([] : List MI).length = 0 from rfl)]
    refine ⟨fun i hi => ?_, fun r hr => ?_⟩
    · simp at hi; subst hi
      exact ⟨by simp [rightB, isOp, fairB, formF, regB, extraB, immB, halfI, stackB]; omega, .inl rfl⟩
    · have e : runI f [⟨1, d, 0, 0, 0, 0⟩] r = setF r d (u64 0 * 2 ^ (16 * (0 : Int)).toNat % 18446744073709551616) := rfl
      rw [e, h3]
      unfold setF
      rw [if_neg (by omega)]
      rfl
  · rw [if_neg (fun h => h2 (List.eq_nil_of_length_eq_zero h))]
    exact ⟨h1, h3⟩
end Go.Proofs.YtdfglgnflldkpaaDoor.Mir
namespace Go.Proofs.YtdfglgnflldkpaaDoor.Mir
open Go
set_option linter.unusedVariables false
set_option linter.unusedSimpArgs false
set_option maxHeartbeats 8000000
set_option maxRecDepth 20000
/-- An instruction of words. -/
structure WI where
  op : Int
  d : Int
  a : Int
  b : Int
  c : Int
  k : Int
def WI.v (i : WI) : AV := .agg [I6 i.op, I6 i.d, I6 i.a, I6 i.b, I6 i.c, I6 i.k]
instance : Inhabited WI := ⟨⟨0, 0, 0, 0, 0, 0⟩⟩
/-- The maker. -/
structure KS where
  out : List MI
  place : List Nat
  jumps : List (Nat × Int)
def natsI (l : List Nat) : List AV := l.map fun n => Nn n
def jmpV (p : Nat × Int) : AV := .agg [Nn p.1, I6 p.2]
def jmpsV (l : List (Nat × Int)) : List AV := l.map jmpV
theorem natsI_len (l : List Nat) : (natsI l).length = l.length := by simp [natsI]
theorem jmpsV_len (l : List (Nat × Int)) : (jmpsV l).length = l.length := by simp [jmpsV]
theorem natsI_below (n : Nat) (l : List Nat) : belowL n (natsI l) = true := belowL_map n _ (fun _ => rfl) l
theorem jmpsV_below (n : Nat) (l : List (Nat × Int)) : belowL n (jmpsV l) = true := belowL_map n _ (fun _ => rfl) l
def KS.put (s : KS) (l : List MI) : KS := { s with out := s.out ++ l }
def KS.jump (s : KS) (i : MI) (to : Int) : KS := ({ s with jumps := s.jumps ++ [(s.out.length, to)] } : KS).put [i]
def KS.touch (s : KS) (op r : Int) (i : WI) (e : Int) : KS :=
  let s1 := if i.k ≤ 4095 then s.put [⟨10, 28, i.a, 0, 0, i.k⟩] else (s.put (constF 28 (u64 i.k))).put [⟨3, 28, i.a, 28, 0, 0⟩]
  ((s1.put [⟨13, 29, 28, 0, 0, 16⟩]).jump ⟨23, 29, 0, 0, 0, 0⟩ e).put [⟨12, 28, 28, 0, 0, 3⟩, ⟨op, r, 28, 0, 0, 0⟩]
def KS.one (s : KS) (i : WI) (e : Int) : KS :=
  if i.op = 1 then s.put (constF i.d (u64 i.k))
  else if i.op = 2 then s.put [⟨6, i.d, i.a, 31, 0, 0⟩]
  else if i.op = 3 then s.put [⟨3, i.d, i.a, i.b, 0, 0⟩]
  else if i.op = 4 then s.put [⟨4, i.d, i.a, i.b, 0, 0⟩]
  else if i.op = 5 then s.put [⟨8, i.d, i.a, i.b, 31, 0⟩]
  else if i.op = 6 then s.put [⟨9, i.d, i.a, i.b, 0, 0⟩]
  else if i.op = 7 then s.put [⟨5, i.d, i.a, i.b, 0, 0⟩]
  else if i.op = 8 then s.put [⟨6, i.d, i.a, i.b, 0, 0⟩]
  else if i.op = 9 then s.put [⟨7, i.d, i.a, i.b, 0, 0⟩]
  else if i.op = 10 then s.put [⟨12, i.d, i.a, 0, 0, i.k⟩]
  else if i.op = 11 then s.put [⟨13, i.d, i.a, 0, 0, i.k⟩]
  else if i.op = 12 then s.put [⟨14, i.d, i.a, 0, 0, i.k⟩]
  else if i.op = 13 then s.put [⟨15, 0, i.a, i.b, 0, 0⟩, ⟨17, i.d, 0, 0, 3, 0⟩]
  else if i.op = 14 then s.put [⟨15, 0, i.a, 31, 0, 0⟩, ⟨16, i.d, i.b, i.c, 1, 0⟩]
  else if i.op = 15 then s.touch 18 i.d i e
  else if i.op = 16 then s.touch 19 i.b i e
  else if i.op = 17 then s.jump ⟨20, 0, 0, 0, 0, 0⟩ i.k
  else if i.op = 18 then s.jump ⟨22, i.a, 0, 0, 0, 0⟩ i.k
  else if i.op = 19 then s.jump ⟨23, i.a, 0, 0, 0, 0⟩ i.k
  else if i.op = 20 then s.put [⟨24, 0, 0, 0, 0, i.k⟩]
  else s
/-- Its blocks. -/
def KS.box (s : KS) : AV := .agg [.sl 2 s.out.length 0 s.out.length 6, .sl 3 s.place.length 0 s.place.length 1, .sl 4 s.jumps.length 0 s.jumps.length 2]
def hpB (s : KS) (T : AHeap) : AHeap := ⟨71, 1, []⟩ :: ⟨90, 3, [s.box]⟩ :: ⟨57, 6, instsV s.out⟩ :: ⟨3, 1, natsI s.place⟩ :: ⟨93, 2, jmpsV s.jumps⟩ :: T
abbrev BX : AV := .ptr 1 1 0 0
/-- What lies behind them is plain. -/
def Pl (T : AHeap) : Prop := ∀ n, heapBelow n T = true
theorem Pl_app {A B : AHeap} (hA : Pl A) (hB : Pl B) : Pl (A ++ B) := fun n => heapBelow_app n A B (hA n) (hB n)
theorem Pl_i (l : List MI) : Pl [⟨57, 6, instsV l⟩] := fun n => by simp [heapBelow, instsV_below]
theorem hpB_len (s : KS) (T : AHeap) : (hpB s T).length = T.length + 5 := rfl
theorem hpB_below (s : KS) (T : AHeap) (hT : Pl T) (n : Nat) (hn : 5 ≤ n) : heapBelow n (hpB s T) = true := by
  have h2 : decide (2 < n) = true := decide_eq_true (by omega)
  have h3 : decide (3 < n) = true := decide_eq_true (by omega)
  have h4 : decide (4 < n) = true := decide_eq_true (by omega)
  simp only [hpB, KS.box, heapBelow, belowL, belowB, instsV_below, natsI_below, jmpsV_below, hT n, h2, h3, h4, Bool.and_self]
theorem hpB_cut (s : KS) (T X : AHeap) (hT : Pl T) (xs : List AV) (hx : belowL (T.length + 5) xs = true) : cutH (T.length + 5) xs (hpB s (T ++ X)) = some (hpB s T) := by
  have e : (hpB s (T ++ X)).take (T.length + 5) = hpB s T := by
    unfold hpB
    simp only [List.take_succ_cons]
    rw [List.take_append_of_le_length (Nat.le_refl _), List.take_length]
  unfold cutH
  rw [e, hx, hpB_below s T hT _ (by omega)]; rfl
theorem finB (s : KS) (T X : AHeap) (hT : Pl T) : finV [] (T.length + 5) (hpB s (T ++ X)) = some (.ret, [.tup []], hpB s T) := by
  unfold finV
  rw [hpB_cut s T X hT [] rfl]; rfl
theorem finB0 (s : KS) (T : AHeap) (hT : Pl T) : finV [] (T.length + 5) (hpB s T) = some (.ret, [.tup []], hpB s T) := by
  have := finB s T [] hT
  rwa [List.append_nil] at this
theorem hcallB {s s' : KS} {T : AHeap} {g : Den} {args : List AV} {r : AV} (h : g args (hpB s T) = some (r, hpB s' T)) : heapCall g args (hpB s T) = some (r, hpB s' T) := by
  unfold heapCall; rw [h]; simp only [hpB_len, Nat.le_refl, if_true]
section
variable (G : Globs) (k : Nat) (s : KS) (T : AHeap)
theorem nil_b : nilA BX = some BX := rfl
theorem bf0 : fieldAddrV 0 BX = some BX := rfl
theorem bf1 : fieldAddrV 1 BX = some (.ptr 1 1 0 1) := rfl
theorem bf2 : fieldAddrV 2 BX = some (.ptr 1 1 0 2) := rfl
theorem bl0 : loadV G false 1 BX (hpB s T) = some (.sl 2 s.out.length 0 s.out.length 6) := rfl
theorem bl1 : loadV G false 1 (.ptr 1 1 0 1) (hpB s T) = some (.sl 3 s.place.length 0 s.place.length 1) := rfl
theorem bl2 : loadV G false 1 (.ptr 1 1 0 2) (hpB s T) = some (.sl 4 s.jumps.length 0 s.jumps.length 2) := rfl
/-- Something is laid: of a slice whose elements are known. -/
theorem put_spec (hT : Pl T) (x : AV) (l : List MI) (hx : elemsOf x (hpB s T) = some (instsV l)) (hs : s.out.length ≤ 1000000) (hl : l.length ≤ 1000) :
    heapCall (sel_maker_put.f G (k + 1)) [BX, x] (hpB s T) = some (.tup [], hpB (s.put l) T) := by
  apply hcallB
  rw [sel_maker_put.step]
  unfold sel_maker_put.c
  rw [hpB_len]
  have a1 : appendV 57 6 (.sl 2 s.out.length 0 s.out.length 6) x (hpB s T) = some (.sl 2 (s.put l).out.length 0 (s.put l).out.length 6, (hpB s T).set 2 ⟨57, 6, instsV (s.put l).out⟩) := by
    have e : (hpB s T)[2]? = some ⟨57, 6, instsV s.out⟩ := rfl
    unfold appendV
    simp only [e, hx, instsV_len, allSz_I]
    rw [if_pos (by refine ⟨?_, ?_, ?_, ?_, ?_⟩ <;> first | trivial | rfl | omega)]
    have e2 : (instsV s.out).take s.out.length = instsV s.out := List.take_of_length_le (by rw [instsV_len]; exact Nat.le_refl _)
    have e3 : (instsV s.out).drop (s.out.length + l.length) = [] := List.drop_of_length_le (by rw [instsV_len]; omega)
    have e4 : instsV s.out ++ instsV l = instsV (s.out ++ l) := by simp [instsV]
    rw [e2, e3, List.append_nil, e4, instsV_len]
    simp [KS.put]
  have s1 : stS (storeV 1 BX (.sl 2 (s.put l).out.length 0 (s.put l).out.length 6) ((hpB s T).set 2 ⟨57, 6, instsV (s.put l).out⟩)) = some (.tup [], hpB (s.put l) T) := rfl
  have l0 := bl0 G s T
  have fin := finB0 (s.put l) T hT
  generalize (hpB s T).set 2 ⟨57, 6, instsV (s.put l).out⟩ = hm at *
  refine e_in ?_
  have fx := And.intro nil_b <| And.intro bf0 <| And.intro l0 <| And.intro a1 <| s1
  refine wkB ?_
  exact oF fin
theorem elems_new (l : List MI) : elemsOf (.sl (T.length + 5) l.length 0 l.length 6) (hpB s (T ++ [⟨57, 6, instsV l⟩])) = some (instsV l) := by
  have e : (hpB s (T ++ [⟨57, 6, instsV l⟩]))[T.length + 5]? = some ⟨57, 6, instsV l⟩ := by
    unfold hpB
    simp only [List.getElem?_cons_succ]
    rw [List.getElem?_append_right (Nat.le_refl _)]; simp
  simp only [elemsOf, e, instsV_len, if_true, List.drop_zero]
  rw [List.take_of_length_le (by rw [instsV_len]; exact Nat.le_refl _)]
theorem build1 (i : MI) : buildOwn 57 6 1 (.agg [.int .i64 0, .int .i64 0, .int .i64 0, .int .i64 0, .int .i64 0, .int .i64 0]) [(0, i.v)] (hpB s T) = some (.sl (T.length + 5) 1 0 1 6, hpB s (T ++ [⟨57, 6, instsV [i]⟩])) := rfl
theorem build2 (i j : MI) : buildOwn 57 6 2 (.agg [.int .i64 0, .int .i64 0, .int .i64 0, .int .i64 0, .int .i64 0, .int .i64 0]) [(0, i.v), (1, j.v)] (hpB s T) = some (.sl (T.length + 5) 2 0 2 6, hpB s (T ++ [⟨57, 6, instsV [i, j]⟩])) := rfl
/-- One instruction, or two, in a slice of their own. -/
theorem put1 (hT : Pl T) (i : MI) (hs : s.out.length ≤ 1000000) : heapCall (sel_maker_put.f G (k + 1)) [BX, .sl (T.length + 5) 1 0 1 6] (hpB s (T ++ [⟨57, 6, instsV [i]⟩])) = some (.tup [], hpB (s.put [i]) (T ++ [⟨57, 6, instsV [i]⟩])) :=
  put_spec G k s (T ++ [⟨57, 6, instsV [i]⟩]) (Pl_app hT (Pl_i [i])) _ [i] (elems_new s T [i]) hs (by show 1 ≤ 1000; decide)
theorem put2 (hT : Pl T) (i j : MI) (hs : s.out.length ≤ 1000000) : heapCall (sel_maker_put.f G (k + 1)) [BX, .sl (T.length + 5) 2 0 2 6] (hpB s (T ++ [⟨57, 6, instsV [i, j]⟩])) = some (.tup [], hpB (s.put [i, j]) (T ++ [⟨57, 6, instsV [i, j]⟩])) :=
  put_spec G k s (T ++ [⟨57, 6, instsV [i, j]⟩]) (Pl_app hT (Pl_i [i, j])) _ [i, j] (elems_new s T [i, j]) hs (by show 2 ≤ 1000; decide)
theorem wx (i : WI) (H : AHeap) : boxRoA i.v H = some (.rp false i.v 0, H) := rfl
theorem wl0 (i : WI) (H : AHeap) : loadV G false 1 (.rp false i.v 0) H = some (I6 i.op) := rfl
theorem wl1 (i : WI) (H : AHeap) : loadV G false 1 (.rp false i.v 1) H = some (I6 i.d) := rfl
theorem wl2 (i : WI) (H : AHeap) : loadV G false 1 (.rp false i.v 2) H = some (I6 i.a) := rfl
theorem wl3 (i : WI) (H : AHeap) : loadV G false 1 (.rp false i.v 3) H = some (I6 i.b) := rfl
theorem wl4 (i : WI) (H : AHeap) : loadV G false 1 (.rp false i.v 4) H = some (I6 i.c) := rfl
theorem wl5 (i : WI) (H : AHeap) : loadV G false 1 (.rp false i.v 5) H = some (I6 i.k) := rfl
theorem wl6 (i : WI) (H : AHeap) : loadV G true 6 (.rp false i.v 0) H = some i.v := rfl
theorem three_spec (hT : Pl T) (op : Int) (i : WI) (hs : s.out.length ≤ 1000000) : heapCall (sel_maker_three.f G (k + 2)) [BX, I6 op, i.v] (hpB s T) = some (.tup [], hpB (s.put [⟨op, i.d, i.a, i.b, 0, 0⟩]) T) := by
  apply hcallB
  rw [sel_maker_three.step]
  unfold sel_maker_three.c
  rw [hpB_len]
  have b0 := wx i
  have l1 := wl1 G i
  have l2 := wl2 G i
  have l3 := wl3 G i
  have bs : buildSt [(0, 1), (1, 1), (2, 1), (3, 1), (4, 1), (5, 1)] [(.int .i64 0), (.int .i64 0), (.int .i64 0), (.int .i64 0), (.int .i64 0), (.int .i64 0)] [(0, I6 op), (1, I6 i.d), (2, I6 i.a), (3, I6 i.b)] = some (MI.v ⟨op, i.d, i.a, i.b, 0, 0⟩) := rfl
  have b1 := build1 s T ⟨op, i.d, i.a, i.b, 0, 0⟩
  have p1 := put1 G k s T hT ⟨op, i.d, i.a, i.b, 0, 0⟩ hs
  have fin := finB (s.put [⟨op, i.d, i.a, i.b, 0, 0⟩]) T [⟨57, 6, instsV [⟨op, i.d, i.a, i.b, 0, 0⟩]⟩] hT
  generalize (⟨op, i.d, i.a, i.b, 0, 0⟩ : MI) = j at *
  generalize T ++ [⟨57, 6, instsV [j]⟩] = T1 at *
  refine e_in ?_
  have fx := And.intro b0 <| And.intro l1 <| And.intro l2 <| And.intro l3 <| And.intro bs <| And.intro b1 <| p1
  refine wkB ?_
  exact oF fin
theorem shift_spec (hT : Pl T) (op : Int) (i : WI) (hs : s.out.length ≤ 1000000) : heapCall (sel_maker_shift.f G (k + 2)) [BX, I6 op, i.v] (hpB s T) = some (.tup [], hpB (s.put [⟨op, i.d, i.a, 0, 0, i.k⟩]) T) := by
  apply hcallB
  rw [sel_maker_shift.step]
  unfold sel_maker_shift.c
  rw [hpB_len]
  have b0 := wx i
  have l1 := wl1 G i
  have l2 := wl2 G i
  have l5 := wl5 G i
  have bs : buildSt [(0, 1), (1, 1), (2, 1), (3, 1), (4, 1), (5, 1)] [(.int .i64 0), (.int .i64 0), (.int .i64 0), (.int .i64 0), (.int .i64 0), (.int .i64 0)] [(0, I6 op), (1, I6 i.d), (2, I6 i.a), (5, I6 i.k)] = some (MI.v ⟨op, i.d, i.a, 0, 0, i.k⟩) := rfl
  have b1 := build1 s T ⟨op, i.d, i.a, 0, 0, i.k⟩
  have p1 := put1 G k s T hT ⟨op, i.d, i.a, 0, 0, i.k⟩ hs
  have fin := finB (s.put [⟨op, i.d, i.a, 0, 0, i.k⟩]) T [⟨57, 6, instsV [⟨op, i.d, i.a, 0, 0, i.k⟩]⟩] hT
  generalize (⟨op, i.d, i.a, 0, 0, i.k⟩ : MI) = j at *
  generalize T ++ [⟨57, 6, instsV [j]⟩] = T1 at *
  refine e_in ?_
  have fx := And.intro b0 <| And.intro l1 <| And.intro l2 <| And.intro l5 <| And.intro bs <| And.intro b1 <| p1
  refine wkB ?_
  exact oF fin
theorem jump_spec (hT : Pl T) (i : MI) (to : Int) (hs : s.out.length ≤ 1000000) (hj : s.jumps.length ≤ 1000000) : heapCall (sel_maker_jump.f G (k + 2)) [BX, i.v, I6 to] (hpB s T) = some (.tup [], hpB (s.jump i to) T) := by
  apply hcallB
  rw [sel_maker_jump.step]
  unfold sel_maker_jump.c
  rw [hpB_len]
  have b0 : ∀ H, boxRoA i.v H = some (.rp false i.v 0, H) := fun H => rfl
  have l6 : ∀ H, loadV G true 6 (.rp false i.v 0) H = some i.v := fun H => rfl
  have l0 := bl0 G s T
  have l2 := bl2 G s T
  have lc : lenSl (.sl 2 s.out.length 0 s.out.length 6) = some (Nn s.out.length) := rfl
  have bs : buildSt [(0, 1), (1, 1)] [(.int .i64 0), (.int .i64 0)] [(0, Nn s.out.length), (1, I6 to)] = some (jmpV (s.out.length, to)) := rfl
  have br : ∀ H, buildRo 2 1 (.agg [(.int .i64 0), (.int .i64 0)]) [(0, jmpV (s.out.length, to))] H = some (.ro false [jmpV (s.out.length, to)], H) := fun H => rfl
  obtain ⟨s1, hs1⟩ : ∃ s1 : KS, s1 = { s with jumps := s.jumps ++ [(s.out.length, to)] } := ⟨_, rfl⟩
  have hj1 : s.jump i to = s1.put [i] := by rw [hs1]; rfl
  have a1 : appendV 93 2 (.sl 4 s.jumps.length 0 s.jumps.length 2) (.ro false [jmpV (s.out.length, to)]) (hpB s T) = some (.sl 4 s1.jumps.length 0 s1.jumps.length 2, (hpB s T).set 4 ⟨93, 2, jmpsV s1.jumps⟩) := by
    have e : (hpB s T)[4]? = some ⟨93, 2, jmpsV s.jumps⟩ := rfl
    unfold appendV
    simp only [e, elemsOf, jmpsV_len, List.length_singleton]
    rw [if_pos (by refine ⟨?_, ?_, ?_, ?_, ?_⟩ <;> first | trivial | rfl | omega)]
    have e2 : (jmpsV s.jumps).take s.jumps.length = jmpsV s.jumps := List.take_of_length_le (by rw [jmpsV_len]; exact Nat.le_refl _)
    have e3 : (jmpsV s.jumps).drop (s.jumps.length + 1) = [] := List.drop_of_length_le (by rw [jmpsV_len]; omega)
    have e4 : jmpsV s.jumps ++ [jmpV (s.out.length, to)] = jmpsV (s.jumps ++ [(s.out.length, to)]) := by simp [jmpsV]
    rw [e2, e3, List.append_nil, e4, jmpsV_len, hs1]
    simp
  have s1_ : stS (storeV 1 (.ptr 1 1 0 2) (.sl 4 s1.jumps.length 0 s1.jumps.length 2) ((hpB s T).set 4 ⟨93, 2, jmpsV s1.jumps⟩)) = some (.tup [], hpB s1 T) := by rw [hs1]; rfl
  have ho : s1.out.length ≤ 1000000 := by rw [hs1]; exact hs
  rw [hj1]
  have b1 := build1 s1 T i
  have p1 := put1 G k s1 T hT i ho
  have fin := finB (s1.put [i]) T [⟨57, 6, instsV [i]⟩] hT
  clear hs1 hj1
  generalize T ++ [⟨57, 6, instsV [i]⟩] = T1 at *
  generalize (hpB s T).set 4 ⟨93, 2, jmpsV s1.jumps⟩ = hm at *
  generalize jmpV (s.out.length, to) = jv at *
  generalize i.v = iv at *
  refine e_in ?_
  have fx := And.intro nil_b <| And.intro bf0 <| And.intro bf2 <| And.intro b0 <| And.intro l6 <| And.intro l0 <| And.intro l2 <| And.intro lc <| And.intro bs <| And.intro br <| And.intro a1 <| And.intro s1_ <| And.intro b1 <| p1
  refine wkB ?_
  exact oF fin
end
end Go.Proofs.YtdfglgnflldkpaaDoor.Mir
namespace Go.Proofs.YtdfglgnflldkpaaDoor.Mir
open Go
set_option linter.unusedVariables false
set_option linter.unusedSimpArgs false
set_option maxHeartbeats 8000000
set_option maxRecDepth 20000
section
variable (G : Globs) (k : Nat) (s : KS) (T : AHeap)
/-- A number's instructions, laid. -/
theorem const_put (hT : Pl T) (d kk : Int) (hs : s.out.length ≤ 1000000) :
    heapCall (sel_constant.f G (k + 9)) [I6 d, I6 kk] (hpB s T) = some (.sl (T.length + 6) (constF d (u64 kk)).length 0 (constF d (u64 kk)).length 6, hpB s (T ++ [⟨57, 6, []⟩, ⟨57, 6, instsV (constF d (u64 kk))⟩])) ∧
    heapCall (sel_maker_put.f G (k + 9)) [BX, .sl (T.length + 6) (constF d (u64 kk)).length 0 (constF d (u64 kk)).length 6] (hpB s (T ++ [⟨57, 6, []⟩, ⟨57, 6, instsV (constF d (u64 kk))⟩])) = some (.tup [], hpB (s.put (constF d (u64 kk))) (T ++ [⟨57, 6, []⟩, ⟨57, 6, instsV (constF d (u64 kk))⟩])) ∧
    Pl (T ++ [⟨57, 6, []⟩, ⟨57, 6, instsV (constF d (u64 kk))⟩]) := by
  have hlen := (constF_len d (u64 kk)).2
  have h1 := constant_spec G (k + 8) d kk (hpB s T) (hpB_below s T hT _ (by rw [hpB_len]; omega)) (by omega)
  generalize constF d (u64 kk) = L at *
  have e1 : hpK (hpB s T) L = hpB s (T ++ [⟨57, 6, []⟩, ⟨57, 6, instsV L⟩]) := rfl
  rw [hpB_len, e1] at h1
  have hp : Pl (T ++ [⟨57, 6, []⟩, ⟨57, 6, instsV L⟩]) := Pl_app hT (fun n => by simp [heapBelow, belowL, instsV_below])
  refine ⟨h1, put_spec G (k + 8) s _ hp _ L ?_ hs (by omega), hp⟩
  have e : (hpB s (T ++ [⟨57, 6, []⟩, ⟨57, 6, instsV L⟩]))[T.length + 6]? = some ⟨57, 6, instsV L⟩ := by
    unfold hpB
    simp only [List.getElem?_cons_succ]
    rw [List.getElem?_append_right (by omega)]; simp
  simp only [elemsOf, e, instsV_len, if_true, List.drop_zero]
  rw [List.take_of_length_le (by rw [instsV_len]; exact Nat.le_refl _)]
theorem touch_spec (hT : Pl T) (op r : Int) (i : WI) (e : Int) (hs : s.out.length ≤ 900000) (hj : s.jumps.length ≤ 900000) :
    heapCall (sel_maker_touch.f G (k + 10)) [BX, I6 op, I6 r, i.v, I6 e] (hpB s T) = some (.tup [], hpB (s.touch op r i e) T) := by
  apply hcallB
  rw [sel_maker_touch.step]
  unfold sel_maker_touch.c
  rw [hpB_len]
  have b0 := wx i
  have w2 := wl2 G i
  have w5 := wl5 G i
  have q13 : buildSt [(0, 1), (1, 1), (2, 1), (3, 1), (4, 1), (5, 1)] [(.int .i64 0), (.int .i64 0), (.int .i64 0), (.int .i64 0), (.int .i64 0), (.int .i64 0)] [(0, .int .i64 13), (1, .int .i64 29), (2, .int .i64 28), (5, .int .i64 16)] = some (MI.v ⟨13, 29, 28, 0, 0, 16⟩) := rfl
  have q23 : buildSt [(0, 1), (1, 1), (2, 1), (3, 1), (4, 1), (5, 1)] [(.int .i64 0), (.int .i64 0), (.int .i64 0), (.int .i64 0), (.int .i64 0), (.int .i64 0)] [(0, .int .i64 23), (1, .int .i64 29)] = some (MI.v ⟨23, 29, 0, 0, 0, 0⟩) := rfl
  have q12 : buildSt [(0, 1), (1, 1), (2, 1), (3, 1), (4, 1), (5, 1)] [(.int .i64 0), (.int .i64 0), (.int .i64 0), (.int .i64 0), (.int .i64 0), (.int .i64 0)] [(0, .int .i64 12), (1, .int .i64 28), (2, .int .i64 28), (5, .int .i64 3)] = some (MI.v ⟨12, 28, 28, 0, 0, 3⟩) := rfl
  have qop : buildSt [(0, 1), (1, 1), (2, 1), (3, 1), (4, 1), (5, 1)] [(.int .i64 0), (.int .i64 0), (.int .i64 0), (.int .i64 0), (.int .i64 0), (.int .i64 0)] [(0, I6 op), (1, I6 r), (2, .int .i64 28)] = some (MI.v ⟨op, r, 28, 0, 0, 0⟩) := rfl
  -- what comes behind the address
  have rest : ∀ (s1 : KS) (T1 : AHeap), Pl T1 → s1.out.length ≤ 900010 → s1.jumps.length ≤ 900000 →
      ∃ b1 b2 : ABlk, buildOwn 57 6 1 (.agg [.int .i64 0, .int .i64 0, .int .i64 0, .int .i64 0, .int .i64 0, .int .i64 0]) [(0, MI.v ⟨13, 29, 28, 0, 0, 16⟩)] (hpB s1 T1) = some (.sl (T1.length + 5) 1 0 1 6, hpB s1 (T1 ++ [b1])) ∧
        heapCall (sel_maker_put.f G (k + 9)) [BX, .sl (T1.length + 5) 1 0 1 6] (hpB s1 (T1 ++ [b1])) = some (.tup [], hpB (s1.put [⟨13, 29, 28, 0, 0, 16⟩]) (T1 ++ [b1])) ∧
        heapCall (sel_maker_jump.f G (k + 9)) [BX, MI.v ⟨23, 29, 0, 0, 0, 0⟩, I6 e] (hpB (s1.put [⟨13, 29, 28, 0, 0, 16⟩]) (T1 ++ [b1])) = some (.tup [], hpB ((s1.put [⟨13, 29, 28, 0, 0, 16⟩]).jump ⟨23, 29, 0, 0, 0, 0⟩ e) (T1 ++ [b1])) ∧
        buildOwn 57 6 2 (.agg [.int .i64 0, .int .i64 0, .int .i64 0, .int .i64 0, .int .i64 0, .int .i64 0]) [(0, MI.v ⟨12, 28, 28, 0, 0, 3⟩), (1, MI.v ⟨op, r, 28, 0, 0, 0⟩)] (hpB ((s1.put [⟨13, 29, 28, 0, 0, 16⟩]).jump ⟨23, 29, 0, 0, 0, 0⟩ e) (T1 ++ [b1])) = some (.sl ((T1 ++ [b1]).length + 5) 2 0 2 6, hpB ((s1.put [⟨13, 29, 28, 0, 0, 16⟩]).jump ⟨23, 29, 0, 0, 0, 0⟩ e) (T1 ++ [b1] ++ [b2])) ∧
        heapCall (sel_maker_put.f G (k + 9)) [BX, .sl ((T1 ++ [b1]).length + 5) 2 0 2 6] (hpB ((s1.put [⟨13, 29, 28, 0, 0, 16⟩]).jump ⟨23, 29, 0, 0, 0, 0⟩ e) (T1 ++ [b1] ++ [b2])) = some (.tup [], hpB (((s1.put [⟨13, 29, 28, 0, 0, 16⟩]).jump ⟨23, 29, 0, 0, 0, 0⟩ e).put [⟨12, 28, 28, 0, 0, 3⟩, ⟨op, r, 28, 0, 0, 0⟩]) (T1 ++ [b1] ++ [b2])) := by
    intro s1 T1 hT1 h1 h2
    have hp1 : Pl (T1 ++ [⟨57, 6, instsV [⟨13, 29, 28, 0, 0, 16⟩]⟩]) := Pl_app hT1 (Pl_i _)
    refine ⟨⟨57, 6, instsV [⟨13, 29, 28, 0, 0, 16⟩]⟩, ⟨57, 6, instsV [⟨12, 28, 28, 0, 0, 3⟩, ⟨op, r, 28, 0, 0, 0⟩]⟩, build1 s1 T1 _, put1 G (k + 8) s1 T1 hT1 _ (by omega), jump_spec G (k + 7) _ _ hp1 _ e ?_ ?_, build2 _ _ _ _, put2 G (k + 8) _ _ hp1 _ _ ?_⟩
    · simp [KS.put]; omega
    · simp [KS.put]; omega
    · simp [KS.put, KS.jump]; omega
  unfold KS.touch
  by_cases hk : i.k ≤ 4095
  · rw [if_pos hk]
    have q10 : buildSt [(0, 1), (1, 1), (2, 1), (3, 1), (4, 1), (5, 1)] [(.int .i64 0), (.int .i64 0), (.int .i64 0), (.int .i64 0), (.int .i64 0), (.int .i64 0)] [(0, .int .i64 10), (1, .int .i64 28), (2, I6 i.a), (5, I6 i.k)] = some (MI.v ⟨10, 28, i.a, 0, 0, i.k⟩) := rfl
    have c1 := build1 s T ⟨10, 28, i.a, 0, 0, i.k⟩
    have c2 := put1 G (k + 8) s T hT ⟨10, 28, i.a, 0, 0, i.k⟩ (by omega)
    have hp : Pl (T ++ [⟨57, 6, instsV [⟨10, 28, i.a, 0, 0, i.k⟩]⟩]) := Pl_app hT (Pl_i _)
    obtain ⟨b1, b2, r1, r2, r3, r4, r5⟩ := rest (s.put [⟨10, 28, i.a, 0, 0, i.k⟩]) (T ++ [⟨57, 6, instsV [⟨10, 28, i.a, 0, 0, i.k⟩]⟩]) hp (by simp [KS.put]; omega) (by simp [KS.put]; omega)
    obtain ⟨sE, hE⟩ : ∃ sE, sE = (((s.put [⟨10, 28, i.a, 0, 0, i.k⟩]).put [⟨13, 29, 28, 0, 0, 16⟩]).jump ⟨23, 29, 0, 0, 0, 0⟩ e).put [⟨12, 28, 28, 0, 0, 3⟩, ⟨op, r, 28, 0, 0, 0⟩] := ⟨_, rfl⟩
    have eA : T ++ [⟨57, 6, instsV [⟨10, 28, i.a, 0, 0, i.k⟩]⟩] ++ [b1] ++ [b2] = T ++ [⟨57, 6, instsV [⟨10, 28, i.a, 0, 0, i.k⟩]⟩, b1, b2] := by simp
    have fin := finB sE T [⟨57, 6, instsV [⟨10, 28, i.a, 0, 0, i.k⟩]⟩, b1, b2] hT
    rw [← eA] at fin
    simp only
    rw [← hE] at r5 ⊢
    have g1 : bin Tryd.prog .leq 2 true (I6 i.k) (.int .i64 4095) = some (.bool true) := q_leq_t hk
    clear rest hE eA
    generalize (⟨10, 28, i.a, 0, 0, i.k⟩ : MI) = m10 at *
    generalize (s.put [m10]).put [⟨13, 29, 28, 0, 0, 16⟩] = sB at *
    generalize sB.jump ⟨23, 29, 0, 0, 0, 0⟩ e = sC at *
    generalize s.put [m10] = sA at *
    generalize T ++ [⟨57, 6, instsV [m10]⟩] ++ [b1] ++ [b2] = T3 at *
    generalize T ++ [⟨57, 6, instsV [m10]⟩] ++ [b1] = T2 at *
    generalize T ++ [⟨57, 6, instsV [m10]⟩] = T1 at *
    generalize MI.v ⟨13, 29, 28, 0, 0, 16⟩ = v13 at *
    generalize MI.v ⟨23, 29, 0, 0, 0, 0⟩ = v23 at *
    generalize MI.v ⟨12, 28, 28, 0, 0, 3⟩ = v12 at *
    generalize MI.v ⟨op, r, 28, 0, 0, 0⟩ = vop at *
    refine e_in ?_
    have fx := And.intro b0 <| And.intro w2 <| And.intro w5 <| And.intro g1 <| And.intro q10 <| And.intro c1 <| And.intro c2 <| And.intro q13 <| And.intro r1 <| And.intro r2 <| And.intro q23 <| And.intro r3 <| And.intro q12 <| And.intro qop <| And.intro r4 <| r5
    refine wkB ?_
    exact oF fin
  · rw [if_neg hk]
    obtain ⟨c1, c2, hp⟩ := const_put G k s T hT 28 i.k (by omega)
    have hlen := (constF_len 28 (u64 i.k)).2
    have q3 : buildSt [(0, 1), (1, 1), (2, 1), (3, 1), (4, 1), (5, 1)] [(.int .i64 0), (.int .i64 0), (.int .i64 0), (.int .i64 0), (.int .i64 0), (.int .i64 0)] [(0, .int .i64 3), (1, .int .i64 28), (2, I6 i.a), (3, .int .i64 28)] = some (MI.v ⟨3, 28, i.a, 28, 0, 0⟩) := rfl
    generalize constF 28 (u64 i.k) = L at *
    obtain ⟨T1, hT1⟩ : ∃ T1, T1 = T ++ [⟨57, 6, []⟩, ⟨57, 6, instsV L⟩] := ⟨_, rfl⟩
    rw [← hT1] at c1 c2 hp
    have c3 := build1 (s.put L) T1 ⟨3, 28, i.a, 28, 0, 0⟩
    have c4 := put1 G (k + 8) (s.put L) T1 hp ⟨3, 28, i.a, 28, 0, 0⟩ (by simp [KS.put]; omega)
    have hp2 : Pl (T1 ++ [⟨57, 6, instsV [⟨3, 28, i.a, 28, 0, 0⟩]⟩]) := Pl_app hp (Pl_i _)
    obtain ⟨b1, b2, r1, r2, r3, r4, r5⟩ := rest ((s.put L).put [⟨3, 28, i.a, 28, 0, 0⟩]) (T1 ++ [⟨57, 6, instsV [⟨3, 28, i.a, 28, 0, 0⟩]⟩]) hp2 (by simp [KS.put]; omega) (by simp [KS.put]; omega)
    obtain ⟨sE, hE⟩ : ∃ sE, sE = ((((s.put L).put [⟨3, 28, i.a, 28, 0, 0⟩]).put [⟨13, 29, 28, 0, 0, 16⟩]).jump ⟨23, 29, 0, 0, 0, 0⟩ e).put [⟨12, 28, 28, 0, 0, 3⟩, ⟨op, r, 28, 0, 0, 0⟩] := ⟨_, rfl⟩
    have eA : T1 ++ [⟨57, 6, instsV [⟨3, 28, i.a, 28, 0, 0⟩]⟩] ++ [b1] ++ [b2] = T ++ [⟨57, 6, []⟩, ⟨57, 6, instsV L⟩, ⟨57, 6, instsV [⟨3, 28, i.a, 28, 0, 0⟩]⟩, b1, b2] := by rw [hT1]; simp
    have fin := finB sE T [⟨57, 6, []⟩, ⟨57, 6, instsV L⟩, ⟨57, 6, instsV [⟨3, 28, i.a, 28, 0, 0⟩]⟩, b1, b2] hT
    rw [← eA] at fin
    simp only
    rw [← hE] at r5 ⊢
    have g1 : bin Tryd.prog .leq 2 true (I6 i.k) (.int .i64 4095) = some (.bool false) := q_leq_f (by omega)
    clear rest hE eA hT1
    generalize (⟨3, 28, i.a, 28, 0, 0⟩ : MI) = m3 at *
    generalize ((s.put L).put [m3]).put [⟨13, 29, 28, 0, 0, 16⟩] = sB at *
    generalize sB.jump ⟨23, 29, 0, 0, 0, 0⟩ e = sC at *
    generalize (s.put L).put [m3] = sA at *
    generalize T1 ++ [⟨57, 6, instsV [m3]⟩] ++ [b1] ++ [b2] = T4 at *
    generalize T1 ++ [⟨57, 6, instsV [m3]⟩] ++ [b1] = T3 at *
    generalize T1 ++ [⟨57, 6, instsV [m3]⟩] = T2 at *
    generalize MI.v ⟨13, 29, 28, 0, 0, 16⟩ = v13 at *
    generalize MI.v ⟨23, 29, 0, 0, 0, 0⟩ = v23 at *
    generalize MI.v ⟨12, 28, 28, 0, 0, 3⟩ = v12 at *
    generalize MI.v ⟨op, r, 28, 0, 0, 0⟩ = vop at *
    refine e_in ?_
    have fx := And.intro b0 <| And.intro w2 <| And.intro w5 <| And.intro g1 <| And.intro c1 <| And.intro c2 <| And.intro q3 <| And.intro c3 <| And.intro c4 <| And.intro q13 <| And.intro r1 <| And.intro r2 <| And.intro q23 <| And.intro r3 <| And.intro q12 <| And.intro qop <| And.intro r4 <| r5
    refine wkB ?_
    exact oF fin
end
end Go.Proofs.YtdfglgnflldkpaaDoor.Mir
namespace Go.Proofs.YtdfglgnflldkpaaDoor.Mir
open Go
set_option linter.unusedVariables false
set_option linter.unusedSimpArgs false
set_option maxHeartbeats 8000000
set_option maxRecDepth 20000
theorem one_1 (G : Globs) (k : Nat) (s : KS) (T : AHeap) (hT : Pl T) (d a b c kk e : Int) (hs : s.out.length ≤ 900000) (hj : s.jumps.length ≤ 900000) : heapCall (sel_maker_one.f G (k + 11)) [BX, WI.v ⟨1, d, a, b, c, kk⟩, I6 e] (hpB s T) = some (.tup [], hpB (s.one ⟨1, d, a, b, c, kk⟩ e) T) := by
  apply hcallB
  rw [sel_maker_one.step]
  unfold sel_maker_one.c
  rw [hpB_len]
  have b0 := wx (⟨1, d, a, b, c, kk⟩ : WI)
  have l0 : ∀ H, loadV G false 1 (.rp false (WI.v ⟨1, d, a, b, c, kk⟩) 0) H = some (.int .i64 1) := wl0 G (⟨1, d, a, b, c, kk⟩ : WI)
  have l1 : ∀ H, loadV G false 1 (.rp false (WI.v ⟨1, d, a, b, c, kk⟩) 1) H = some (I6 d) := wl1 G (⟨1, d, a, b, c, kk⟩ : WI)
  have l2 : ∀ H, loadV G false 1 (.rp false (WI.v ⟨1, d, a, b, c, kk⟩) 2) H = some (I6 a) := wl2 G (⟨1, d, a, b, c, kk⟩ : WI)
  have l3 : ∀ H, loadV G false 1 (.rp false (WI.v ⟨1, d, a, b, c, kk⟩) 3) H = some (I6 b) := wl3 G (⟨1, d, a, b, c, kk⟩ : WI)
  have l4 : ∀ H, loadV G false 1 (.rp false (WI.v ⟨1, d, a, b, c, kk⟩) 4) H = some (I6 c) := wl4 G (⟨1, d, a, b, c, kk⟩ : WI)
  have l5 : ∀ H, loadV G false 1 (.rp false (WI.v ⟨1, d, a, b, c, kk⟩) 5) H = some (I6 kk) := wl5 G (⟨1, d, a, b, c, kk⟩ : WI)
  have l6 := wl6 G (⟨1, d, a, b, c, kk⟩ : WI)
  obtain ⟨c1, c2, hp⟩ := const_put G (k + 1) s T hT d kk (by omega)
  have es : s.one ⟨1, d, a, b, c, kk⟩ e = s.put (constF d (u64 kk)) := rfl
  rw [es]
  generalize constF d (u64 kk) = L at *
  have fin := finB (s.put L) T [⟨57, 6, []⟩, ⟨57, 6, instsV L⟩] hT
  generalize T ++ [⟨57, 6, []⟩, ⟨57, 6, instsV L⟩] = T1 at *
  generalize WI.v ⟨1, d, a, b, c, kk⟩ = wv at *
  refine e_in ?_
  have fx := And.intro b0 <| And.intro l0 <| And.intro l1 <| And.intro l2 <| And.intro l3 <| And.intro l4 <| And.intro l5 <| And.intro l6 <| And.intro c1 <| c2
  refine wkB ?_
  exact oF fin
theorem one_2 (G : Globs) (k : Nat) (s : KS) (T : AHeap) (hT : Pl T) (d a b c kk e : Int) (hs : s.out.length ≤ 900000) (hj : s.jumps.length ≤ 900000) : heapCall (sel_maker_one.f G (k + 11)) [BX, WI.v ⟨2, d, a, b, c, kk⟩, I6 e] (hpB s T) = some (.tup [], hpB (s.one ⟨2, d, a, b, c, kk⟩ e) T) := by
  apply hcallB
  rw [sel_maker_one.step]
  unfold sel_maker_one.c
  rw [hpB_len]
  have b0 := wx (⟨2, d, a, b, c, kk⟩ : WI)
  have l0 : ∀ H, loadV G false 1 (.rp false (WI.v ⟨2, d, a, b, c, kk⟩) 0) H = some (.int .i64 2) := wl0 G (⟨2, d, a, b, c, kk⟩ : WI)
  have l1 : ∀ H, loadV G false 1 (.rp false (WI.v ⟨2, d, a, b, c, kk⟩) 1) H = some (I6 d) := wl1 G (⟨2, d, a, b, c, kk⟩ : WI)
  have l2 : ∀ H, loadV G false 1 (.rp false (WI.v ⟨2, d, a, b, c, kk⟩) 2) H = some (I6 a) := wl2 G (⟨2, d, a, b, c, kk⟩ : WI)
  have l3 : ∀ H, loadV G false 1 (.rp false (WI.v ⟨2, d, a, b, c, kk⟩) 3) H = some (I6 b) := wl3 G (⟨2, d, a, b, c, kk⟩ : WI)
  have l4 : ∀ H, loadV G false 1 (.rp false (WI.v ⟨2, d, a, b, c, kk⟩) 4) H = some (I6 c) := wl4 G (⟨2, d, a, b, c, kk⟩ : WI)
  have l5 : ∀ H, loadV G false 1 (.rp false (WI.v ⟨2, d, a, b, c, kk⟩) 5) H = some (I6 kk) := wl5 G (⟨2, d, a, b, c, kk⟩ : WI)
  have l6 := wl6 G (⟨2, d, a, b, c, kk⟩ : WI)
  have q1 : buildSt [(0, 1), (1, 1), (2, 1), (3, 1), (4, 1), (5, 1)] [(.int .i64 0), (.int .i64 0), (.int .i64 0), (.int .i64 0), (.int .i64 0), (.int .i64 0)] [(0, .int .i64 6), (1, I6 d), (2, I6 a), (3, .int .i64 31)] = some (MI.v ⟨6, d, a, 31, 0, 0⟩) := rfl
  have c1 := build1 s T ⟨6, d, a, 31, 0, 0⟩
  have c2 := put1 G (k + 9) s T hT ⟨6, d, a, 31, 0, 0⟩ (by omega)
  have es : s.one ⟨2, d, a, b, c, kk⟩ e = s.put [⟨6, d, a, 31, 0, 0⟩] := rfl
  rw [es]
  have fin := finB (s.put [⟨6, d, a, 31, 0, 0⟩]) T [⟨57, 6, instsV [⟨6, d, a, 31, 0, 0⟩]⟩] hT
  generalize (⟨6, d, a, 31, 0, 0⟩ : MI) = mi at *
  generalize T ++ [⟨57, 6, instsV [mi]⟩] = T1 at *
  generalize WI.v ⟨2, d, a, b, c, kk⟩ = wv at *
  refine e_in ?_
  have fx := And.intro b0 <| And.intro l0 <| And.intro l1 <| And.intro l2 <| And.intro l3 <| And.intro l4 <| And.intro l5 <| And.intro l6 <| And.intro q1 <| And.intro c1 <| c2
  refine wkB ?_
  exact oF fin
theorem one_3 (G : Globs) (k : Nat) (s : KS) (T : AHeap) (hT : Pl T) (d a b c kk e : Int) (hs : s.out.length ≤ 900000) (hj : s.jumps.length ≤ 900000) : heapCall (sel_maker_one.f G (k + 11)) [BX, WI.v ⟨3, d, a, b, c, kk⟩, I6 e] (hpB s T) = some (.tup [], hpB (s.one ⟨3, d, a, b, c, kk⟩ e) T) := by
  apply hcallB
  rw [sel_maker_one.step]
  unfold sel_maker_one.c
  rw [hpB_len]
  have b0 := wx (⟨3, d, a, b, c, kk⟩ : WI)
  have l0 : ∀ H, loadV G false 1 (.rp false (WI.v ⟨3, d, a, b, c, kk⟩) 0) H = some (.int .i64 3) := wl0 G (⟨3, d, a, b, c, kk⟩ : WI)
  have l1 : ∀ H, loadV G false 1 (.rp false (WI.v ⟨3, d, a, b, c, kk⟩) 1) H = some (I6 d) := wl1 G (⟨3, d, a, b, c, kk⟩ : WI)
  have l2 : ∀ H, loadV G false 1 (.rp false (WI.v ⟨3, d, a, b, c, kk⟩) 2) H = some (I6 a) := wl2 G (⟨3, d, a, b, c, kk⟩ : WI)
  have l3 : ∀ H, loadV G false 1 (.rp false (WI.v ⟨3, d, a, b, c, kk⟩) 3) H = some (I6 b) := wl3 G (⟨3, d, a, b, c, kk⟩ : WI)
  have l4 : ∀ H, loadV G false 1 (.rp false (WI.v ⟨3, d, a, b, c, kk⟩) 4) H = some (I6 c) := wl4 G (⟨3, d, a, b, c, kk⟩ : WI)
  have l5 : ∀ H, loadV G false 1 (.rp false (WI.v ⟨3, d, a, b, c, kk⟩) 5) H = some (I6 kk) := wl5 G (⟨3, d, a, b, c, kk⟩ : WI)
  have l6 := wl6 G (⟨3, d, a, b, c, kk⟩ : WI)
  have c1 : heapCall (sel_maker_three.f G (k + 10)) [BX, .int .i64 3, WI.v ⟨3, d, a, b, c, kk⟩] (hpB s T) = some (.tup [], hpB (s.one ⟨3, d, a, b, c, kk⟩ e) T) := three_spec G (k + 8) s T hT 3 (⟨3, d, a, b, c, kk⟩ : WI) (by omega)
  have fin := finB0 (s.one ⟨3, d, a, b, c, kk⟩ e) T hT
  generalize WI.v ⟨3, d, a, b, c, kk⟩ = wv at *
  refine e_in ?_
  have fx := And.intro b0 <| And.intro l0 <| And.intro l1 <| And.intro l2 <| And.intro l3 <| And.intro l4 <| And.intro l5 <| And.intro l6 <| c1
  refine wkB ?_
  exact oF fin
theorem one_4 (G : Globs) (k : Nat) (s : KS) (T : AHeap) (hT : Pl T) (d a b c kk e : Int) (hs : s.out.length ≤ 900000) (hj : s.jumps.length ≤ 900000) : heapCall (sel_maker_one.f G (k + 11)) [BX, WI.v ⟨4, d, a, b, c, kk⟩, I6 e] (hpB s T) = some (.tup [], hpB (s.one ⟨4, d, a, b, c, kk⟩ e) T) := by
  apply hcallB
  rw [sel_maker_one.step]
  unfold sel_maker_one.c
  rw [hpB_len]
  have b0 := wx (⟨4, d, a, b, c, kk⟩ : WI)
  have l0 : ∀ H, loadV G false 1 (.rp false (WI.v ⟨4, d, a, b, c, kk⟩) 0) H = some (.int .i64 4) := wl0 G (⟨4, d, a, b, c, kk⟩ : WI)
  have l1 : ∀ H, loadV G false 1 (.rp false (WI.v ⟨4, d, a, b, c, kk⟩) 1) H = some (I6 d) := wl1 G (⟨4, d, a, b, c, kk⟩ : WI)
  have l2 : ∀ H, loadV G false 1 (.rp false (WI.v ⟨4, d, a, b, c, kk⟩) 2) H = some (I6 a) := wl2 G (⟨4, d, a, b, c, kk⟩ : WI)
  have l3 : ∀ H, loadV G false 1 (.rp false (WI.v ⟨4, d, a, b, c, kk⟩) 3) H = some (I6 b) := wl3 G (⟨4, d, a, b, c, kk⟩ : WI)
  have l4 : ∀ H, loadV G false 1 (.rp false (WI.v ⟨4, d, a, b, c, kk⟩) 4) H = some (I6 c) := wl4 G (⟨4, d, a, b, c, kk⟩ : WI)
  have l5 : ∀ H, loadV G false 1 (.rp false (WI.v ⟨4, d, a, b, c, kk⟩) 5) H = some (I6 kk) := wl5 G (⟨4, d, a, b, c, kk⟩ : WI)
  have l6 := wl6 G (⟨4, d, a, b, c, kk⟩ : WI)
  have c1 : heapCall (sel_maker_three.f G (k + 10)) [BX, .int .i64 4, WI.v ⟨4, d, a, b, c, kk⟩] (hpB s T) = some (.tup [], hpB (s.one ⟨4, d, a, b, c, kk⟩ e) T) := three_spec G (k + 8) s T hT 4 (⟨4, d, a, b, c, kk⟩ : WI) (by omega)
  have fin := finB0 (s.one ⟨4, d, a, b, c, kk⟩ e) T hT
  generalize WI.v ⟨4, d, a, b, c, kk⟩ = wv at *
  refine e_in ?_
  have fx := And.intro b0 <| And.intro l0 <| And.intro l1 <| And.intro l2 <| And.intro l3 <| And.intro l4 <| And.intro l5 <| And.intro l6 <| c1
  refine wkB ?_
  exact oF fin
theorem one_5 (G : Globs) (k : Nat) (s : KS) (T : AHeap) (hT : Pl T) (d a b c kk e : Int) (hs : s.out.length ≤ 900000) (hj : s.jumps.length ≤ 900000) : heapCall (sel_maker_one.f G (k + 11)) [BX, WI.v ⟨5, d, a, b, c, kk⟩, I6 e] (hpB s T) = some (.tup [], hpB (s.one ⟨5, d, a, b, c, kk⟩ e) T) := by
  apply hcallB
  rw [sel_maker_one.step]
  unfold sel_maker_one.c
  rw [hpB_len]
  have b0 := wx (⟨5, d, a, b, c, kk⟩ : WI)
  have l0 : ∀ H, loadV G false 1 (.rp false (WI.v ⟨5, d, a, b, c, kk⟩) 0) H = some (.int .i64 5) := wl0 G (⟨5, d, a, b, c, kk⟩ : WI)
  have l1 : ∀ H, loadV G false 1 (.rp false (WI.v ⟨5, d, a, b, c, kk⟩) 1) H = some (I6 d) := wl1 G (⟨5, d, a, b, c, kk⟩ : WI)
  have l2 : ∀ H, loadV G false 1 (.rp false (WI.v ⟨5, d, a, b, c, kk⟩) 2) H = some (I6 a) := wl2 G (⟨5, d, a, b, c, kk⟩ : WI)
  have l3 : ∀ H, loadV G false 1 (.rp false (WI.v ⟨5, d, a, b, c, kk⟩) 3) H = some (I6 b) := wl3 G (⟨5, d, a, b, c, kk⟩ : WI)
  have l4 : ∀ H, loadV G false 1 (.rp false (WI.v ⟨5, d, a, b, c, kk⟩) 4) H = some (I6 c) := wl4 G (⟨5, d, a, b, c, kk⟩ : WI)
  have l5 : ∀ H, loadV G false 1 (.rp false (WI.v ⟨5, d, a, b, c, kk⟩) 5) H = some (I6 kk) := wl5 G (⟨5, d, a, b, c, kk⟩ : WI)
  have l6 := wl6 G (⟨5, d, a, b, c, kk⟩ : WI)
  have q1 : buildSt [(0, 1), (1, 1), (2, 1), (3, 1), (4, 1), (5, 1)] [(.int .i64 0), (.int .i64 0), (.int .i64 0), (.int .i64 0), (.int .i64 0), (.int .i64 0)] [(0, .int .i64 8), (1, I6 d), (2, I6 a), (3, I6 b), (4, .int .i64 31)] = some (MI.v ⟨8, d, a, b, 31, 0⟩) := rfl
  have c1 := build1 s T ⟨8, d, a, b, 31, 0⟩
  have c2 := put1 G (k + 9) s T hT ⟨8, d, a, b, 31, 0⟩ (by omega)
  have es : s.one ⟨5, d, a, b, c, kk⟩ e = s.put [⟨8, d, a, b, 31, 0⟩] := rfl
  rw [es]
  have fin := finB (s.put [⟨8, d, a, b, 31, 0⟩]) T [⟨57, 6, instsV [⟨8, d, a, b, 31, 0⟩]⟩] hT
  generalize (⟨8, d, a, b, 31, 0⟩ : MI) = mi at *
  generalize T ++ [⟨57, 6, instsV [mi]⟩] = T1 at *
  generalize WI.v ⟨5, d, a, b, c, kk⟩ = wv at *
  refine e_in ?_
  have fx := And.intro b0 <| And.intro l0 <| And.intro l1 <| And.intro l2 <| And.intro l3 <| And.intro l4 <| And.intro l5 <| And.intro l6 <| And.intro q1 <| And.intro c1 <| c2
  refine wkB ?_
  exact oF fin
theorem one_6 (G : Globs) (k : Nat) (s : KS) (T : AHeap) (hT : Pl T) (d a b c kk e : Int) (hs : s.out.length ≤ 900000) (hj : s.jumps.length ≤ 900000) : heapCall (sel_maker_one.f G (k + 11)) [BX, WI.v ⟨6, d, a, b, c, kk⟩, I6 e] (hpB s T) = some (.tup [], hpB (s.one ⟨6, d, a, b, c, kk⟩ e) T) := by
  apply hcallB
  rw [sel_maker_one.step]
  unfold sel_maker_one.c
  rw [hpB_len]
  have b0 := wx (⟨6, d, a, b, c, kk⟩ : WI)
  have l0 : ∀ H, loadV G false 1 (.rp false (WI.v ⟨6, d, a, b, c, kk⟩) 0) H = some (.int .i64 6) := wl0 G (⟨6, d, a, b, c, kk⟩ : WI)
  have l1 : ∀ H, loadV G false 1 (.rp false (WI.v ⟨6, d, a, b, c, kk⟩) 1) H = some (I6 d) := wl1 G (⟨6, d, a, b, c, kk⟩ : WI)
  have l2 : ∀ H, loadV G false 1 (.rp false (WI.v ⟨6, d, a, b, c, kk⟩) 2) H = some (I6 a) := wl2 G (⟨6, d, a, b, c, kk⟩ : WI)
  have l3 : ∀ H, loadV G false 1 (.rp false (WI.v ⟨6, d, a, b, c, kk⟩) 3) H = some (I6 b) := wl3 G (⟨6, d, a, b, c, kk⟩ : WI)
  have l4 : ∀ H, loadV G false 1 (.rp false (WI.v ⟨6, d, a, b, c, kk⟩) 4) H = some (I6 c) := wl4 G (⟨6, d, a, b, c, kk⟩ : WI)
  have l5 : ∀ H, loadV G false 1 (.rp false (WI.v ⟨6, d, a, b, c, kk⟩) 5) H = some (I6 kk) := wl5 G (⟨6, d, a, b, c, kk⟩ : WI)
  have l6 := wl6 G (⟨6, d, a, b, c, kk⟩ : WI)
  have c1 : heapCall (sel_maker_three.f G (k + 10)) [BX, .int .i64 9, WI.v ⟨6, d, a, b, c, kk⟩] (hpB s T) = some (.tup [], hpB (s.one ⟨6, d, a, b, c, kk⟩ e) T) := three_spec G (k + 8) s T hT 9 (⟨6, d, a, b, c, kk⟩ : WI) (by omega)
  have fin := finB0 (s.one ⟨6, d, a, b, c, kk⟩ e) T hT
  generalize WI.v ⟨6, d, a, b, c, kk⟩ = wv at *
  refine e_in ?_
  have fx := And.intro b0 <| And.intro l0 <| And.intro l1 <| And.intro l2 <| And.intro l3 <| And.intro l4 <| And.intro l5 <| And.intro l6 <| c1
  refine wkB ?_
  exact oF fin
theorem one_7 (G : Globs) (k : Nat) (s : KS) (T : AHeap) (hT : Pl T) (d a b c kk e : Int) (hs : s.out.length ≤ 900000) (hj : s.jumps.length ≤ 900000) : heapCall (sel_maker_one.f G (k + 11)) [BX, WI.v ⟨7, d, a, b, c, kk⟩, I6 e] (hpB s T) = some (.tup [], hpB (s.one ⟨7, d, a, b, c, kk⟩ e) T) := by
  apply hcallB
  rw [sel_maker_one.step]
  unfold sel_maker_one.c
  rw [hpB_len]
  have b0 := wx (⟨7, d, a, b, c, kk⟩ : WI)
  have l0 : ∀ H, loadV G false 1 (.rp false (WI.v ⟨7, d, a, b, c, kk⟩) 0) H = some (.int .i64 7) := wl0 G (⟨7, d, a, b, c, kk⟩ : WI)
  have l1 : ∀ H, loadV G false 1 (.rp false (WI.v ⟨7, d, a, b, c, kk⟩) 1) H = some (I6 d) := wl1 G (⟨7, d, a, b, c, kk⟩ : WI)
  have l2 : ∀ H, loadV G false 1 (.rp false (WI.v ⟨7, d, a, b, c, kk⟩) 2) H = some (I6 a) := wl2 G (⟨7, d, a, b, c, kk⟩ : WI)
  have l3 : ∀ H, loadV G false 1 (.rp false (WI.v ⟨7, d, a, b, c, kk⟩) 3) H = some (I6 b) := wl3 G (⟨7, d, a, b, c, kk⟩ : WI)
  have l4 : ∀ H, loadV G false 1 (.rp false (WI.v ⟨7, d, a, b, c, kk⟩) 4) H = some (I6 c) := wl4 G (⟨7, d, a, b, c, kk⟩ : WI)
  have l5 : ∀ H, loadV G false 1 (.rp false (WI.v ⟨7, d, a, b, c, kk⟩) 5) H = some (I6 kk) := wl5 G (⟨7, d, a, b, c, kk⟩ : WI)
  have l6 := wl6 G (⟨7, d, a, b, c, kk⟩ : WI)
  have c1 : heapCall (sel_maker_three.f G (k + 10)) [BX, .int .i64 5, WI.v ⟨7, d, a, b, c, kk⟩] (hpB s T) = some (.tup [], hpB (s.one ⟨7, d, a, b, c, kk⟩ e) T) := three_spec G (k + 8) s T hT 5 (⟨7, d, a, b, c, kk⟩ : WI) (by omega)
  have fin := finB0 (s.one ⟨7, d, a, b, c, kk⟩ e) T hT
  generalize WI.v ⟨7, d, a, b, c, kk⟩ = wv at *
  refine e_in ?_
  have fx := And.intro b0 <| And.intro l0 <| And.intro l1 <| And.intro l2 <| And.intro l3 <| And.intro l4 <| And.intro l5 <| And.intro l6 <| c1
  refine wkB ?_
  exact oF fin
theorem one_8 (G : Globs) (k : Nat) (s : KS) (T : AHeap) (hT : Pl T) (d a b c kk e : Int) (hs : s.out.length ≤ 900000) (hj : s.jumps.length ≤ 900000) : heapCall (sel_maker_one.f G (k + 11)) [BX, WI.v ⟨8, d, a, b, c, kk⟩, I6 e] (hpB s T) = some (.tup [], hpB (s.one ⟨8, d, a, b, c, kk⟩ e) T) := by
  apply hcallB
  rw [sel_maker_one.step]
  unfold sel_maker_one.c
  rw [hpB_len]
  have b0 := wx (⟨8, d, a, b, c, kk⟩ : WI)
  have l0 : ∀ H, loadV G false 1 (.rp false (WI.v ⟨8, d, a, b, c, kk⟩) 0) H = some (.int .i64 8) := wl0 G (⟨8, d, a, b, c, kk⟩ : WI)
  have l1 : ∀ H, loadV G false 1 (.rp false (WI.v ⟨8, d, a, b, c, kk⟩) 1) H = some (I6 d) := wl1 G (⟨8, d, a, b, c, kk⟩ : WI)
  have l2 : ∀ H, loadV G false 1 (.rp false (WI.v ⟨8, d, a, b, c, kk⟩) 2) H = some (I6 a) := wl2 G (⟨8, d, a, b, c, kk⟩ : WI)
  have l3 : ∀ H, loadV G false 1 (.rp false (WI.v ⟨8, d, a, b, c, kk⟩) 3) H = some (I6 b) := wl3 G (⟨8, d, a, b, c, kk⟩ : WI)
  have l4 : ∀ H, loadV G false 1 (.rp false (WI.v ⟨8, d, a, b, c, kk⟩) 4) H = some (I6 c) := wl4 G (⟨8, d, a, b, c, kk⟩ : WI)
  have l5 : ∀ H, loadV G false 1 (.rp false (WI.v ⟨8, d, a, b, c, kk⟩) 5) H = some (I6 kk) := wl5 G (⟨8, d, a, b, c, kk⟩ : WI)
  have l6 := wl6 G (⟨8, d, a, b, c, kk⟩ : WI)
  have c1 : heapCall (sel_maker_three.f G (k + 10)) [BX, .int .i64 6, WI.v ⟨8, d, a, b, c, kk⟩] (hpB s T) = some (.tup [], hpB (s.one ⟨8, d, a, b, c, kk⟩ e) T) := three_spec G (k + 8) s T hT 6 (⟨8, d, a, b, c, kk⟩ : WI) (by omega)
  have fin := finB0 (s.one ⟨8, d, a, b, c, kk⟩ e) T hT
  generalize WI.v ⟨8, d, a, b, c, kk⟩ = wv at *
  refine e_in ?_
  have fx := And.intro b0 <| And.intro l0 <| And.intro l1 <| And.intro l2 <| And.intro l3 <| And.intro l4 <| And.intro l5 <| And.intro l6 <| c1
  refine wkB ?_
  exact oF fin
theorem one_9 (G : Globs) (k : Nat) (s : KS) (T : AHeap) (hT : Pl T) (d a b c kk e : Int) (hs : s.out.length ≤ 900000) (hj : s.jumps.length ≤ 900000) : heapCall (sel_maker_one.f G (k + 11)) [BX, WI.v ⟨9, d, a, b, c, kk⟩, I6 e] (hpB s T) = some (.tup [], hpB (s.one ⟨9, d, a, b, c, kk⟩ e) T) := by
  apply hcallB
  rw [sel_maker_one.step]
  unfold sel_maker_one.c
  rw [hpB_len]
  have b0 := wx (⟨9, d, a, b, c, kk⟩ : WI)
  have l0 : ∀ H, loadV G false 1 (.rp false (WI.v ⟨9, d, a, b, c, kk⟩) 0) H = some (.int .i64 9) := wl0 G (⟨9, d, a, b, c, kk⟩ : WI)
  have l1 : ∀ H, loadV G false 1 (.rp false (WI.v ⟨9, d, a, b, c, kk⟩) 1) H = some (I6 d) := wl1 G (⟨9, d, a, b, c, kk⟩ : WI)
  have l2 : ∀ H, loadV G false 1 (.rp false (WI.v ⟨9, d, a, b, c, kk⟩) 2) H = some (I6 a) := wl2 G (⟨9, d, a, b, c, kk⟩ : WI)
  have l3 : ∀ H, loadV G false 1 (.rp false (WI.v ⟨9, d, a, b, c, kk⟩) 3) H = some (I6 b) := wl3 G (⟨9, d, a, b, c, kk⟩ : WI)
  have l4 : ∀ H, loadV G false 1 (.rp false (WI.v ⟨9, d, a, b, c, kk⟩) 4) H = some (I6 c) := wl4 G (⟨9, d, a, b, c, kk⟩ : WI)
  have l5 : ∀ H, loadV G false 1 (.rp false (WI.v ⟨9, d, a, b, c, kk⟩) 5) H = some (I6 kk) := wl5 G (⟨9, d, a, b, c, kk⟩ : WI)
  have l6 := wl6 G (⟨9, d, a, b, c, kk⟩ : WI)
  have c1 : heapCall (sel_maker_three.f G (k + 10)) [BX, .int .i64 7, WI.v ⟨9, d, a, b, c, kk⟩] (hpB s T) = some (.tup [], hpB (s.one ⟨9, d, a, b, c, kk⟩ e) T) := three_spec G (k + 8) s T hT 7 (⟨9, d, a, b, c, kk⟩ : WI) (by omega)
  have fin := finB0 (s.one ⟨9, d, a, b, c, kk⟩ e) T hT
  generalize WI.v ⟨9, d, a, b, c, kk⟩ = wv at *
  refine e_in ?_
  have fx := And.intro b0 <| And.intro l0 <| And.intro l1 <| And.intro l2 <| And.intro l3 <| And.intro l4 <| And.intro l5 <| And.intro l6 <| c1
  refine wkB ?_
  exact oF fin
theorem one_10 (G : Globs) (k : Nat) (s : KS) (T : AHeap) (hT : Pl T) (d a b c kk e : Int) (hs : s.out.length ≤ 900000) (hj : s.jumps.length ≤ 900000) : heapCall (sel_maker_one.f G (k + 11)) [BX, WI.v ⟨10, d, a, b, c, kk⟩, I6 e] (hpB s T) = some (.tup [], hpB (s.one ⟨10, d, a, b, c, kk⟩ e) T) := by
  apply hcallB
  rw [sel_maker_one.step]
  unfold sel_maker_one.c
  rw [hpB_len]
  have b0 := wx (⟨10, d, a, b, c, kk⟩ : WI)
  have l0 : ∀ H, loadV G false 1 (.rp false (WI.v ⟨10, d, a, b, c, kk⟩) 0) H = some (.int .i64 10) := wl0 G (⟨10, d, a, b, c, kk⟩ : WI)
  have l1 : ∀ H, loadV G false 1 (.rp false (WI.v ⟨10, d, a, b, c, kk⟩) 1) H = some (I6 d) := wl1 G (⟨10, d, a, b, c, kk⟩ : WI)
  have l2 : ∀ H, loadV G false 1 (.rp false (WI.v ⟨10, d, a, b, c, kk⟩) 2) H = some (I6 a) := wl2 G (⟨10, d, a, b, c, kk⟩ : WI)
  have l3 : ∀ H, loadV G false 1 (.rp false (WI.v ⟨10, d, a, b, c, kk⟩) 3) H = some (I6 b) := wl3 G (⟨10, d, a, b, c, kk⟩ : WI)
  have l4 : ∀ H, loadV G false 1 (.rp false (WI.v ⟨10, d, a, b, c, kk⟩) 4) H = some (I6 c) := wl4 G (⟨10, d, a, b, c, kk⟩ : WI)
  have l5 : ∀ H, loadV G false 1 (.rp false (WI.v ⟨10, d, a, b, c, kk⟩) 5) H = some (I6 kk) := wl5 G (⟨10, d, a, b, c, kk⟩ : WI)
  have l6 := wl6 G (⟨10, d, a, b, c, kk⟩ : WI)
  have c1 : heapCall (sel_maker_shift.f G (k + 10)) [BX, .int .i64 12, WI.v ⟨10, d, a, b, c, kk⟩] (hpB s T) = some (.tup [], hpB (s.one ⟨10, d, a, b, c, kk⟩ e) T) := shift_spec G (k + 8) s T hT 12 (⟨10, d, a, b, c, kk⟩ : WI) (by omega)
  have fin := finB0 (s.one ⟨10, d, a, b, c, kk⟩ e) T hT
  generalize WI.v ⟨10, d, a, b, c, kk⟩ = wv at *
  refine e_in ?_
  have fx := And.intro b0 <| And.intro l0 <| And.intro l1 <| And.intro l2 <| And.intro l3 <| And.intro l4 <| And.intro l5 <| And.intro l6 <| c1
  refine wkB ?_
  exact oF fin
theorem one_11 (G : Globs) (k : Nat) (s : KS) (T : AHeap) (hT : Pl T) (d a b c kk e : Int) (hs : s.out.length ≤ 900000) (hj : s.jumps.length ≤ 900000) : heapCall (sel_maker_one.f G (k + 11)) [BX, WI.v ⟨11, d, a, b, c, kk⟩, I6 e] (hpB s T) = some (.tup [], hpB (s.one ⟨11, d, a, b, c, kk⟩ e) T) := by
  apply hcallB
  rw [sel_maker_one.step]
  unfold sel_maker_one.c
  rw [hpB_len]
  have b0 := wx (⟨11, d, a, b, c, kk⟩ : WI)
  have l0 : ∀ H, loadV G false 1 (.rp false (WI.v ⟨11, d, a, b, c, kk⟩) 0) H = some (.int .i64 11) := wl0 G (⟨11, d, a, b, c, kk⟩ : WI)
  have l1 : ∀ H, loadV G false 1 (.rp false (WI.v ⟨11, d, a, b, c, kk⟩) 1) H = some (I6 d) := wl1 G (⟨11, d, a, b, c, kk⟩ : WI)
  have l2 : ∀ H, loadV G false 1 (.rp false (WI.v ⟨11, d, a, b, c, kk⟩) 2) H = some (I6 a) := wl2 G (⟨11, d, a, b, c, kk⟩ : WI)
  have l3 : ∀ H, loadV G false 1 (.rp false (WI.v ⟨11, d, a, b, c, kk⟩) 3) H = some (I6 b) := wl3 G (⟨11, d, a, b, c, kk⟩ : WI)
  have l4 : ∀ H, loadV G false 1 (.rp false (WI.v ⟨11, d, a, b, c, kk⟩) 4) H = some (I6 c) := wl4 G (⟨11, d, a, b, c, kk⟩ : WI)
  have l5 : ∀ H, loadV G false 1 (.rp false (WI.v ⟨11, d, a, b, c, kk⟩) 5) H = some (I6 kk) := wl5 G (⟨11, d, a, b, c, kk⟩ : WI)
  have l6 := wl6 G (⟨11, d, a, b, c, kk⟩ : WI)
  have c1 : heapCall (sel_maker_shift.f G (k + 10)) [BX, .int .i64 13, WI.v ⟨11, d, a, b, c, kk⟩] (hpB s T) = some (.tup [], hpB (s.one ⟨11, d, a, b, c, kk⟩ e) T) := shift_spec G (k + 8) s T hT 13 (⟨11, d, a, b, c, kk⟩ : WI) (by omega)
  have fin := finB0 (s.one ⟨11, d, a, b, c, kk⟩ e) T hT
  generalize WI.v ⟨11, d, a, b, c, kk⟩ = wv at *
  refine e_in ?_
  have fx := And.intro b0 <| And.intro l0 <| And.intro l1 <| And.intro l2 <| And.intro l3 <| And.intro l4 <| And.intro l5 <| And.intro l6 <| c1
  refine wkB ?_
  exact oF fin
theorem one_12 (G : Globs) (k : Nat) (s : KS) (T : AHeap) (hT : Pl T) (d a b c kk e : Int) (hs : s.out.length ≤ 900000) (hj : s.jumps.length ≤ 900000) : heapCall (sel_maker_one.f G (k + 11)) [BX, WI.v ⟨12, d, a, b, c, kk⟩, I6 e] (hpB s T) = some (.tup [], hpB (s.one ⟨12, d, a, b, c, kk⟩ e) T) := by
  apply hcallB
  rw [sel_maker_one.step]
  unfold sel_maker_one.c
  rw [hpB_len]
  have b0 := wx (⟨12, d, a, b, c, kk⟩ : WI)
  have l0 : ∀ H, loadV G false 1 (.rp false (WI.v ⟨12, d, a, b, c, kk⟩) 0) H = some (.int .i64 12) := wl0 G (⟨12, d, a, b, c, kk⟩ : WI)
  have l1 : ∀ H, loadV G false 1 (.rp false (WI.v ⟨12, d, a, b, c, kk⟩) 1) H = some (I6 d) := wl1 G (⟨12, d, a, b, c, kk⟩ : WI)
  have l2 : ∀ H, loadV G false 1 (.rp false (WI.v ⟨12, d, a, b, c, kk⟩) 2) H = some (I6 a) := wl2 G (⟨12, d, a, b, c, kk⟩ : WI)
  have l3 : ∀ H, loadV G false 1 (.rp false (WI.v ⟨12, d, a, b, c, kk⟩) 3) H = some (I6 b) := wl3 G (⟨12, d, a, b, c, kk⟩ : WI)
  have l4 : ∀ H, loadV G false 1 (.rp false (WI.v ⟨12, d, a, b, c, kk⟩) 4) H = some (I6 c) := wl4 G (⟨12, d, a, b, c, kk⟩ : WI)
  have l5 : ∀ H, loadV G false 1 (.rp false (WI.v ⟨12, d, a, b, c, kk⟩) 5) H = some (I6 kk) := wl5 G (⟨12, d, a, b, c, kk⟩ : WI)
  have l6 := wl6 G (⟨12, d, a, b, c, kk⟩ : WI)
  have c1 : heapCall (sel_maker_shift.f G (k + 10)) [BX, .int .i64 14, WI.v ⟨12, d, a, b, c, kk⟩] (hpB s T) = some (.tup [], hpB (s.one ⟨12, d, a, b, c, kk⟩ e) T) := shift_spec G (k + 8) s T hT 14 (⟨12, d, a, b, c, kk⟩ : WI) (by omega)
  have fin := finB0 (s.one ⟨12, d, a, b, c, kk⟩ e) T hT
  generalize WI.v ⟨12, d, a, b, c, kk⟩ = wv at *
  refine e_in ?_
  have fx := And.intro b0 <| And.intro l0 <| And.intro l1 <| And.intro l2 <| And.intro l3 <| And.intro l4 <| And.intro l5 <| And.intro l6 <| c1
  refine wkB ?_
  exact oF fin
theorem one_13 (G : Globs) (k : Nat) (s : KS) (T : AHeap) (hT : Pl T) (d a b c kk e : Int) (hs : s.out.length ≤ 900000) (hj : s.jumps.length ≤ 900000) : heapCall (sel_maker_one.f G (k + 11)) [BX, WI.v ⟨13, d, a, b, c, kk⟩, I6 e] (hpB s T) = some (.tup [], hpB (s.one ⟨13, d, a, b, c, kk⟩ e) T) := by
  apply hcallB
  rw [sel_maker_one.step]
  unfold sel_maker_one.c
  rw [hpB_len]
  have b0 := wx (⟨13, d, a, b, c, kk⟩ : WI)
  have l0 : ∀ H, loadV G false 1 (.rp false (WI.v ⟨13, d, a, b, c, kk⟩) 0) H = some (.int .i64 13) := wl0 G (⟨13, d, a, b, c, kk⟩ : WI)
  have l1 : ∀ H, loadV G false 1 (.rp false (WI.v ⟨13, d, a, b, c, kk⟩) 1) H = some (I6 d) := wl1 G (⟨13, d, a, b, c, kk⟩ : WI)
  have l2 : ∀ H, loadV G false 1 (.rp false (WI.v ⟨13, d, a, b, c, kk⟩) 2) H = some (I6 a) := wl2 G (⟨13, d, a, b, c, kk⟩ : WI)
  have l3 : ∀ H, loadV G false 1 (.rp false (WI.v ⟨13, d, a, b, c, kk⟩) 3) H = some (I6 b) := wl3 G (⟨13, d, a, b, c, kk⟩ : WI)
  have l4 : ∀ H, loadV G false 1 (.rp false (WI.v ⟨13, d, a, b, c, kk⟩) 4) H = some (I6 c) := wl4 G (⟨13, d, a, b, c, kk⟩ : WI)
  have l5 : ∀ H, loadV G false 1 (.rp false (WI.v ⟨13, d, a, b, c, kk⟩) 5) H = some (I6 kk) := wl5 G (⟨13, d, a, b, c, kk⟩ : WI)
  have l6 := wl6 G (⟨13, d, a, b, c, kk⟩ : WI)
  have q1 : buildSt [(0, 1), (1, 1), (2, 1), (3, 1), (4, 1), (5, 1)] [(.int .i64 0), (.int .i64 0), (.int .i64 0), (.int .i64 0), (.int .i64 0), (.int .i64 0)] [(0, .int .i64 15), (2, I6 a), (3, I6 b)] = some (MI.v ⟨15, 0, a, b, 0, 0⟩) := rfl
  have q2 : buildSt [(0, 1), (1, 1), (2, 1), (3, 1), (4, 1), (5, 1)] [(.int .i64 0), (.int .i64 0), (.int .i64 0), (.int .i64 0), (.int .i64 0), (.int .i64 0)] [(0, .int .i64 17), (1, I6 d), (4, .int .i64 3)] = some (MI.v ⟨17, d, 0, 0, 3, 0⟩) := rfl
  have c1 := build2 s T ⟨15, 0, a, b, 0, 0⟩ ⟨17, d, 0, 0, 3, 0⟩
  have c2 := put2 G (k + 9) s T hT ⟨15, 0, a, b, 0, 0⟩ ⟨17, d, 0, 0, 3, 0⟩ (by omega)
  have es : s.one ⟨13, d, a, b, c, kk⟩ e = s.put [⟨15, 0, a, b, 0, 0⟩, ⟨17, d, 0, 0, 3, 0⟩] := rfl
  rw [es]
  have fin := finB (s.put [⟨15, 0, a, b, 0, 0⟩, ⟨17, d, 0, 0, 3, 0⟩]) T [⟨57, 6, instsV [⟨15, 0, a, b, 0, 0⟩, ⟨17, d, 0, 0, 3, 0⟩]⟩] hT
  generalize (⟨15, 0, a, b, 0, 0⟩ : MI) = mi at *
  generalize (⟨17, d, 0, 0, 3, 0⟩ : MI) = mj at *
  generalize T ++ [⟨57, 6, instsV [mi, mj]⟩] = T1 at *
  generalize WI.v ⟨13, d, a, b, c, kk⟩ = wv at *
  refine e_in ?_
  have fx := And.intro b0 <| And.intro l0 <| And.intro l1 <| And.intro l2 <| And.intro l3 <| And.intro l4 <| And.intro l5 <| And.intro l6 <| And.intro q1 <| And.intro q2 <| And.intro c1 <| c2
  refine wkB ?_
  exact oF fin
theorem one_14 (G : Globs) (k : Nat) (s : KS) (T : AHeap) (hT : Pl T) (d a b c kk e : Int) (hs : s.out.length ≤ 900000) (hj : s.jumps.length ≤ 900000) : heapCall (sel_maker_one.f G (k + 11)) [BX, WI.v ⟨14, d, a, b, c, kk⟩, I6 e] (hpB s T) = some (.tup [], hpB (s.one ⟨14, d, a, b, c, kk⟩ e) T) := by
  apply hcallB
  rw [sel_maker_one.step]
  unfold sel_maker_one.c
  rw [hpB_len]
  have b0 := wx (⟨14, d, a, b, c, kk⟩ : WI)
  have l0 : ∀ H, loadV G false 1 (.rp false (WI.v ⟨14, d, a, b, c, kk⟩) 0) H = some (.int .i64 14) := wl0 G (⟨14, d, a, b, c, kk⟩ : WI)
  have l1 : ∀ H, loadV G false 1 (.rp false (WI.v ⟨14, d, a, b, c, kk⟩) 1) H = some (I6 d) := wl1 G (⟨14, d, a, b, c, kk⟩ : WI)
  have l2 : ∀ H, loadV G false 1 (.rp false (WI.v ⟨14, d, a, b, c, kk⟩) 2) H = some (I6 a) := wl2 G (⟨14, d, a, b, c, kk⟩ : WI)
  have l3 : ∀ H, loadV G false 1 (.rp false (WI.v ⟨14, d, a, b, c, kk⟩) 3) H = some (I6 b) := wl3 G (⟨14, d, a, b, c, kk⟩ : WI)
  have l4 : ∀ H, loadV G false 1 (.rp false (WI.v ⟨14, d, a, b, c, kk⟩) 4) H = some (I6 c) := wl4 G (⟨14, d, a, b, c, kk⟩ : WI)
  have l5 : ∀ H, loadV G false 1 (.rp false (WI.v ⟨14, d, a, b, c, kk⟩) 5) H = some (I6 kk) := wl5 G (⟨14, d, a, b, c, kk⟩ : WI)
  have l6 := wl6 G (⟨14, d, a, b, c, kk⟩ : WI)
  have q1 : buildSt [(0, 1), (1, 1), (2, 1), (3, 1), (4, 1), (5, 1)] [(.int .i64 0), (.int .i64 0), (.int .i64 0), (.int .i64 0), (.int .i64 0), (.int .i64 0)] [(0, .int .i64 15), (2, I6 a), (3, .int .i64 31)] = some (MI.v ⟨15, 0, a, 31, 0, 0⟩) := rfl
  have q2 : buildSt [(0, 1), (1, 1), (2, 1), (3, 1), (4, 1), (5, 1)] [(.int .i64 0), (.int .i64 0), (.int .i64 0), (.int .i64 0), (.int .i64 0), (.int .i64 0)] [(0, .int .i64 16), (1, I6 d), (2, I6 b), (3, I6 c), (4, .int .i64 1)] = some (MI.v ⟨16, d, b, c, 1, 0⟩) := rfl
  have c1 := build2 s T ⟨15, 0, a, 31, 0, 0⟩ ⟨16, d, b, c, 1, 0⟩
  have c2 := put2 G (k + 9) s T hT ⟨15, 0, a, 31, 0, 0⟩ ⟨16, d, b, c, 1, 0⟩ (by omega)
  have es : s.one ⟨14, d, a, b, c, kk⟩ e = s.put [⟨15, 0, a, 31, 0, 0⟩, ⟨16, d, b, c, 1, 0⟩] := rfl
  rw [es]
  have fin := finB (s.put [⟨15, 0, a, 31, 0, 0⟩, ⟨16, d, b, c, 1, 0⟩]) T [⟨57, 6, instsV [⟨15, 0, a, 31, 0, 0⟩, ⟨16, d, b, c, 1, 0⟩]⟩] hT
  generalize (⟨15, 0, a, 31, 0, 0⟩ : MI) = mi at *
  generalize (⟨16, d, b, c, 1, 0⟩ : MI) = mj at *
  generalize T ++ [⟨57, 6, instsV [mi, mj]⟩] = T1 at *
  generalize WI.v ⟨14, d, a, b, c, kk⟩ = wv at *
  refine e_in ?_
  have fx := And.intro b0 <| And.intro l0 <| And.intro l1 <| And.intro l2 <| And.intro l3 <| And.intro l4 <| And.intro l5 <| And.intro l6 <| And.intro q1 <| And.intro q2 <| And.intro c1 <| c2
  refine wkB ?_
  exact oF fin
theorem one_15 (G : Globs) (k : Nat) (s : KS) (T : AHeap) (hT : Pl T) (d a b c kk e : Int) (hs : s.out.length ≤ 900000) (hj : s.jumps.length ≤ 900000) : heapCall (sel_maker_one.f G (k + 11)) [BX, WI.v ⟨15, d, a, b, c, kk⟩, I6 e] (hpB s T) = some (.tup [], hpB (s.one ⟨15, d, a, b, c, kk⟩ e) T) := by
  apply hcallB
  rw [sel_maker_one.step]
  unfold sel_maker_one.c
  rw [hpB_len]
  have b0 := wx (⟨15, d, a, b, c, kk⟩ : WI)
  have l0 : ∀ H, loadV G false 1 (.rp false (WI.v ⟨15, d, a, b, c, kk⟩) 0) H = some (.int .i64 15) := wl0 G (⟨15, d, a, b, c, kk⟩ : WI)
  have l1 : ∀ H, loadV G false 1 (.rp false (WI.v ⟨15, d, a, b, c, kk⟩) 1) H = some (I6 d) := wl1 G (⟨15, d, a, b, c, kk⟩ : WI)
  have l2 : ∀ H, loadV G false 1 (.rp false (WI.v ⟨15, d, a, b, c, kk⟩) 2) H = some (I6 a) := wl2 G (⟨15, d, a, b, c, kk⟩ : WI)
  have l3 : ∀ H, loadV G false 1 (.rp false (WI.v ⟨15, d, a, b, c, kk⟩) 3) H = some (I6 b) := wl3 G (⟨15, d, a, b, c, kk⟩ : WI)
  have l4 : ∀ H, loadV G false 1 (.rp false (WI.v ⟨15, d, a, b, c, kk⟩) 4) H = some (I6 c) := wl4 G (⟨15, d, a, b, c, kk⟩ : WI)
  have l5 : ∀ H, loadV G false 1 (.rp false (WI.v ⟨15, d, a, b, c, kk⟩) 5) H = some (I6 kk) := wl5 G (⟨15, d, a, b, c, kk⟩ : WI)
  have l6 := wl6 G (⟨15, d, a, b, c, kk⟩ : WI)
  have c1 : heapCall (sel_maker_touch.f G (k + 10)) [BX, .int .i64 18, I6 d, WI.v ⟨15, d, a, b, c, kk⟩, I6 e] (hpB s T) = some (.tup [], hpB (s.one ⟨15, d, a, b, c, kk⟩ e) T) := touch_spec G k s T hT 18 d (⟨15, d, a, b, c, kk⟩ : WI) e hs hj
  have fin := finB0 (s.one ⟨15, d, a, b, c, kk⟩ e) T hT
  generalize WI.v ⟨15, d, a, b, c, kk⟩ = wv at *
  refine e_in ?_
  have fx := And.intro b0 <| And.intro l0 <| And.intro l1 <| And.intro l2 <| And.intro l3 <| And.intro l4 <| And.intro l5 <| And.intro l6 <| c1
  refine wkB ?_
  exact oF fin
theorem one_16 (G : Globs) (k : Nat) (s : KS) (T : AHeap) (hT : Pl T) (d a b c kk e : Int) (hs : s.out.length ≤ 900000) (hj : s.jumps.length ≤ 900000) : heapCall (sel_maker_one.f G (k + 11)) [BX, WI.v ⟨16, d, a, b, c, kk⟩, I6 e] (hpB s T) = some (.tup [], hpB (s.one ⟨16, d, a, b, c, kk⟩ e) T) := by
  apply hcallB
  rw [sel_maker_one.step]
  unfold sel_maker_one.c
  rw [hpB_len]
  have b0 := wx (⟨16, d, a, b, c, kk⟩ : WI)
  have l0 : ∀ H, loadV G false 1 (.rp false (WI.v ⟨16, d, a, b, c, kk⟩) 0) H = some (.int .i64 16) := wl0 G (⟨16, d, a, b, c, kk⟩ : WI)
  have l1 : ∀ H, loadV G false 1 (.rp false (WI.v ⟨16, d, a, b, c, kk⟩) 1) H = some (I6 d) := wl1 G (⟨16, d, a, b, c, kk⟩ : WI)
  have l2 : ∀ H, loadV G false 1 (.rp false (WI.v ⟨16, d, a, b, c, kk⟩) 2) H = some (I6 a) := wl2 G (⟨16, d, a, b, c, kk⟩ : WI)
  have l3 : ∀ H, loadV G false 1 (.rp false (WI.v ⟨16, d, a, b, c, kk⟩) 3) H = some (I6 b) := wl3 G (⟨16, d, a, b, c, kk⟩ : WI)
  have l4 : ∀ H, loadV G false 1 (.rp false (WI.v ⟨16, d, a, b, c, kk⟩) 4) H = some (I6 c) := wl4 G (⟨16, d, a, b, c, kk⟩ : WI)
  have l5 : ∀ H, loadV G false 1 (.rp false (WI.v ⟨16, d, a, b, c, kk⟩) 5) H = some (I6 kk) := wl5 G (⟨16, d, a, b, c, kk⟩ : WI)
  have l6 := wl6 G (⟨16, d, a, b, c, kk⟩ : WI)
  have c1 : heapCall (sel_maker_touch.f G (k + 10)) [BX, .int .i64 19, I6 b, WI.v ⟨16, d, a, b, c, kk⟩, I6 e] (hpB s T) = some (.tup [], hpB (s.one ⟨16, d, a, b, c, kk⟩ e) T) := touch_spec G k s T hT 19 b (⟨16, d, a, b, c, kk⟩ : WI) e hs hj
  have fin := finB0 (s.one ⟨16, d, a, b, c, kk⟩ e) T hT
  generalize WI.v ⟨16, d, a, b, c, kk⟩ = wv at *
  refine e_in ?_
  have fx := And.intro b0 <| And.intro l0 <| And.intro l1 <| And.intro l2 <| And.intro l3 <| And.intro l4 <| And.intro l5 <| And.intro l6 <| c1
  refine wkB ?_
  exact oF fin
theorem one_17 (G : Globs) (k : Nat) (s : KS) (T : AHeap) (hT : Pl T) (d a b c kk e : Int) (hs : s.out.length ≤ 900000) (hj : s.jumps.length ≤ 900000) : heapCall (sel_maker_one.f G (k + 11)) [BX, WI.v ⟨17, d, a, b, c, kk⟩, I6 e] (hpB s T) = some (.tup [], hpB (s.one ⟨17, d, a, b, c, kk⟩ e) T) := by
  apply hcallB
  rw [sel_maker_one.step]
  unfold sel_maker_one.c
  rw [hpB_len]
  have b0 := wx (⟨17, d, a, b, c, kk⟩ : WI)
  have l0 : ∀ H, loadV G false 1 (.rp false (WI.v ⟨17, d, a, b, c, kk⟩) 0) H = some (.int .i64 17) := wl0 G (⟨17, d, a, b, c, kk⟩ : WI)
  have l1 : ∀ H, loadV G false 1 (.rp false (WI.v ⟨17, d, a, b, c, kk⟩) 1) H = some (I6 d) := wl1 G (⟨17, d, a, b, c, kk⟩ : WI)
  have l2 : ∀ H, loadV G false 1 (.rp false (WI.v ⟨17, d, a, b, c, kk⟩) 2) H = some (I6 a) := wl2 G (⟨17, d, a, b, c, kk⟩ : WI)
  have l3 : ∀ H, loadV G false 1 (.rp false (WI.v ⟨17, d, a, b, c, kk⟩) 3) H = some (I6 b) := wl3 G (⟨17, d, a, b, c, kk⟩ : WI)
  have l4 : ∀ H, loadV G false 1 (.rp false (WI.v ⟨17, d, a, b, c, kk⟩) 4) H = some (I6 c) := wl4 G (⟨17, d, a, b, c, kk⟩ : WI)
  have l5 : ∀ H, loadV G false 1 (.rp false (WI.v ⟨17, d, a, b, c, kk⟩) 5) H = some (I6 kk) := wl5 G (⟨17, d, a, b, c, kk⟩ : WI)
  have l6 := wl6 G (⟨17, d, a, b, c, kk⟩ : WI)
  have q1 : buildSt [(0, 1), (1, 1), (2, 1), (3, 1), (4, 1), (5, 1)] [(.int .i64 0), (.int .i64 0), (.int .i64 0), (.int .i64 0), (.int .i64 0), (.int .i64 0)] [(0, .int .i64 20)] = some (MI.v ⟨20, 0, 0, 0, 0, 0⟩) := rfl
  have c1 : heapCall (sel_maker_jump.f G (k + 10)) [BX, MI.v ⟨20, 0, 0, 0, 0, 0⟩, I6 kk] (hpB s T) = some (.tup [], hpB (s.one ⟨17, d, a, b, c, kk⟩ e) T) := jump_spec G (k + 8) s T hT ⟨20, 0, 0, 0, 0, 0⟩ kk (by omega) (by omega)
  have fin := finB0 (s.one ⟨17, d, a, b, c, kk⟩ e) T hT
  generalize MI.v ⟨20, 0, 0, 0, 0, 0⟩ = mv at *
  generalize WI.v ⟨17, d, a, b, c, kk⟩ = wv at *
  refine e_in ?_
  have fx := And.intro b0 <| And.intro l0 <| And.intro l1 <| And.intro l2 <| And.intro l3 <| And.intro l4 <| And.intro l5 <| And.intro l6 <| And.intro q1 <| c1
  refine wkB ?_
  exact oF fin
theorem one_18 (G : Globs) (k : Nat) (s : KS) (T : AHeap) (hT : Pl T) (d a b c kk e : Int) (hs : s.out.length ≤ 900000) (hj : s.jumps.length ≤ 900000) : heapCall (sel_maker_one.f G (k + 11)) [BX, WI.v ⟨18, d, a, b, c, kk⟩, I6 e] (hpB s T) = some (.tup [], hpB (s.one ⟨18, d, a, b, c, kk⟩ e) T) := by
  apply hcallB
  rw [sel_maker_one.step]
  unfold sel_maker_one.c
  rw [hpB_len]
  have b0 := wx (⟨18, d, a, b, c, kk⟩ : WI)
  have l0 : ∀ H, loadV G false 1 (.rp false (WI.v ⟨18, d, a, b, c, kk⟩) 0) H = some (.int .i64 18) := wl0 G (⟨18, d, a, b, c, kk⟩ : WI)
  have l1 : ∀ H, loadV G false 1 (.rp false (WI.v ⟨18, d, a, b, c, kk⟩) 1) H = some (I6 d) := wl1 G (⟨18, d, a, b, c, kk⟩ : WI)
  have l2 : ∀ H, loadV G false 1 (.rp false (WI.v ⟨18, d, a, b, c, kk⟩) 2) H = some (I6 a) := wl2 G (⟨18, d, a, b, c, kk⟩ : WI)
  have l3 : ∀ H, loadV G false 1 (.rp false (WI.v ⟨18, d, a, b, c, kk⟩) 3) H = some (I6 b) := wl3 G (⟨18, d, a, b, c, kk⟩ : WI)
  have l4 : ∀ H, loadV G false 1 (.rp false (WI.v ⟨18, d, a, b, c, kk⟩) 4) H = some (I6 c) := wl4 G (⟨18, d, a, b, c, kk⟩ : WI)
  have l5 : ∀ H, loadV G false 1 (.rp false (WI.v ⟨18, d, a, b, c, kk⟩) 5) H = some (I6 kk) := wl5 G (⟨18, d, a, b, c, kk⟩ : WI)
  have l6 := wl6 G (⟨18, d, a, b, c, kk⟩ : WI)
  have q1 : buildSt [(0, 1), (1, 1), (2, 1), (3, 1), (4, 1), (5, 1)] [(.int .i64 0), (.int .i64 0), (.int .i64 0), (.int .i64 0), (.int .i64 0), (.int .i64 0)] [(0, .int .i64 22), (1, I6 a)] = some (MI.v ⟨22, a, 0, 0, 0, 0⟩) := rfl
  have c1 : heapCall (sel_maker_jump.f G (k + 10)) [BX, MI.v ⟨22, a, 0, 0, 0, 0⟩, I6 kk] (hpB s T) = some (.tup [], hpB (s.one ⟨18, d, a, b, c, kk⟩ e) T) := jump_spec G (k + 8) s T hT ⟨22, a, 0, 0, 0, 0⟩ kk (by omega) (by omega)
  have fin := finB0 (s.one ⟨18, d, a, b, c, kk⟩ e) T hT
  generalize MI.v ⟨22, a, 0, 0, 0, 0⟩ = mv at *
  generalize WI.v ⟨18, d, a, b, c, kk⟩ = wv at *
  refine e_in ?_
  have fx := And.intro b0 <| And.intro l0 <| And.intro l1 <| And.intro l2 <| And.intro l3 <| And.intro l4 <| And.intro l5 <| And.intro l6 <| And.intro q1 <| c1
  refine wkB ?_
  exact oF fin
theorem one_19 (G : Globs) (k : Nat) (s : KS) (T : AHeap) (hT : Pl T) (d a b c kk e : Int) (hs : s.out.length ≤ 900000) (hj : s.jumps.length ≤ 900000) : heapCall (sel_maker_one.f G (k + 11)) [BX, WI.v ⟨19, d, a, b, c, kk⟩, I6 e] (hpB s T) = some (.tup [], hpB (s.one ⟨19, d, a, b, c, kk⟩ e) T) := by
  apply hcallB
  rw [sel_maker_one.step]
  unfold sel_maker_one.c
  rw [hpB_len]
  have b0 := wx (⟨19, d, a, b, c, kk⟩ : WI)
  have l0 : ∀ H, loadV G false 1 (.rp false (WI.v ⟨19, d, a, b, c, kk⟩) 0) H = some (.int .i64 19) := wl0 G (⟨19, d, a, b, c, kk⟩ : WI)
  have l1 : ∀ H, loadV G false 1 (.rp false (WI.v ⟨19, d, a, b, c, kk⟩) 1) H = some (I6 d) := wl1 G (⟨19, d, a, b, c, kk⟩ : WI)
  have l2 : ∀ H, loadV G false 1 (.rp false (WI.v ⟨19, d, a, b, c, kk⟩) 2) H = some (I6 a) := wl2 G (⟨19, d, a, b, c, kk⟩ : WI)
  have l3 : ∀ H, loadV G false 1 (.rp false (WI.v ⟨19, d, a, b, c, kk⟩) 3) H = some (I6 b) := wl3 G (⟨19, d, a, b, c, kk⟩ : WI)
  have l4 : ∀ H, loadV G false 1 (.rp false (WI.v ⟨19, d, a, b, c, kk⟩) 4) H = some (I6 c) := wl4 G (⟨19, d, a, b, c, kk⟩ : WI)
  have l5 : ∀ H, loadV G false 1 (.rp false (WI.v ⟨19, d, a, b, c, kk⟩) 5) H = some (I6 kk) := wl5 G (⟨19, d, a, b, c, kk⟩ : WI)
  have l6 := wl6 G (⟨19, d, a, b, c, kk⟩ : WI)
  have q1 : buildSt [(0, 1), (1, 1), (2, 1), (3, 1), (4, 1), (5, 1)] [(.int .i64 0), (.int .i64 0), (.int .i64 0), (.int .i64 0), (.int .i64 0), (.int .i64 0)] [(0, .int .i64 23), (1, I6 a)] = some (MI.v ⟨23, a, 0, 0, 0, 0⟩) := rfl
  have c1 : heapCall (sel_maker_jump.f G (k + 10)) [BX, MI.v ⟨23, a, 0, 0, 0, 0⟩, I6 kk] (hpB s T) = some (.tup [], hpB (s.one ⟨19, d, a, b, c, kk⟩ e) T) := jump_spec G (k + 8) s T hT ⟨23, a, 0, 0, 0, 0⟩ kk (by omega) (by omega)
  have fin := finB0 (s.one ⟨19, d, a, b, c, kk⟩ e) T hT
  generalize MI.v ⟨23, a, 0, 0, 0, 0⟩ = mv at *
  generalize WI.v ⟨19, d, a, b, c, kk⟩ = wv at *
  refine e_in ?_
  have fx := And.intro b0 <| And.intro l0 <| And.intro l1 <| And.intro l2 <| And.intro l3 <| And.intro l4 <| And.intro l5 <| And.intro l6 <| And.intro q1 <| c1
  refine wkB ?_
  exact oF fin
theorem one_20 (G : Globs) (k : Nat) (s : KS) (T : AHeap) (hT : Pl T) (d a b c kk e : Int) (hs : s.out.length ≤ 900000) (hj : s.jumps.length ≤ 900000) : heapCall (sel_maker_one.f G (k + 11)) [BX, WI.v ⟨20, d, a, b, c, kk⟩, I6 e] (hpB s T) = some (.tup [], hpB (s.one ⟨20, d, a, b, c, kk⟩ e) T) := by
  apply hcallB
  rw [sel_maker_one.step]
  unfold sel_maker_one.c
  rw [hpB_len]
  have b0 := wx (⟨20, d, a, b, c, kk⟩ : WI)
  have l0 : ∀ H, loadV G false 1 (.rp false (WI.v ⟨20, d, a, b, c, kk⟩) 0) H = some (.int .i64 20) := wl0 G (⟨20, d, a, b, c, kk⟩ : WI)
  have l1 : ∀ H, loadV G false 1 (.rp false (WI.v ⟨20, d, a, b, c, kk⟩) 1) H = some (I6 d) := wl1 G (⟨20, d, a, b, c, kk⟩ : WI)
  have l2 : ∀ H, loadV G false 1 (.rp false (WI.v ⟨20, d, a, b, c, kk⟩) 2) H = some (I6 a) := wl2 G (⟨20, d, a, b, c, kk⟩ : WI)
  have l3 : ∀ H, loadV G false 1 (.rp false (WI.v ⟨20, d, a, b, c, kk⟩) 3) H = some (I6 b) := wl3 G (⟨20, d, a, b, c, kk⟩ : WI)
  have l4 : ∀ H, loadV G false 1 (.rp false (WI.v ⟨20, d, a, b, c, kk⟩) 4) H = some (I6 c) := wl4 G (⟨20, d, a, b, c, kk⟩ : WI)
  have l5 : ∀ H, loadV G false 1 (.rp false (WI.v ⟨20, d, a, b, c, kk⟩) 5) H = some (I6 kk) := wl5 G (⟨20, d, a, b, c, kk⟩ : WI)
  have l6 := wl6 G (⟨20, d, a, b, c, kk⟩ : WI)
  have q1 : buildSt [(0, 1), (1, 1), (2, 1), (3, 1), (4, 1), (5, 1)] [(.int .i64 0), (.int .i64 0), (.int .i64 0), (.int .i64 0), (.int .i64 0), (.int .i64 0)] [(0, .int .i64 24), (5, I6 kk)] = some (MI.v ⟨24, 0, 0, 0, 0, kk⟩) := rfl
  have c1 := build1 s T ⟨24, 0, 0, 0, 0, kk⟩
  have c2 := put1 G (k + 9) s T hT ⟨24, 0, 0, 0, 0, kk⟩ (by omega)
  have es : s.one ⟨20, d, a, b, c, kk⟩ e = s.put [⟨24, 0, 0, 0, 0, kk⟩] := rfl
  rw [es]
  have fin := finB (s.put [⟨24, 0, 0, 0, 0, kk⟩]) T [⟨57, 6, instsV [⟨24, 0, 0, 0, 0, kk⟩]⟩] hT
  generalize (⟨24, 0, 0, 0, 0, kk⟩ : MI) = mi at *
  generalize T ++ [⟨57, 6, instsV [mi]⟩] = T1 at *
  generalize WI.v ⟨20, d, a, b, c, kk⟩ = wv at *
  refine e_in ?_
  have fx := And.intro b0 <| And.intro l0 <| And.intro l1 <| And.intro l2 <| And.intro l3 <| And.intro l4 <| And.intro l5 <| And.intro l6 <| And.intro q1 <| And.intro c1 <| c2
  refine wkB ?_
  exact oF fin
theorem one_spec (G : Globs) (k : Nat) (s : KS) (T : AHeap) (hT : Pl T) (i : WI) (ho : 1 ≤ i.op ∧ i.op ≤ 20) (e : Int) (hs : s.out.length ≤ 900000) (hj : s.jumps.length ≤ 900000) : heapCall (sel_maker_one.f G (k + 11)) [BX, i.v, I6 e] (hpB s T) = some (.tup [], hpB (s.one i e) T) := by
  obtain ⟨op, d, a, b, c, kk⟩ := i
  simp only at ho
  have h : op = 1 ∨ op = 2 ∨ op = 3 ∨ op = 4 ∨ op = 5 ∨ op = 6 ∨ op = 7 ∨ op = 8 ∨ op = 9 ∨ op = 10 ∨ op = 11 ∨ op = 12 ∨ op = 13 ∨ op = 14 ∨ op = 15 ∨ op = 16 ∨ op = 17 ∨ op = 18 ∨ op = 19 ∨ op = 20 := by omega
  rcases h with rfl | rfl | rfl | rfl | rfl | rfl | rfl | rfl | rfl | rfl | rfl | rfl | rfl | rfl | rfl | rfl | rfl | rfl | rfl | rfl
  · exact one_1 G k s T hT d a b c kk e hs hj
  · exact one_2 G k s T hT d a b c kk e hs hj
  · exact one_3 G k s T hT d a b c kk e hs hj
  · exact one_4 G k s T hT d a b c kk e hs hj
  · exact one_5 G k s T hT d a b c kk e hs hj
  · exact one_6 G k s T hT d a b c kk e hs hj
  · exact one_7 G k s T hT d a b c kk e hs hj
  · exact one_8 G k s T hT d a b c kk e hs hj
  · exact one_9 G k s T hT d a b c kk e hs hj
  · exact one_10 G k s T hT d a b c kk e hs hj
  · exact one_11 G k s T hT d a b c kk e hs hj
  · exact one_12 G k s T hT d a b c kk e hs hj
  · exact one_13 G k s T hT d a b c kk e hs hj
  · exact one_14 G k s T hT d a b c kk e hs hj
  · exact one_15 G k s T hT d a b c kk e hs hj
  · exact one_16 G k s T hT d a b c kk e hs hj
  · exact one_17 G k s T hT d a b c kk e hs hj
  · exact one_18 G k s T hT d a b c kk e hs hj
  · exact one_19 G k s T hT d a b c kk e hs hj
  · exact one_20 G k s T hT d a b c kk e hs hj
end Go.Proofs.YtdfglgnflldkpaaDoor.Mir
namespace Go.Proofs.YtdfglgnflldkpaaDoor.Mir
open Go
set_option linter.unusedVariables false
set_option linter.unusedSimpArgs false
set_option maxHeartbeats 8000000
set_option maxRecDepth 20000
def wInsts (ws : List WI) : List AV := ws.map WI.v
theorem wInsts_len (ws : List WI) : (wInsts ws).length = ws.length := by simp [wInsts]
theorem wInsts_get (ws : List WI) (j : Nat) (h : j < ws.length) : (wInsts ws)[j]? = some (ws.getD j default).v := by
  unfold wInsts
  rw [List.getElem?_map, List.getElem?_eq_getElem h, List.getD_eq_getElem?_getD, List.getElem?_eq_getElem h]; rfl
def KS.mark (s : KS) : KS := { s with place := s.place ++ [s.out.length] }
def KS.run (e : Int) : List WI → KS → KS
  | [], s => s
  | w :: ws, s => KS.run e ws (s.mark.one w e)
theorem touch_len (s : KS) (op r : Int) (i : WI) (e : Int) : (s.touch op r i e).out.length ≤ s.out.length + 10 ∧ (s.touch op r i e).jumps.length ≤ s.jumps.length + 1 ∧ (s.touch op r i e).place = s.place := by
  unfold KS.touch
  have := (constF_len 28 (u64 i.k)).2
  by_cases h : i.k ≤ 4095
  · simp only [if_pos h]
    simp [KS.jump, KS.put]
  · simp only [if_neg h]
    simp [KS.jump, KS.put]; omega
def Near (s t : KS) : Prop := t.out.length ≤ s.out.length + 10 ∧ t.jumps.length ≤ s.jumps.length + 1 ∧ t.place = s.place
theorem near_ite {s a b : KS} {c : Prop} [Decidable c] (ha : Near s a) (hb : Near s b) : Near s (if c then a else b) := by
  by_cases h : c
  · rw [if_pos h]; exact ha
  · rw [if_neg h]; exact hb
theorem near_self (s : KS) : Near s s := by unfold Near; simp
theorem near_put (s : KS) (l : List MI) (h : l.length ≤ 10) : Near s (s.put l) := by unfold Near; simp [KS.put]; omega
theorem near_jump (s : KS) (i : MI) (t : Int) : Near s (s.jump i t) := by unfold Near; simp [KS.jump, KS.put]
theorem one_near (s : KS) (i : WI) (e : Int) : Near s (s.one i e) := by
  have hc := (constF_len i.d (u64 i.k)).2
  have ht : Near s (s.touch 18 i.d i e) := touch_len s 18 i.d i e
  have ht2 : Near s (s.touch 19 i.b i e) := touch_len s 19 i.b i e
  unfold KS.one
  repeat' first | exact ht | exact ht2 | exact near_self s | exact near_jump s _ _ | refine near_ite ?_ ?_ | exact near_put s _ (by first | (show 1 ≤ 10; decide) | (show 2 ≤ 10; decide) | omega)
theorem one_len (s : KS) (i : WI) (e : Int) : (s.one i e).out.length ≤ s.out.length + 10 ∧ (s.one i e).jumps.length ≤ s.jumps.length + 1 ∧ (s.one i e).place = s.place := one_near s i e
section
variable (G : Globs) (k : Nat) (self : Den) (bor : Bool) (ws : List WI) (r m : Int)
def cV (bor : Bool) (ws : List WI) (r m : Int) : AV := .agg [.ro bor (wInsts ws), I6 r, I6 m]
def xs8 (bor : Bool) (ws : List WI) (r m : Int) (j : Nat) : List AV := [.rp false (cV bor ws r m) 0, BX, .ro bor (wInsts ws), Nn ws.length, Nn j]
theorem wInsts_below (n : Nat) (l : List WI) : belowL n (wInsts l) = true := belowL_map n _ (fun _ => rfl) l
theorem xs8_below (j : Nat) : belowL 5 (xs8 bor ws r m j) = true := by simp [xs8, cV, belowL, belowB, wInsts_below]
theorem l8_loop (hw : ∀ w ∈ ws, 1 ≤ w.op ∧ w.op ≤ 20) (hl : ws.length ≤ 10000) : ∀ (d j n : Nat) (s : KS) (X : AHeap), j + d = ws.length → d < n → s.out.length + 10 * d ≤ 800000 → s.jumps.length + d ≤ 800000 → s.place.length + d ≤ 800000 →
    loopN (sel_Select.l8 G (k + 11) 5 self) n (xs8 bor ws r m j) (hpB s X) = some (.exit 0, xs8 bor ws r m ws.length, hpB (s.run ws.length (ws.drop j)) [])
  | d, j, 0, s, X, h, hf, _, _, _ => by omega
  | 0, j, n + 1, s, X, h, hf, _, _, _ => by
    have hj : j = ws.length := by omega
    subst hj
    have hc : cutH 5 (xs8 bor ws r m ws.length) (hpB s X) = some (hpB s []) := hpB_cut s [] X (fun _ => rfl) _ (xs8_below bor ws r m _)
    rw [loopN_succ, sel_Select.l8]
    rw [List.drop_length]
    refine e_id ?_
    refine eC hc ?_
    unfold xs8 KS.run
    have fx := True.intro
    refine wkA ?_
    refine e_out ?_; rfl
  | d + 1, j, n + 1, s, X, h, hf, h1, h2, h3 => by
    obtain ⟨w, hwj⟩ : ∃ w, w = ws.getD j default := ⟨_, rfl⟩
    have hget := wInsts_get ws j (by omega)
    rw [← hwj] at hget
    have hmem : w ∈ ws := by
      rw [hwj, List.getD_eq_getElem?_getD, List.getElem?_eq_getElem (by omega)]
      exact List.getElem_mem _
    have hdrop : ws.drop j = w :: ws.drop (j + 1) := by
      rw [hwj, List.getD_eq_getElem?_getD, List.getElem?_eq_getElem (by omega)]
      exact List.drop_eq_getElem_cons (by omega)
    have hlen := one_len s.mark w ws.length
    have hm1 : s.mark.out = s.out := rfl
    have hm2 : s.mark.jumps = s.jumps := rfl
    have hm3 : s.mark.place.length = s.place.length + 1 := by simp [KS.mark]
    have ih := l8_loop hw hl d (j + 1) n (s.mark.one w ws.length) [⟨60, 6, [w.v]⟩] (by omega) (by omega) (by rw [hm1] at hlen; omega) (by rw [hm2] at hlen; omega) (by rw [hlen.2.2, hm3]; omega)
    rw [hdrop]
    have er : KS.run ws.length (w :: ws.drop (j + 1)) s = KS.run ws.length (ws.drop (j + 1)) (s.mark.one w ws.length) := rfl
    rw [er]
    generalize KS.run ws.length (ws.drop (j + 1)) (s.mark.one w ws.length) = sE at *
    have hc : cutH 5 (xs8 bor ws r m j) (hpB s X) = some (hpB s []) := hpB_cut s [] X (fun _ => rfl) _ (xs8_below bor ws r m _)
    have q1 : bin Tryd.prog .lss 3 false (Nn j) (Nn ws.length) = some (.bool true) := q_lss_t (by omega)
    have q2 : bin Tryd.prog .add 3 true (Nn j) (.int .i64 1) = some (Nn (j + 1)) := by
      rw [bin_add, wrap_of_i64 (by omega) (by omega)]; congr 2
    have d1 : idxAddrSl 6 (.ro bor (wInsts ws)) (Nn j) = some (.rp bor w.v 0) := by
      unfold idxAddrSl
      simp only [Int.toNat_natCast, hget]
      rw [if_pos (by omega)]
      rfl
    have d2 : ∀ H, loadV G true 6 (.rp bor w.v 0) H = some w.v := fun H => rfl
    have b1 : boxA 60 (.agg [(.int .i64 0), (.int .i64 0), (.int .i64 0), (.int .i64 0), (.int .i64 0), (.int .i64 0)]) (hpB s []) = some (.ptr 5 1 0 0, hpB s [⟨60, 6, [.agg [(.int .i64 0), (.int .i64 0), (.int .i64 0), (.int .i64 0), (.int .i64 0), (.int .i64 0)]]⟩]) := rfl
    have b2 : stS (storeV 6 (.ptr 5 1 0 0) w.v (hpB s [⟨60, 6, [.agg [(.int .i64 0), (.int .i64 0), (.int .i64 0), (.int .i64 0), (.int .i64 0), (.int .i64 0)]]⟩])) = some (.tup [], hpB s [⟨60, 6, [w.v]⟩]) := rfl
    have l0 := bl0 G s [⟨60, 6, [w.v]⟩]
    have l1 := bl1 G s [⟨60, 6, [w.v]⟩]
    have lc : lenSl (.sl 2 s.out.length 0 s.out.length 6) = some (Nn s.out.length) := rfl
    have br : ∀ H, buildRo 1 1 (.int .i64 0) [(0, Nn s.out.length)] H = some (.ro false [Nn s.out.length], H) := fun H => rfl
    have a1 : appendV 3 1 (.sl 3 s.place.length 0 s.place.length 1) (.ro false [Nn s.out.length]) (hpB s [⟨60, 6, [w.v]⟩]) = some (.sl 3 s.mark.place.length 0 s.mark.place.length 1, (hpB s [⟨60, 6, [w.v]⟩]).set 3 ⟨3, 1, natsI s.mark.place⟩) := by
      have e : (hpB s [⟨60, 6, [w.v]⟩])[3]? = some ⟨3, 1, natsI s.place⟩ := rfl
      unfold appendV
      simp only [e, elemsOf, natsI_len, List.length_singleton]
      rw [if_pos (by refine ⟨?_, ?_, ?_, ?_, ?_⟩ <;> first | trivial | rfl | omega)]
      have e2 : (natsI s.place).take s.place.length = natsI s.place := List.take_of_length_le (by rw [natsI_len]; exact Nat.le_refl _)
      have e3 : (natsI s.place).drop (s.place.length + 1) = [] := List.drop_of_length_le (by rw [natsI_len]; omega)
      have e4 : natsI s.place ++ [Nn s.out.length] = natsI s.mark.place := by simp [natsI, KS.mark]
      rw [e2, e3, List.append_nil, e4, natsI_len, hm3]
    have s1 : stS (storeV 1 (.ptr 1 1 0 1) (.sl 3 s.mark.place.length 0 s.mark.place.length 1) ((hpB s [⟨60, 6, [w.v]⟩]).set 3 ⟨3, 1, natsI s.mark.place⟩)) = some (.tup [], hpB s.mark [⟨60, 6, [w.v]⟩]) := rfl
    have l6 : loadV G true 6 (.ptr 5 1 0 0) (hpB s.mark [⟨60, 6, [w.v]⟩]) = some w.v := rfl
    have c0 : ∀ H, loadV G false 1 (.rp false (cV bor ws r m) 0) H = some (.ro bor (wInsts ws)) := fun H => rfl
    have cf : fieldAddrV 0 (.rp false (cV bor ws r m) 0) = some (.rp false (cV bor ws r m) 0) := rfl
    have lw : lenSl (.ro bor (wInsts ws)) = some (Nn ws.length) := by simp [lenSl, wInsts_len]
    have o1 := one_spec G k s.mark [⟨60, 6, [w.v]⟩] (fun n => by simp [heapBelow, belowL, belowB, WI.v]) w (hw w hmem) ws.length (by rw [hm1]; omega) (by rw [hm2]; omega)
    rw [loopN_succ, sel_Select.l8]
    refine e_id ?_
    refine eC hc ?_
    unfold xs8 at ih ⊢
    generalize w.v = wv at *
    generalize (hpB s [⟨60, 6, [wv]⟩]).set 3 ⟨3, 1, natsI s.mark.place⟩ = hm_ at *
    have fx := And.intro q1 <| And.intro q2 <| And.intro d1 <| And.intro d2 <| And.intro b1 <| And.intro b2 <| And.intro nil_b <| And.intro bf0 <| And.intro bf1 <| And.intro l0 <| And.intro l1 <| And.intro lc <| And.intro br <| And.intro a1 <| And.intro s1 <| And.intro l6 <| And.intro c0 <| And.intro cf <| And.intro lw <| o1
    refine wkB ?_
    exact ih
end
end Go.Proofs.YtdfglgnflldkpaaDoor.Mir
namespace Go.Proofs.YtdfglgnflldkpaaDoor.Mir
open Go
set_option linter.unusedVariables false
set_option linter.unusedSimpArgs false
set_option maxHeartbeats 8000000
set_option maxRecDepth 20000
def fixI (s : KS) (p : Nat × Int) : MI := { s.out.getD p.1 default with imm := (s.place.getD p.2.toNat 0 : Int) - p.1 }
def KS.fix (s : KS) (p : Nat × Int) : KS := { s with out := s.out.set p.1 (fixI s p) }
def KS.fixes : List (Nat × Int) → KS → KS
  | [], s => s
  | p :: l, s => KS.fixes l (s.fix p)
section
variable (G : Globs) (k : Nat) (self : Den)
def xs15 (J j : Nat) : List AV := [BX, .sl 4 J 0 J 2, Nn J, Nn j]
theorem xs15_below (J j : Nat) : belowL 5 (xs15 J j) = true := by simp [xs15, belowL, belowB]
theorem ldJump (s : KS) (T : AHeap) (j : Nat) (p : Nat × Int) (hp : s.jumps[j]? = some p) : loadV G true 2 (.ptr 4 s.jumps.length j 0) (hpB s T) = some (jmpV p) := by
  have e : (hpB s T)[4]? = some ⟨93, 2, jmpsV s.jumps⟩ := rfl
  have e2 : (jmpsV s.jumps)[j]? = some (jmpV p) := by unfold jmpsV; rw [List.getElem?_map, hp]; rfl
  unfold loadV
  simp only [e, jmpsV_len, if_true, e2]
  rfl
theorem ldPlace (s : KS) (T : AHeap) (j : Nat) (hp : j < s.place.length) : loadV G false 1 (.ptr 3 s.place.length j 0) (hpB s T) = some (Nn (s.place.getD j 0)) := by
  have e : (hpB s T)[3]? = some ⟨3, 1, natsI s.place⟩ := rfl
  have e2 : (natsI s.place)[j]? = some (Nn (s.place.getD j 0)) := by
    unfold natsI
    rw [List.getElem?_map, List.getElem?_eq_getElem hp, List.getD_eq_getElem?_getD, List.getElem?_eq_getElem hp]; rfl
  unfold loadV
  simp only [e, natsI_len, if_true, e2]
  rfl
theorem stOut (s : KS) (T : AHeap) (p : Nat × Int) (hp : p.1 < s.out.length) : stS (storeV 1 (.ptr 2 s.out.length p.1 5) (I6 ((s.place.getD p.2.toNat 0 : Int) - p.1)) (hpB s T)) = some (.tup [], hpB (s.fix p) T) := by
  have e : (hpB s T)[2]? = some ⟨57, 6, instsV s.out⟩ := rfl
  have e2 : (instsV s.out)[p.1]? = some (s.out.getD p.1 default).v := by
    unfold instsV
    rw [List.getElem?_map, List.getElem?_eq_getElem hp, List.getD_eq_getElem?_getD, List.getElem?_eq_getElem hp]; rfl
  have e3 : (instsV s.out).set p.1 (fixI s p).v = instsV (s.fix p).out := by
    unfold instsV KS.fix
    rw [List.map_set]
  have e4 : (s.fix p).out.length = s.out.length := by simp [KS.fix]
  have e5 : (hpB s T).set 2 ⟨57, 6, instsV (s.fix p).out⟩ = hpB (s.fix p) T := by
    unfold hpB KS.box
    rw [e4]; rfl
  unfold storeV
  simp only [e, instsV_len, e2]
  rw [if_pos ⟨trivial, rfl, rfl⟩, if_pos (by show 5 + 1 ≤ 6; decide)]
  rw [← e5, ← e3]
  rfl
theorem l15_loop : ∀ (d j n : Nat) (s : KS) (X : AHeap), j + d = s.jumps.length → d < n → s.jumps.length ≤ 900000 → (∀ p ∈ s.jumps, p.1 < s.out.length ∧ 0 ≤ p.2 ∧ p.2 < s.place.length) → (∀ q ∈ s.place, q ≤ 900000) → s.out.length ≤ 900000 →
    loopN (sel_Select.l15 G k 5 self) n (xs15 s.jumps.length j) (hpB s X) = some (.exit 2, xs15 s.jumps.length s.jumps.length, hpB (KS.fixes (s.jumps.drop j) s) [])
  | d, j, 0, s, X, h, hf, _, _, _, _ => by omega
  | 0, j, n + 1, s, X, h, hf, _, _, _, _ => by
    have hj : j = s.jumps.length := by omega
    subst hj
    have hc : cutH 5 (xs15 s.jumps.length s.jumps.length) (hpB s X) = some (hpB s []) := hpB_cut s [] X (fun _ => rfl) _ (xs15_below _ _)
    rw [loopN_succ, sel_Select.l15]
    rw [List.drop_length]
    refine e_id ?_
    refine eC hc ?_
    unfold xs15 KS.fixes
    have fx := True.intro
    refine wkA ?_
    refine e_out ?_; rfl
  | d + 1, j, n + 1, s, X, h, hf, hJ, hp, hq, hO => by
    obtain ⟨p, hpj⟩ : ∃ p, p = s.jumps[j]'(by omega) := ⟨_, rfl⟩
    have hget : s.jumps[j]? = some p := by rw [List.getElem?_eq_getElem (by omega), hpj]
    have hmem : p ∈ s.jumps := by rw [hpj]; exact List.getElem_mem _
    have hdrop : s.jumps.drop j = p :: s.jumps.drop (j + 1) := by rw [hpj]; exact List.drop_eq_getElem_cons (by omega)
    obtain ⟨p1, p2, p3⟩ := hp p hmem
    have pq : s.place.getD p.2.toNat 0 ≤ 900000 := by
      rw [List.getD_eq_getElem?_getD, List.getElem?_eq_getElem (by omega)]
      exact hq _ (List.getElem_mem _)
    have f1 : (s.fix p).jumps = s.jumps := rfl
    have f2 : (s.fix p).place = s.place := rfl
    have f3 : (s.fix p).out.length = s.out.length := by simp [KS.fix]
    have ih := l15_loop d (j + 1) n (s.fix p) [⟨93, 2, [jmpV p]⟩] (by rw [f1]; omega) (by omega) (by rw [f1]; exact hJ) (by rw [f1, f2, f3]; exact hp) (by rw [f2]; exact hq) (by rw [f3]; exact hO)
    rw [f1] at ih
    rw [hdrop]
    have er : KS.fixes (p :: s.jumps.drop (j + 1)) s = KS.fixes (s.jumps.drop (j + 1)) (s.fix p) := rfl
    rw [er]
    generalize KS.fixes (s.jumps.drop (j + 1)) (s.fix p) = sE at *
    have hc : cutH 5 (xs15 s.jumps.length j) (hpB s X) = some (hpB s []) := hpB_cut s [] X (fun _ => rfl) _ (xs15_below _ _)
    have q1 : bin Tryd.prog .lss 3 false (Nn j) (Nn s.jumps.length) = some (.bool true) := q_lss_t (by omega)
    have q2 : bin Tryd.prog .add 3 true (Nn j) (.int .i64 1) = some (Nn (j + 1)) := by
      rw [bin_add, wrap_of_i64 (by omega) (by omega)]; congr 2
    have d1 : idxAddrSl 2 (.sl 4 s.jumps.length 0 s.jumps.length 2) (Nn j) = some (.ptr 4 s.jumps.length j 0) := by
      rw [q_idxSl (by omega) (by omega), Nat.zero_add, Int.toNat_natCast]
    have d2 := ldJump G s [] j p hget
    have b1 : boxA 93 (.agg [(.int .i64 0), (.int .i64 0)]) (hpB s []) = some (.ptr 5 1 0 0, hpB s [⟨93, 2, [.agg [(.int .i64 0), (.int .i64 0)]]⟩]) := rfl
    have b2 : stS (storeV 2 (.ptr 5 1 0 0) (jmpV p) (hpB s [⟨93, 2, [.agg [(.int .i64 0), (.int .i64 0)]]⟩])) = some (.tup [], hpB s [⟨93, 2, [jmpV p]⟩]) := rfl
    have l0 := bl0 G s [⟨93, 2, [jmpV p]⟩]
    have l1 := bl1 G s [⟨93, 2, [jmpV p]⟩]
    have k0 : fieldAddrV 0 (.ptr 5 1 0 0) = some (.ptr 5 1 0 0) := rfl
    have k1 : fieldAddrV 1 (.ptr 5 1 0 0) = some (.ptr 5 1 0 1) := rfl
    have j0 : loadV G false 1 (.ptr 5 1 0 0) (hpB s [⟨93, 2, [jmpV p]⟩]) = some (Nn p.1) := rfl
    have j1 : loadV G false 1 (.ptr 5 1 0 1) (hpB s [⟨93, 2, [jmpV p]⟩]) = some (I6 p.2) := rfl
    have d3 : idxAddrSl 1 (.sl 3 s.place.length 0 s.place.length 1) (I6 p.2) = some (.ptr 3 s.place.length p.2.toNat 0) := by
      rw [q_idxSl p2 p3, Nat.zero_add]
    have d4 := ldPlace G s [⟨93, 2, [jmpV p]⟩] p.2.toNat (by omega)
    have d5 : bin Tryd.prog .sub 3 false (Nn (s.place.getD p.2.toNat 0)) (Nn p.1) = some (I6 ((s.place.getD p.2.toNat 0 : Int) - p.1)) := by
      rw [bin_sub, wrap_of_i64 (by omega) (by omega)]
    have d6 : idxAddrSl 6 (.sl 2 s.out.length 0 s.out.length 6) (Nn p.1) = some (.ptr 2 s.out.length p.1 0) := by
      rw [q_idxSl (by omega) (by omega), Nat.zero_add, Int.toNat_natCast]
    have k5 : fieldAddrV 5 (.ptr 2 s.out.length p.1 0) = some (.ptr 2 s.out.length p.1 5) := rfl
    have s1 := stOut s [⟨93, 2, [jmpV p]⟩] p p1
    rw [loopN_succ, sel_Select.l15]
    refine e_id ?_
    refine eC hc ?_
    unfold xs15 at ih ⊢
    generalize jmpV p = pv at *
    generalize s.place.getD p.2.toNat 0 = y at *
    generalize (y : Int) - p.1 = z at *
    have fx := And.intro q1 <| And.intro q2 <| And.intro d1 <| And.intro d2 <| And.intro b1 <| And.intro b2 <| And.intro nil_b <| And.intro bf0 <| And.intro bf1 <| And.intro l0 <| And.intro l1 <| And.intro k0 <| And.intro k1 <| And.intro j0 <| And.intro j1 <| And.intro d3 <| And.intro d4 <| And.intro d5 <| And.intro d6 <| And.intro k5 <| s1
    refine wkB ?_
    exact ih
end
end Go.Proofs.YtdfglgnflldkpaaDoor.Mir
namespace Go.Proofs.YtdfglgnflldkpaaDoor.Mir
open Go
set_option linter.unusedVariables false
set_option linter.unusedSimpArgs false
set_option maxHeartbeats 8000000
set_option maxRecDepth 20000
section
variable (G : Globs) (k : Nat) (self : Den)
def xs23 (O c j : Nat) : List AV := [.undef, .undef, .sl 5 c 0 c 1, .sl 2 O 0 O 6, Nn O, Nn j]
theorem xs23_below (O c j : Nat) : belowL 6 (xs23 O c j) = true := by simp [xs23, belowL, belowB]
abbrev bW (ws : List Int) : ABlk := ⟨71, 1, codeW ws⟩
theorem PlW (ws : List Int) : Pl [bW ws] := fun n => by simp [heapBelow, codeW_below]
theorem ldOut (s : KS) (T : AHeap) (j : Nat) (i : MI) (hp : s.out[j]? = some i) : loadV G true 6 (.ptr 2 s.out.length j 0) (hpB s T) = some i.v := by
  have e : (hpB s T)[2]? = some ⟨57, 6, instsV s.out⟩ := rfl
  have e2 : (instsV s.out)[j]? = some i.v := by unfold instsV; rw [List.getElem?_map, hp]; rfl
  unfold loadV
  simp only [e, instsV_len, if_true, e2]
  rfl
theorem apW (s : KS) (ws : List Int) (X : AHeap) (w : Int) (hl : ws.length ≤ 900000) : appendV 71 1 (.sl 5 ws.length 0 ws.length 1) (.ro false [W32 w]) (hpB s (bW ws :: X)) = some (.sl 5 (ws ++ [w]).length 0 (ws ++ [w]).length 1, hpB s (bW (ws ++ [w]) :: X)) := by
  have e : (hpB s (bW ws :: X))[5]? = some (bW ws) := rfl
  have hcl : (codeW ws).length = ws.length := by simp [codeW]
  unfold appendV
  simp only [e, elemsOf, hcl, List.length_singleton]
  rw [if_pos (by refine ⟨?_, ?_, ?_, ?_, ?_⟩ <;> first | trivial | rfl | omega)]
  have e2 : (codeW ws).take ws.length = codeW ws := List.take_of_length_le (by rw [hcl]; exact Nat.le_refl _)
  have e3 : (codeW ws).drop (ws.length + 1) = [] := List.drop_of_length_le (by rw [hcl]; omega)
  have e4 : codeW ws ++ [W32 w] = codeW (ws ++ [w]) := by simp [codeW]
  have e5 : (codeW (ws ++ [w])).length = ws.length + 1 := by simp [codeW]
  rw [e2, e3, List.append_nil, e4, e5]
  simp only [List.length_append, List.length_singleton]
  rfl
theorem l23_loop (s : KS) (hO : s.out.length ≤ 900000) (hr : ∀ i ∈ s.out, rightB i = true) : ∀ (d j n : Nat) (ws : List Int) (X : AHeap), j + d = s.out.length → d < n → ws.length = j →
    loopN (sel_Select.l23 G (k + 5) 6 self) n (xs23 s.out.length ws.length j) (hpB s (bW ws :: X)) = some (.exit 4, xs23 s.out.length s.out.length s.out.length, hpB s [bW (ws ++ (s.out.drop j).map wordF)])
  | d, j, 0, ws, X, h, hf, _ => by omega
  | 0, j, n + 1, ws, X, h, hf, hw => by
    have hj : j = s.out.length := by omega
    subst hj
    have hc : cutH 6 (xs23 s.out.length ws.length s.out.length) (hpB s (bW ws :: X)) = some (hpB s [bW ws]) := hpB_cut s [bW ws] X (PlW ws) _ (xs23_below _ _ _)
    rw [loopN_succ, sel_Select.l23]
    rw [List.drop_length, List.map_nil, List.append_nil]
    refine e_id ?_
    refine eC hc ?_
    rw [hw]
    unfold xs23
    have fx := True.intro
    refine wkA ?_
    refine e_out ?_; rfl
  | d + 1, j, n + 1, ws, X, h, hf, hw => by
    obtain ⟨i, hij⟩ : ∃ i, i = s.out[j]'(by omega) := ⟨_, rfl⟩
    have hget : s.out[j]? = some i := by rw [List.getElem?_eq_getElem (by omega), hij]
    have hmem : i ∈ s.out := by rw [hij]; exact List.getElem_mem _
    have hdrop : s.out.drop j = i :: s.out.drop (j + 1) := by rw [hij]; exact List.drop_eq_getElem_cons (by omega)
    have hri := hr i hmem
    have ih := l23_loop s hO hr d (j + 1) n (ws ++ [wordF i]) [⟨57, 6, [i.v]⟩] (by omega) (by omega) (by simp [hw])
    have e : ws ++ [wordF i] ++ (s.out.drop (j + 1)).map wordF = ws ++ (s.out.drop j).map wordF := by rw [hdrop]; simp
    rw [e] at ih
    generalize ws ++ (s.out.drop j).map wordF = wE at *
    have hc : cutH 6 (xs23 s.out.length ws.length j) (hpB s (bW ws :: X)) = some (hpB s [bW ws]) := hpB_cut s [bW ws] X (PlW ws) _ (xs23_below _ _ _)
    have q1 : bin Tryd.prog .lss 3 false (Nn j) (Nn s.out.length) = some (.bool true) := q_lss_t (by omega)
    have q2 : bin Tryd.prog .add 3 true (Nn j) (.int .i64 1) = some (Nn (j + 1)) := by
      rw [bin_add, wrap_of_i64 (by omega) (by omega)]; congr 2
    have d1 : idxAddrSl 6 (.sl 2 s.out.length 0 s.out.length 6) (Nn j) = some (.ptr 2 s.out.length j 0) := by
      rw [q_idxSl (by omega) (by omega), Nat.zero_add, Int.toNat_natCast]
    have d2 := ldOut G s [bW ws] j i hget
    have b1 : boxA 57 (.agg [(.int .i64 0), (.int .i64 0), (.int .i64 0), (.int .i64 0), (.int .i64 0), (.int .i64 0)]) (hpB s [bW ws]) = some (.ptr 6 1 0 0, hpB s [bW ws, ⟨57, 6, [mV 0 0 0 0 0 0]⟩]) := rfl
    have b2 : stS (storeV 6 (.ptr 6 1 0 0) i.v (hpB s [bW ws, ⟨57, 6, [mV 0 0 0 0 0 0]⟩])) = some (.tup [], hpB s [bW ws, ⟨57, 6, [i.v]⟩]) := rfl
    have b3 : loadV G true 6 (.ptr 6 1 0 0) (hpB s [bW ws, ⟨57, 6, [i.v]⟩]) = some i.v := rfl
    have w1_ : ∀ H, pureCall (isa_Word.f G (k + 5)) [i.v] H = some (.tup [W32 (wordF i), .bool true], H) := fun H => by
      have := word_spec G k i
      rw [hri] at this
      have e2 : wordR i = wordF i := by unfold wordR; rw [if_pos hri]
      rw [e2] at this
      exact pureCall_of (H := H) this rfl rfl
    have br : ∀ H, buildRo 1 1 (.int .u32 0) [(0, W32 (wordF i))] H = some (.ro false [W32 (wordF i)], H) := fun H => rfl
    have a1 := apW s ws [⟨57, 6, [i.v]⟩] (wordF i) (by omega)
    rw [loopN_succ, sel_Select.l23]
    refine e_id ?_
    refine eC hc ?_
    unfold xs23 at ih ⊢
    generalize i.v = iv at *
    generalize wordF i = wi at *
    have fx := And.intro q1 <| And.intro q2 <| And.intro d1 <| And.intro d2 <| And.intro b1 <| And.intro b2 <| And.intro b3 <| And.intro w1_ <| And.intro br <| a1
    refine wkB ?_
    exact ih
end
end Go.Proofs.YtdfglgnflldkpaaDoor.Mir
