/- Printed by rowgen.py: the row of SelectConsts, out of its law in plain Lean. -/
import Derived.Test.YtdfglgnflldkpaaDoorVc5
import Derived.Test.YtdfglgnflldkpaaDoorTie
import Derived.Test.YtdfglgnflldkpaaDoorCards
import Derived.SevenTiedAt
namespace Go.Proofs.YtdfglgnflldkpaaDoor.Mir
open Go
set_option linter.unusedVariables false
set_option linter.unusedSimpArgs false
set_option maxHeartbeats 8000000
set_option maxRecDepth 20000
theorem rget_spec (G : Globs) (k : Nat) (r : List Nat) (hr : r.length = 31) (j : Int) (h0 : 0 ≤ j) (h1 : j ≤ 31) : alembicref17_get.f G (k + 1) [rgV r, I6 j] [] = some (Un (getF r j), []) := by
  rw [alembicref17_get.step]
  unfold alembicref17_get.c getF
  have b1 : ∀ H, boxRoA (rgV r) H = some (.rp false (rgV r) 0, H) := fun H => rfl
  refine e_in ?_
  by_cases h : j = 31
  · rw [if_pos h]
    have fx := b1
    refine wkA ?_
    exact w1i rfl
  · rw [if_neg h]
    have i1 : idxAddrArr 31 1 (.rp false (rgV r) 0) (I6 j) = some (.rp false (rgV r) j.toNat) := by
      unfold idxAddrArr
      simp only
      rw [if_pos ⟨h0, by omega⟩, Nat.zero_add, Nat.mul_one]
    have l1 : ∀ H, loadV G false 1 (.rp false (rgV r) j.toNat) H = some (Un (r.getD j.toNat 0)) := fun H => by
      rw [q_ldrp, natsU_get _ _ (by omega)]
    have fx := And.intro b1 <| And.intro i1 <| l1
    refine wkA ?_
    exact w1i rfl
theorem zeroRg : (AV.agg [(.int .u64 0), (.int .u64 0), (.int .u64 0), (.int .u64 0), (.int .u64 0), (.int .u64 0), (.int .u64 0), (.int .u64 0), (.int .u64 0), (.int .u64 0), (.int .u64 0), (.int .u64 0), (.int .u64 0), (.int .u64 0), (.int .u64 0), (.int .u64 0), (.int .u64 0), (.int .u64 0), (.int .u64 0), (.int .u64 0), (.int .u64 0), (.int .u64 0), (.int .u64 0), (.int .u64 0), (.int .u64 0), (.int .u64 0), (.int .u64 0), (.int .u64 0), (.int .u64 0), (.int .u64 0), (.int .u64 0)]) = rgV (List.replicate 31 0) := rfl
theorem zeroRgL : [(AV.int .u64 0), (.int .u64 0), (.int .u64 0), (.int .u64 0), (.int .u64 0), (.int .u64 0), (.int .u64 0), (.int .u64 0), (.int .u64 0), (.int .u64 0), (.int .u64 0), (.int .u64 0), (.int .u64 0), (.int .u64 0), (.int .u64 0), (.int .u64 0), (.int .u64 0), (.int .u64 0), (.int .u64 0), (.int .u64 0), (.int .u64 0), (.int .u64 0), (.int .u64 0), (.int .u64 0), (.int .u64 0), (.int .u64 0), (.int .u64 0), (.int .u64 0), (.int .u64 0), (.int .u64 0), (.int .u64 0)] = natsU (List.replicate 31 0) := rfl
theorem boxRg (r : List Nat) (hr : r.length = 31) (H : AHeap) : boxA 44 (rgV r) H = some (.ptr H.length 1 0 0, H ++ [⟨44, 31, [rgV r]⟩]) := by
  simp [boxA, storable, AV.cells, natsU_len, hr]
theorem stReg {j i : Nat} {H : AHeap} {r : List Nat} (hr : r.length = 31) (hi : i < 31) (x : Nat) (e : H[j]? = some ⟨44, 31, [rgV r]⟩) : stS (storeV 1 (.ptr j 1 0 i) (Un x) H) = some (.tup [], H.set j ⟨44, 31, [rgV (r.set i x)]⟩) := by
  have e2 : putC (natsU r) i [Un x] = natsU (r.set i x) := by
    rw [natsU_set, List.set_eq_take_append_cons_drop, if_pos (by rw [natsU_len]; omega)]
    rfl
  unfold storeV
  simp only [e, AV.cells, natsU_len, hr, List.length_singleton, storable, List.getElem?_cons_zero]
  rw [if_pos (by simp), if_pos (by omega), e2]
  rfl
theorem stRgA {j : Nat} {H : AHeap} {q r : List Nat} (hq : q.length = 31) (hr : r.length = 31) (e : H[j]? = some ⟨44, 31, [rgV r]⟩) : stS (storeV 31 (.ptr j 1 0 0) (rgV q) H) = some (.tup [], H.set j ⟨44, 31, [rgV q]⟩) := by
  have e2 : putC (natsU r) 0 (natsU q) = natsU q := by
    unfold putC
    rw [List.take_zero, List.nil_append, List.drop_of_length_le (by rw [natsU_len, natsU_len]; omega), List.append_nil]
  unfold storeV
  simp only [e, AV.cells, natsU_len, hq, List.length_singleton, storable, List.getElem?_cons_zero]
  rw [if_pos (by simp), if_pos (by omega), e2]
  rfl
theorem rset_spec (G : Globs) (k : Nat) (r : List Nat) (hr : r.length = 31) (j : Int) (h0 : 0 ≤ j) (h1 : j ≤ 31) (x : Nat) : alembicref17_set.f G (k + 1) [rgV r, I6 j, Un x] [] = some (rgV (setF r j x), []) := by
  rw [alembicref17_set.step]
  unfold alembicref17_set.c setF
  rw [zeroRg]
  have hZ : (List.replicate 31 0 : List Nat).length = 31 := rfl
  obtain ⟨Z, hz⟩ : ∃ Z : List Nat, Z = List.replicate 31 0 := ⟨_, rfl⟩
  rw [← hz] at hZ ⊢
  clear hz
  have b1 : boxA 44 (rgV r) [] = some (.ptr 0 1 0 0, [⟨44, 31, [rgV r]⟩]) := boxRg r hr []
  have b2 : boxA 44 (rgV Z) [⟨44, 31, [rgV r]⟩] = some (.ptr 1 1 0 0, [⟨44, 31, [rgV r]⟩, ⟨44, 31, [rgV Z]⟩]) := boxRg Z hZ _
  refine e_in ?_
  by_cases h : j = 31
  · rw [if_pos h]
    have l1 : loadV G true 31 (.ptr 0 1 0 0) [⟨44, 31, [rgV r]⟩, ⟨44, 31, [rgV Z]⟩] = some (rgV r) := ldRg G hr rfl
    have s1 : stS (storeV 31 (.ptr 1 1 0 0) (rgV r) [⟨44, 31, [rgV r]⟩, ⟨44, 31, [rgV Z]⟩]) = some (.tup [], [⟨44, 31, [rgV r]⟩, ⟨44, 31, [rgV r]⟩]) := stRgA hr hZ rfl
    have fx := And.intro b1 <| And.intro b2 <| And.intro l1 <| s1
    refine wkA ?_
    exact oF (finL_one (by simp [belowB, natsU_below]) (ldRg G hr rfl))
  · rw [if_neg h]
    have i1 : idxAddrArr 31 1 (.ptr 0 1 0 0) (I6 j) = some (.ptr 0 1 0 j.toNat) := by
      unfold idxAddrArr
      simp only
      rw [if_pos ⟨h0, by omega⟩, Nat.zero_add, Nat.mul_one]
    have hr' : (r.set j.toNat x).length = 31 := by rw [List.length_set]; exact hr
    have s0 : stS (storeV 1 (.ptr 0 1 0 j.toNat) (Un x) [⟨44, 31, [rgV r]⟩, ⟨44, 31, [rgV Z]⟩]) = some (.tup [], [⟨44, 31, [rgV (r.set j.toNat x)]⟩, ⟨44, 31, [rgV Z]⟩]) := stReg hr (by omega) x rfl
    generalize r.set j.toNat x = q at *
    have l1 : loadV G true 31 (.ptr 0 1 0 0) [⟨44, 31, [rgV q]⟩, ⟨44, 31, [rgV Z]⟩] = some (rgV q) := ldRg G hr' rfl
    have s1 : stS (storeV 31 (.ptr 1 1 0 0) (rgV q) [⟨44, 31, [rgV q]⟩, ⟨44, 31, [rgV Z]⟩]) = some (.tup [], [⟨44, 31, [rgV q]⟩, ⟨44, 31, [rgV q]⟩]) := stRgA hr' hZ rfl
    have fx := And.intro b1 <| And.intro b2 <| And.intro i1 <| And.intro s0 <| And.intro l1 <| s1
    refine wkA ?_
    exact oF (finL_one (by simp [belowB, natsU_below]) (ldRg G hr' rfl))
theorem rholds_spec (G : Globs) (k : Nat) (c : Int) (f : FL) : alembicref17_Holds.f G (k + 1) [I6 c, f.a] [] = some (.bool (holdsF c f), []) := by
  obtain ⟨n, z, cc, v⟩ := f
  rw [alembicref17_Holds.step]
  unfold alembicref17_Holds.c holdsF FL.a
  have i1 : idxAddrArr 4 1 (.rp false (.agg [.bool n, .bool z, .bool cc, .bool v]) 0) (.int .i64 1) = some (.rp false (.agg [.bool n, .bool z, .bool cc, .bool v]) 1) := rfl
  have i2 : idxAddrArr 4 1 (.rp false (.agg [.bool n, .bool z, .bool cc, .bool v]) 0) (.int .i64 2) = some (.rp false (.agg [.bool n, .bool z, .bool cc, .bool v]) 2) := rfl
  refine e_in ?_
  simp only
  cases z <;> cases cc
  all_goals (
    repeat' first
      | (with_reducible first | refine eT ?_ | refine eN ?_ | refine eS ?_ | refine eXn ?_ | refine eXr ?_ | refine eX ?_ | refine eI ?_ | refine eK ?_ | refine eV0 ?_ | refine eGr0 ?_ | refine eGtt ?_ | refine eGff ?_ | refine eGtf ?_ | refine eGft ?_ | refine eGno ?_)
      | ((with_reducible apply eCn); (simp only [nth_zero, nth_succ]; first | done | (with_reducible exact rfl)))
      | ((with_reducible apply eJ); (rfl))
      | ((with_reducible apply eGr1); (first | rfl | (simp only [nth_zero, nth_succ]; rfl)))
      | ((with_reducible apply eB); (first | (with_reducible exact rfl) | (simp (disch := omega) only [qf, i1, i2]; first | done | (with_reducible exact rfl) | (with_reducible exact ⟨rfl, rfl⟩)) | (simp (disch := omega) only [qa, putC, AV.cells, storable, buildSt, fillA, buildRo, buildOwn, fillE, Nat.reduceLeDiff, Nat.reduceLT, Nat.reduceAdd, ↓reduceIte, i1, i2]; first | done | (with_reducible exact rfl) | (with_reducible exact ⟨rfl, rfl⟩))))
      | ((with_reducible apply eR); (simp only [nth_zero, nth_succ]; (with_reducible exact rfl)))
      | ((with_reducible first | refine sEql ?_ ?_ | refine sNeq ?_ ?_ | refine sLss ?_ ?_ | refine sLeq ?_ ?_ | refine sGtr ?_ ?_ | refine sGeq ?_ ?_ | refine sNot ?_ ?_ | refine sPick ?_ ?_ | refine sGd ?_ ?_ | refine eBool ?_ ?_) <;> intro hq <;> try subst hq)
    all_goals (refine w1b ?_; simp (disch := omega) only [if_pos, if_neg, if_true, Bool.false_eq_true, if_false, ↓reduceIte]; try rfl))
theorem i64_and63 (P : Program) (t : Nat) (c : Bool) {x : Int} (h0 : 0 ≤ x) (h1 : x < 9223372036854775808) : bin P .and t c (I6 x) (.int .i64 63) = some (I6 (x % 64)) := by
  obtain ⟨X, rfl⟩ : ∃ X : Nat, x = X := ⟨x.toNat, by omega⟩
  rw [bin_and]
  show some (AV.int .i64 (IntKind.i64.wrap ((BitVec.ofInt 64 (X : Int) &&& BitVec.ofInt 64 (63 : Int)).toNat : Int))) = _
  have e1 : (BitVec.ofInt 64 (X : Int)).toNat = X := ofInt_u64 X (by omega)
  have e2 : (BitVec.ofInt 64 (63 : Int)).toNat = 2 ^ 6 - 1 := by decide
  rw [BitVec.toNat_and, e1, e2, Nat.and_two_pow_sub_one_eq_mod, wrap_of_i64 (by omega) (by omega)]
  rfl
/-- The blocks of the document's. -/
def hp2 (r : List Nat) (f : FL) : AHeap := [⟨44, 31, [rgV r]⟩, ⟨53, 4, [f.a]⟩]
theorem rone_fin (G : Globs) (r : List Nat) (hr : r.length = 31) (f : FL) (b : Bool) : finL [loadV G true 31 (.ptr 0 1 0 0) (hp2 r f), loadV G true 4 (.ptr 1 1 0 0) (hp2 r f), some (.bool b)] 0 (hp2 r f) = some (.ret, [oneV (r, f, b)], []) := by
  have e1 := ldRg G (j := 0) (H := hp2 r f) hr rfl
  have e2 : loadV G true 4 (.ptr 1 1 0 0) (hp2 r f) = some f.a := rfl
  unfold finL
  rw [e1, e2]
  exact finV_three (by simp [belowB, natsU_below]) rfl rfl _
theorem setF_len (r : List Nat) (hr : r.length = 31) (j : Int) (x : Nat) : (setF r j x).length = 31 := by
  unfold setF; split
  · exact hr
  · rw [List.length_set]; exact hr
theorem rone_1 (G : Globs) (k : Nat) (d n m a imm : Int) (hw : rightB ⟨1, d, n, m, a, imm⟩ = true) (r : List Nat) (hr : RgOk r) (f : FL) :
    alembicref17_One.f G (k + 7) [mV 1 d n m a imm, rgV r, f.a] [] = some (oneV ((doesF ⟨1, d, n, m, a, imm⟩ r f).1, (doesF ⟨1, d, n, m, a, imm⟩ r f).2, true), []) := by
  have r1 : ∀ H, pureCall (alembicref17_Word.f G (k + 6)) [mV 1 d n m a imm] H = _ := fun H => pureCall_of (H := H) (rword_spec G k ⟨1, d, n, m, a, imm⟩) rfl rfl
  rw [hw] at r1
  obtain ⟨_, hd, hn, hm, ha, hf⟩ := right_ok hw
  have himm : 0 ≤ imm ∧ imm < 65536 := by
    unfold rightB at hw
    rw [Bool.and_eq_true] at hw
    obtain ⟨_, h⟩ := hw
    simp [formF, fairB, regB, extraB, immB, halfI, stackB] at h
    omega
  simp only at hd hn hm ha hf
  clear hw
  have ld := hr.get d
  have ln := hr.get n
  have lm := hr.get m
  have la := hr.get a
  have g : ∀ j, 0 ≤ j → j ≤ 31 → ∀ H, pureCall (alembicref17_get.f G (k + 6)) [rgV r, I6 j] H = some (Un (getF r j), H) := fun j h0 h1 H => pureCall_of (H := H) (rget_spec G (k + 5) r hr.len j h0 h1) (by simp [plainL, plainB, plainU]) rfl
  have g1 := g d hd.1 hd.2
  have g2 := g n hn.1 hn.2
  have g3 := g m hm.1 hm.2
  have g4 := g a ha.1 ha.2
  clear g
  have st : ∀ x H, pureCall (alembicref17_set.f G (k + 6)) [rgV r, I6 d, Un x] H = some (rgV (setF r d x), H) := fun x H => pureCall_of (H := H) (rset_spec G (k + 5) r hr.len d hd.1 hd.2 x) (by simp [plainL, plainB, plainU]) (by simp [cleanB, cleanU])
  obtain ⟨ki, hki⟩ : ∃ z, z = u64 imm := ⟨_, rfl⟩
  have hkl : ki < 18446744073709551616 := by rw [hki]; exact u64_lt _
  have hkv : (ki : Int) = imm := by rw [hki]; unfold u64; omega
  have k1 : convInt .u64 (I6 imm) = some (Un ki) := by rw [conv_u64, hki]
  have k2 : bin Tryd.prog .and 3 true (I6 imm) (.int .i64 63) = some (I6 (imm % 64)) := i64_and63 _ _ _ (by omega) (by omega)
  obtain ⟨kj, hkj⟩ : ∃ z : Nat, (z : Int) = imm % 64 := ⟨(imm % 64).toNat, by omega⟩
  rw [← hkj] at k2
  have k3 : convInt .u64 (Nn kj) = some (Un kj) := by rw [convInt_int, wrap_of_u64 (by omega) (by omega)]
  have ed : doesF ⟨1, d, n, m, a, imm⟩ r f = (setF r d (u64 imm * 2 ^ (16 * a).toNat % 18446744073709551616), f) := by
    unfold doesF madeF
    simp only [Int.reduceEq, or_false, false_or, or_self, or_true, true_or, if_false, if_true, ↓reduceIte]
  rw [ed]
  clear ed
  simp only
  try rw [← hki]
  generalize getF r d = rd at *
  generalize getF r n = rn at *
  generalize getF r m = rm at *
  generalize getF r a = ra at *
  obtain ⟨a0, a3⟩ := hf.1 (by omega)
  obtain ⟨s, hs⟩ : ∃ s : Nat, s = (16 * a).toNat := ⟨_, rfl⟩
  have e16 : bin Tryd.prog .mul 3 true (.int .i64 16) (I6 a) = some (Nn s) := by
    rw [bin_mul, wrap_of_i64 (by omega) (by omega)]; congr 2; omega
  rw [← hs]
  have e17 : convInt .u64 (Nn s) = some (Un s) := by rw [convInt_int, wrap_of_u64 (by omega) (by omega)]
  have k17 := u64_shl Tryd.prog 43 false .u64 ki s (by omega)
  clear hs
  generalize ki * 2 ^ s % 18446744073709551616 = xx at *
  rw [alembicref17_One.step]
  unfold alembicref17_One.c
  rw [zeroRg, zeroRgL]
  have hZ : (List.replicate 31 0 : List Nat).length = 31 := rfl
  have z1 : buildArr 1 (natsU (List.replicate 31 0)) [] = some (rgV (List.replicate 31 0)) := rfl
  have z2 : buildArr 1 [.bool false, .bool false, .bool false, .bool false] [] = some f00.a := rfl
  have b1 : boxA 44 (rgV (List.replicate 31 0)) [] = some (.ptr 0 1 0 0, [⟨44, 31, [rgV (List.replicate 31 0)]⟩]) := boxRg _ rfl []
  have b2 : boxA 53 (.agg [.bool false, .bool false, .bool false, .bool false]) [⟨44, 31, [rgV (List.replicate 31 0)]⟩] = some (.ptr 1 1 0 0, hp2 (List.replicate 31 0) f00) := rfl
  generalize List.replicate 31 0 = Z at *
  have c0 : ∀ H, boxRoA (rgV r) H = some (.rp false (rgV r) 0, H) := fun H => rfl
  have c1 : ∀ H, boxRoA f.a H = some (.rp false f.a 0, H) := fun H => rfl
  have c2 : ∀ H, loadV G true 31 (.rp false (rgV r) 0) H = some (rgV r) := fun H => by
    rw [q_ldrpT, if_pos (by rw [natsU_len, hr.len]; exact Nat.le_refl _), List.drop_zero, List.take_of_length_le (by rw [natsU_len, hr.len]; exact Nat.le_refl _)]
  have c3 : ∀ H, loadV G true 4 (.rp false f.a 0) H = some f.a := fun H => rfl
  have c4 : ∀ q : List Nat, q.length = 31 → stS (storeV 31 (.ptr 0 1 0 0) (rgV q) (hp2 Z f00)) = some (.tup [], hp2 q f00) := fun q hq => stRgA hq hZ rfl
  have c5 : ∀ (q : List Nat) (g : FL), stS (storeV 4 (.ptr 1 1 0 0) g.a (hp2 q f00)) = some (.tup [], hp2 q g) := fun q g => rfl
  have st' := st xx
  have hq := setF_len r hr.len d xx
  generalize setF r d xx = q at *
  have c4' := c4 q hq
  have c5' := c5 q f
  refine e_in ?_
  have fx := And.intro r1 <| And.intro g1 <| And.intro g2 <| And.intro g3 <| And.intro g4 <| And.intro k1 <| And.intro k2 <| And.intro k3 <| And.intro b1 <| And.intro b2 <| And.intro c0 <| And.intro c1 <| And.intro c2 <| And.intro c3 <| And.intro z1 <| And.intro z2 <| And.intro e16 <| And.intro e17 <| And.intro k17 <| And.intro st' <| And.intro c4' <| c5'
  refine wkB ?_
  exact oF (rone_fin G q hq f true)
theorem rone_2 (G : Globs) (k : Nat) (d n m a imm : Int) (hw : rightB ⟨2, d, n, m, a, imm⟩ = true) (r : List Nat) (hr : RgOk r) (f : FL) :
    alembicref17_One.f G (k + 7) [mV 2 d n m a imm, rgV r, f.a] [] = some (oneV ((doesF ⟨2, d, n, m, a, imm⟩ r f).1, (doesF ⟨2, d, n, m, a, imm⟩ r f).2, true), []) := by
  have r1 : ∀ H, pureCall (alembicref17_Word.f G (k + 6)) [mV 2 d n m a imm] H = _ := fun H => pureCall_of (H := H) (rword_spec G k ⟨2, d, n, m, a, imm⟩) rfl rfl
  rw [hw] at r1
  obtain ⟨_, hd, hn, hm, ha, hf⟩ := right_ok hw
  have himm : 0 ≤ imm ∧ imm < 65536 := by
    unfold rightB at hw
    rw [Bool.and_eq_true] at hw
    obtain ⟨_, h⟩ := hw
    simp [formF, fairB, regB, extraB, immB, halfI, stackB] at h
    omega
  simp only at hd hn hm ha hf
  clear hw
  have ld := hr.get d
  have ln := hr.get n
  have lm := hr.get m
  have la := hr.get a
  have g : ∀ j, 0 ≤ j → j ≤ 31 → ∀ H, pureCall (alembicref17_get.f G (k + 6)) [rgV r, I6 j] H = some (Un (getF r j), H) := fun j h0 h1 H => pureCall_of (H := H) (rget_spec G (k + 5) r hr.len j h0 h1) (by simp [plainL, plainB, plainU]) rfl
  have g1 := g d hd.1 hd.2
  have g2 := g n hn.1 hn.2
  have g3 := g m hm.1 hm.2
  have g4 := g a ha.1 ha.2
  clear g
  have st : ∀ x H, pureCall (alembicref17_set.f G (k + 6)) [rgV r, I6 d, Un x] H = some (rgV (setF r d x), H) := fun x H => pureCall_of (H := H) (rset_spec G (k + 5) r hr.len d hd.1 hd.2 x) (by simp [plainL, plainB, plainU]) (by simp [cleanB, cleanU])
  obtain ⟨ki, hki⟩ : ∃ z, z = u64 imm := ⟨_, rfl⟩
  have hkl : ki < 18446744073709551616 := by rw [hki]; exact u64_lt _
  have hkv : (ki : Int) = imm := by rw [hki]; unfold u64; omega
  have k1 : convInt .u64 (I6 imm) = some (Un ki) := by rw [conv_u64, hki]
  have k2 : bin Tryd.prog .and 3 true (I6 imm) (.int .i64 63) = some (I6 (imm % 64)) := i64_and63 _ _ _ (by omega) (by omega)
  obtain ⟨kj, hkj⟩ : ∃ z : Nat, (z : Int) = imm % 64 := ⟨(imm % 64).toNat, by omega⟩
  rw [← hkj] at k2
  have k3 : convInt .u64 (Nn kj) = some (Un kj) := by rw [convInt_int, wrap_of_u64 (by omega) (by omega)]
  have ed : doesF ⟨2, d, n, m, a, imm⟩ r f = (setF r d (movkF (getF r d) (u64 imm) (16 * a).toNat), f) := by
    unfold doesF madeF
    simp only [Int.reduceEq, or_false, false_or, or_self, or_true, true_or, if_false, if_true, ↓reduceIte]
  rw [ed]
  clear ed
  simp only
  try rw [← hki]
  generalize getF r d = rd at *
  generalize getF r n = rn at *
  generalize getF r m = rm at *
  generalize getF r a = ra at *
  obtain ⟨a0, a3⟩ := hf.1 (by omega)
  obtain ⟨s, hs⟩ : ∃ s : Nat, s = (16 * a).toNat := ⟨_, rfl⟩
  have e16 : bin Tryd.prog .mul 3 true (.int .i64 16) (I6 a) = some (Nn s) := by
    rw [bin_mul, wrap_of_i64 (by omega) (by omega)]; congr 2; omega
  rw [← hs]
  have e17 : convInt .u64 (Nn s) = some (Un s) := by rw [convInt_int, wrap_of_u64 (by omega) (by omega)]
  have k17 := u64_shl Tryd.prog 43 false .u64 ki s (by omega)
  have k18 : bin Tryd.prog .shl 43 true (.int .u64 65535) (Un s) = some (Un (65535 * 2 ^ s % 18446744073709551616)) := u64_shl Tryd.prog 43 true .u64 65535 s (by omega)
  have k19 := bin_andNot Tryd.prog 43 false .u64 (rd : Int) ((65535 * 2 ^ s % 18446744073709551616 : Nat) : Int)
  have k20 : bin Tryd.prog .or 43 false (.int .u64 (bits .andNot .u64 (rd : Int) ((65535 * 2 ^ s % 18446744073709551616 : Nat) : Int))) (Un (ki * 2 ^ s % 18446744073709551616)) = some (Un (movkF rd ki s)) := by
    rw [bin_or]
    unfold movkF
    have hb : ∀ p q : Int, 0 ≤ bits .or .u64 p q ∧ bits .or .u64 p q < 18446744073709551616 := fun p q => by
      show 0 ≤ IntKind.u64.wrap _ ∧ IntKind.u64.wrap _ < _
      rw [wrap_u64_eq]; omega
    have := hb (bits .andNot .u64 (rd : Int) ((65535 * 2 ^ s % 18446744073709551616 : Nat) : Int)) ((ki * 2 ^ s % 18446744073709551616 : Nat) : Int)
    congr 2
    unfold u64
    omega
  clear hs
  generalize ki * 2 ^ s % 18446744073709551616 = z1' at *
  generalize 65535 * 2 ^ s % 18446744073709551616 = z2' at *
  generalize movkF rd ki s = xx at *
  generalize bits .andNot .u64 (rd : Int) (z2' : Int) = z4' at *
  rw [alembicref17_One.step]
  unfold alembicref17_One.c
  rw [zeroRg, zeroRgL]
  have hZ : (List.replicate 31 0 : List Nat).length = 31 := rfl
  have z1 : buildArr 1 (natsU (List.replicate 31 0)) [] = some (rgV (List.replicate 31 0)) := rfl
  have z2 : buildArr 1 [.bool false, .bool false, .bool false, .bool false] [] = some f00.a := rfl
  have b1 : boxA 44 (rgV (List.replicate 31 0)) [] = some (.ptr 0 1 0 0, [⟨44, 31, [rgV (List.replicate 31 0)]⟩]) := boxRg _ rfl []
  have b2 : boxA 53 (.agg [.bool false, .bool false, .bool false, .bool false]) [⟨44, 31, [rgV (List.replicate 31 0)]⟩] = some (.ptr 1 1 0 0, hp2 (List.replicate 31 0) f00) := rfl
  generalize List.replicate 31 0 = Z at *
  have c0 : ∀ H, boxRoA (rgV r) H = some (.rp false (rgV r) 0, H) := fun H => rfl
  have c1 : ∀ H, boxRoA f.a H = some (.rp false f.a 0, H) := fun H => rfl
  have c2 : ∀ H, loadV G true 31 (.rp false (rgV r) 0) H = some (rgV r) := fun H => by
    rw [q_ldrpT, if_pos (by rw [natsU_len, hr.len]; exact Nat.le_refl _), List.drop_zero, List.take_of_length_le (by rw [natsU_len, hr.len]; exact Nat.le_refl _)]
  have c3 : ∀ H, loadV G true 4 (.rp false f.a 0) H = some f.a := fun H => rfl
  have c4 : ∀ q : List Nat, q.length = 31 → stS (storeV 31 (.ptr 0 1 0 0) (rgV q) (hp2 Z f00)) = some (.tup [], hp2 q f00) := fun q hq => stRgA hq hZ rfl
  have c5 : ∀ (q : List Nat) (g : FL), stS (storeV 4 (.ptr 1 1 0 0) g.a (hp2 q f00)) = some (.tup [], hp2 q g) := fun q g => rfl
  have st' := st xx
  have hq := setF_len r hr.len d xx
  generalize setF r d xx = q at *
  have c4' := c4 q hq
  have c5' := c5 q f
  refine e_in ?_
  have fx := And.intro r1 <| And.intro g1 <| And.intro g2 <| And.intro g3 <| And.intro g4 <| And.intro k1 <| And.intro k2 <| And.intro k3 <| And.intro b1 <| And.intro b2 <| And.intro c0 <| And.intro c1 <| And.intro c2 <| And.intro c3 <| And.intro z1 <| And.intro z2 <| And.intro e16 <| And.intro e17 <| And.intro k17 <| And.intro k18 <| And.intro k19 <| And.intro k20 <| And.intro st' <| And.intro c4' <| c5'
  refine wkB ?_
  exact oF (rone_fin G q hq f true)
theorem rone_3 (G : Globs) (k : Nat) (d n m a imm : Int) (hw : rightB ⟨3, d, n, m, a, imm⟩ = true) (r : List Nat) (hr : RgOk r) (f : FL) :
    alembicref17_One.f G (k + 7) [mV 3 d n m a imm, rgV r, f.a] [] = some (oneV ((doesF ⟨3, d, n, m, a, imm⟩ r f).1, (doesF ⟨3, d, n, m, a, imm⟩ r f).2, true), []) := by
  have r1 : ∀ H, pureCall (alembicref17_Word.f G (k + 6)) [mV 3 d n m a imm] H = _ := fun H => pureCall_of (H := H) (rword_spec G k ⟨3, d, n, m, a, imm⟩) rfl rfl
  rw [hw] at r1
  obtain ⟨_, hd, hn, hm, ha, hf⟩ := right_ok hw
  have himm : 0 ≤ imm ∧ imm < 65536 := by
    unfold rightB at hw
    rw [Bool.and_eq_true] at hw
    obtain ⟨_, h⟩ := hw
    simp [formF, fairB, regB, extraB, immB, halfI, stackB] at h
    omega
  simp only at hd hn hm ha hf
  clear hw
  have ld := hr.get d
  have ln := hr.get n
  have lm := hr.get m
  have la := hr.get a
  have g : ∀ j, 0 ≤ j → j ≤ 31 → ∀ H, pureCall (alembicref17_get.f G (k + 6)) [rgV r, I6 j] H = some (Un (getF r j), H) := fun j h0 h1 H => pureCall_of (H := H) (rget_spec G (k + 5) r hr.len j h0 h1) (by simp [plainL, plainB, plainU]) rfl
  have g1 := g d hd.1 hd.2
  have g2 := g n hn.1 hn.2
  have g3 := g m hm.1 hm.2
  have g4 := g a ha.1 ha.2
  clear g
  have st : ∀ x H, pureCall (alembicref17_set.f G (k + 6)) [rgV r, I6 d, Un x] H = some (rgV (setF r d x), H) := fun x H => pureCall_of (H := H) (rset_spec G (k + 5) r hr.len d hd.1 hd.2 x) (by simp [plainL, plainB, plainU]) (by simp [cleanB, cleanU])
  obtain ⟨ki, hki⟩ : ∃ z, z = u64 imm := ⟨_, rfl⟩
  have hkl : ki < 18446744073709551616 := by rw [hki]; exact u64_lt _
  have hkv : (ki : Int) = imm := by rw [hki]; unfold u64; omega
  have k1 : convInt .u64 (I6 imm) = some (Un ki) := by rw [conv_u64, hki]
  have k2 : bin Tryd.prog .and 3 true (I6 imm) (.int .i64 63) = some (I6 (imm % 64)) := i64_and63 _ _ _ (by omega) (by omega)
  obtain ⟨kj, hkj⟩ : ∃ z : Nat, (z : Int) = imm % 64 := ⟨(imm % 64).toNat, by omega⟩
  rw [← hkj] at k2
  have k3 : convInt .u64 (Nn kj) = some (Un kj) := by rw [convInt_int, wrap_of_u64 (by omega) (by omega)]
  have ed : doesF ⟨3, d, n, m, a, imm⟩ r f = (setF r d ((getF r n + getF r m) % 18446744073709551616), f) := by
    unfold doesF madeF
    simp only [Int.reduceEq, or_false, false_or, or_self, or_true, true_or, if_false, if_true, ↓reduceIte]
  rw [ed]
  clear ed
  simp only
  try rw [← hki]
  generalize getF r d = rd at *
  generalize getF r n = rn at *
  generalize getF r m = rm at *
  generalize getF r a = ra at *
  have o1 := u64_add Tryd.prog 43 false rn rm
  generalize (rn + rm) % 18446744073709551616 = xx at *
  rw [alembicref17_One.step]
  unfold alembicref17_One.c
  rw [zeroRg, zeroRgL]
  have hZ : (List.replicate 31 0 : List Nat).length = 31 := rfl
  have z1 : buildArr 1 (natsU (List.replicate 31 0)) [] = some (rgV (List.replicate 31 0)) := rfl
  have z2 : buildArr 1 [.bool false, .bool false, .bool false, .bool false] [] = some f00.a := rfl
  have b1 : boxA 44 (rgV (List.replicate 31 0)) [] = some (.ptr 0 1 0 0, [⟨44, 31, [rgV (List.replicate 31 0)]⟩]) := boxRg _ rfl []
  have b2 : boxA 53 (.agg [.bool false, .bool false, .bool false, .bool false]) [⟨44, 31, [rgV (List.replicate 31 0)]⟩] = some (.ptr 1 1 0 0, hp2 (List.replicate 31 0) f00) := rfl
  generalize List.replicate 31 0 = Z at *
  have c0 : ∀ H, boxRoA (rgV r) H = some (.rp false (rgV r) 0, H) := fun H => rfl
  have c1 : ∀ H, boxRoA f.a H = some (.rp false f.a 0, H) := fun H => rfl
  have c2 : ∀ H, loadV G true 31 (.rp false (rgV r) 0) H = some (rgV r) := fun H => by
    rw [q_ldrpT, if_pos (by rw [natsU_len, hr.len]; exact Nat.le_refl _), List.drop_zero, List.take_of_length_le (by rw [natsU_len, hr.len]; exact Nat.le_refl _)]
  have c3 : ∀ H, loadV G true 4 (.rp false f.a 0) H = some f.a := fun H => rfl
  have c4 : ∀ q : List Nat, q.length = 31 → stS (storeV 31 (.ptr 0 1 0 0) (rgV q) (hp2 Z f00)) = some (.tup [], hp2 q f00) := fun q hq => stRgA hq hZ rfl
  have c5 : ∀ (q : List Nat) (g : FL), stS (storeV 4 (.ptr 1 1 0 0) g.a (hp2 q f00)) = some (.tup [], hp2 q g) := fun q g => rfl
  have st' := st xx
  have hq := setF_len r hr.len d xx
  generalize setF r d xx = q at *
  have c4' := c4 q hq
  have c5' := c5 q f
  refine e_in ?_
  have fx := And.intro r1 <| And.intro g1 <| And.intro g2 <| And.intro g3 <| And.intro g4 <| And.intro k1 <| And.intro k2 <| And.intro k3 <| And.intro b1 <| And.intro b2 <| And.intro c0 <| And.intro c1 <| And.intro c2 <| And.intro c3 <| And.intro z1 <| And.intro z2 <| And.intro o1 <| And.intro st' <| And.intro c4' <| c5'
  refine wkB ?_
  exact oF (rone_fin G q hq f true)
theorem rone_4 (G : Globs) (k : Nat) (d n m a imm : Int) (hw : rightB ⟨4, d, n, m, a, imm⟩ = true) (r : List Nat) (hr : RgOk r) (f : FL) :
    alembicref17_One.f G (k + 7) [mV 4 d n m a imm, rgV r, f.a] [] = some (oneV ((doesF ⟨4, d, n, m, a, imm⟩ r f).1, (doesF ⟨4, d, n, m, a, imm⟩ r f).2, true), []) := by
  have r1 : ∀ H, pureCall (alembicref17_Word.f G (k + 6)) [mV 4 d n m a imm] H = _ := fun H => pureCall_of (H := H) (rword_spec G k ⟨4, d, n, m, a, imm⟩) rfl rfl
  rw [hw] at r1
  obtain ⟨_, hd, hn, hm, ha, hf⟩ := right_ok hw
  have himm : 0 ≤ imm ∧ imm < 65536 := by
    unfold rightB at hw
    rw [Bool.and_eq_true] at hw
    obtain ⟨_, h⟩ := hw
    simp [formF, fairB, regB, extraB, immB, halfI, stackB] at h
    omega
  simp only at hd hn hm ha hf
  clear hw
  have ld := hr.get d
  have ln := hr.get n
  have lm := hr.get m
  have la := hr.get a
  have g : ∀ j, 0 ≤ j → j ≤ 31 → ∀ H, pureCall (alembicref17_get.f G (k + 6)) [rgV r, I6 j] H = some (Un (getF r j), H) := fun j h0 h1 H => pureCall_of (H := H) (rget_spec G (k + 5) r hr.len j h0 h1) (by simp [plainL, plainB, plainU]) rfl
  have g1 := g d hd.1 hd.2
  have g2 := g n hn.1 hn.2
  have g3 := g m hm.1 hm.2
  have g4 := g a ha.1 ha.2
  clear g
  have st : ∀ x H, pureCall (alembicref17_set.f G (k + 6)) [rgV r, I6 d, Un x] H = some (rgV (setF r d x), H) := fun x H => pureCall_of (H := H) (rset_spec G (k + 5) r hr.len d hd.1 hd.2 x) (by simp [plainL, plainB, plainU]) (by simp [cleanB, cleanU])
  obtain ⟨ki, hki⟩ : ∃ z, z = u64 imm := ⟨_, rfl⟩
  have hkl : ki < 18446744073709551616 := by rw [hki]; exact u64_lt _
  have hkv : (ki : Int) = imm := by rw [hki]; unfold u64; omega
  have k1 : convInt .u64 (I6 imm) = some (Un ki) := by rw [conv_u64, hki]
  have k2 : bin Tryd.prog .and 3 true (I6 imm) (.int .i64 63) = some (I6 (imm % 64)) := i64_and63 _ _ _ (by omega) (by omega)
  obtain ⟨kj, hkj⟩ : ∃ z : Nat, (z : Int) = imm % 64 := ⟨(imm % 64).toNat, by omega⟩
  rw [← hkj] at k2
  have k3 : convInt .u64 (Nn kj) = some (Un kj) := by rw [convInt_int, wrap_of_u64 (by omega) (by omega)]
  have ed : doesF ⟨4, d, n, m, a, imm⟩ r f = (setF r d ((getF r n + 18446744073709551616 - getF r m) % 18446744073709551616), f) := by
    unfold doesF madeF
    simp only [Int.reduceEq, or_false, false_or, or_self, or_true, true_or, if_false, if_true, ↓reduceIte]
  rw [ed]
  clear ed
  simp only
  try rw [← hki]
  generalize getF r d = rd at *
  generalize getF r n = rn at *
  generalize getF r m = rm at *
  generalize getF r a = ra at *
  have o1 := u64_sub Tryd.prog 43 false rn rm lm
  generalize (rn + 18446744073709551616 - rm) % 18446744073709551616 = xx at *
  rw [alembicref17_One.step]
  unfold alembicref17_One.c
  rw [zeroRg, zeroRgL]
  have hZ : (List.replicate 31 0 : List Nat).length = 31 := rfl
  have z1 : buildArr 1 (natsU (List.replicate 31 0)) [] = some (rgV (List.replicate 31 0)) := rfl
  have z2 : buildArr 1 [.bool false, .bool false, .bool false, .bool false] [] = some f00.a := rfl
  have b1 : boxA 44 (rgV (List.replicate 31 0)) [] = some (.ptr 0 1 0 0, [⟨44, 31, [rgV (List.replicate 31 0)]⟩]) := boxRg _ rfl []
  have b2 : boxA 53 (.agg [.bool false, .bool false, .bool false, .bool false]) [⟨44, 31, [rgV (List.replicate 31 0)]⟩] = some (.ptr 1 1 0 0, hp2 (List.replicate 31 0) f00) := rfl
  generalize List.replicate 31 0 = Z at *
  have c0 : ∀ H, boxRoA (rgV r) H = some (.rp false (rgV r) 0, H) := fun H => rfl
  have c1 : ∀ H, boxRoA f.a H = some (.rp false f.a 0, H) := fun H => rfl
  have c2 : ∀ H, loadV G true 31 (.rp false (rgV r) 0) H = some (rgV r) := fun H => by
    rw [q_ldrpT, if_pos (by rw [natsU_len, hr.len]; exact Nat.le_refl _), List.drop_zero, List.take_of_length_le (by rw [natsU_len, hr.len]; exact Nat.le_refl _)]
  have c3 : ∀ H, loadV G true 4 (.rp false f.a 0) H = some f.a := fun H => rfl
  have c4 : ∀ q : List Nat, q.length = 31 → stS (storeV 31 (.ptr 0 1 0 0) (rgV q) (hp2 Z f00)) = some (.tup [], hp2 q f00) := fun q hq => stRgA hq hZ rfl
  have c5 : ∀ (q : List Nat) (g : FL), stS (storeV 4 (.ptr 1 1 0 0) g.a (hp2 q f00)) = some (.tup [], hp2 q g) := fun q g => rfl
  have st' := st xx
  have hq := setF_len r hr.len d xx
  generalize setF r d xx = q at *
  have c4' := c4 q hq
  have c5' := c5 q f
  refine e_in ?_
  have fx := And.intro r1 <| And.intro g1 <| And.intro g2 <| And.intro g3 <| And.intro g4 <| And.intro k1 <| And.intro k2 <| And.intro k3 <| And.intro b1 <| And.intro b2 <| And.intro c0 <| And.intro c1 <| And.intro c2 <| And.intro c3 <| And.intro z1 <| And.intro z2 <| And.intro o1 <| And.intro st' <| And.intro c4' <| c5'
  refine wkB ?_
  exact oF (rone_fin G q hq f true)
theorem rone_5 (G : Globs) (k : Nat) (d n m a imm : Int) (hw : rightB ⟨5, d, n, m, a, imm⟩ = true) (r : List Nat) (hr : RgOk r) (f : FL) :
    alembicref17_One.f G (k + 7) [mV 5 d n m a imm, rgV r, f.a] [] = some (oneV ((doesF ⟨5, d, n, m, a, imm⟩ r f).1, (doesF ⟨5, d, n, m, a, imm⟩ r f).2, true), []) := by
  have r1 : ∀ H, pureCall (alembicref17_Word.f G (k + 6)) [mV 5 d n m a imm] H = _ := fun H => pureCall_of (H := H) (rword_spec G k ⟨5, d, n, m, a, imm⟩) rfl rfl
  rw [hw] at r1
  obtain ⟨_, hd, hn, hm, ha, hf⟩ := right_ok hw
  have himm : 0 ≤ imm ∧ imm < 65536 := by
    unfold rightB at hw
    rw [Bool.and_eq_true] at hw
    obtain ⟨_, h⟩ := hw
    simp [formF, fairB, regB, extraB, immB, halfI, stackB] at h
    omega
  simp only at hd hn hm ha hf
  clear hw
  have ld := hr.get d
  have ln := hr.get n
  have lm := hr.get m
  have la := hr.get a
  have g : ∀ j, 0 ≤ j → j ≤ 31 → ∀ H, pureCall (alembicref17_get.f G (k + 6)) [rgV r, I6 j] H = some (Un (getF r j), H) := fun j h0 h1 H => pureCall_of (H := H) (rget_spec G (k + 5) r hr.len j h0 h1) (by simp [plainL, plainB, plainU]) rfl
  have g1 := g d hd.1 hd.2
  have g2 := g n hn.1 hn.2
  have g3 := g m hm.1 hm.2
  have g4 := g a ha.1 ha.2
  clear g
  have st : ∀ x H, pureCall (alembicref17_set.f G (k + 6)) [rgV r, I6 d, Un x] H = some (rgV (setF r d x), H) := fun x H => pureCall_of (H := H) (rset_spec G (k + 5) r hr.len d hd.1 hd.2 x) (by simp [plainL, plainB, plainU]) (by simp [cleanB, cleanU])
  obtain ⟨ki, hki⟩ : ∃ z, z = u64 imm := ⟨_, rfl⟩
  have hkl : ki < 18446744073709551616 := by rw [hki]; exact u64_lt _
  have hkv : (ki : Int) = imm := by rw [hki]; unfold u64; omega
  have k1 : convInt .u64 (I6 imm) = some (Un ki) := by rw [conv_u64, hki]
  have k2 : bin Tryd.prog .and 3 true (I6 imm) (.int .i64 63) = some (I6 (imm % 64)) := i64_and63 _ _ _ (by omega) (by omega)
  obtain ⟨kj, hkj⟩ : ∃ z : Nat, (z : Int) = imm % 64 := ⟨(imm % 64).toNat, by omega⟩
  rw [← hkj] at k2
  have k3 : convInt .u64 (Nn kj) = some (Un kj) := by rw [convInt_int, wrap_of_u64 (by omega) (by omega)]
  have ed : doesF ⟨5, d, n, m, a, imm⟩ r f = (setF r d (getF r n &&& getF r m), f) := by
    unfold doesF madeF
    simp only [Int.reduceEq, or_false, false_or, or_self, or_true, true_or, if_false, if_true, ↓reduceIte]
  rw [ed]
  clear ed
  simp only
  try rw [← hki]
  generalize getF r d = rd at *
  generalize getF r n = rn at *
  generalize getF r m = rm at *
  generalize getF r a = ra at *
  have o1 : bin Tryd.prog .and 43 false (Un rn) (Un rm) = some (Un (rn &&& rm)) := by rw [bin_and, u64_and rn rm ln lm]
  generalize rn &&& rm = xx at *
  rw [alembicref17_One.step]
  unfold alembicref17_One.c
  rw [zeroRg, zeroRgL]
  have hZ : (List.replicate 31 0 : List Nat).length = 31 := rfl
  have z1 : buildArr 1 (natsU (List.replicate 31 0)) [] = some (rgV (List.replicate 31 0)) := rfl
  have z2 : buildArr 1 [.bool false, .bool false, .bool false, .bool false] [] = some f00.a := rfl
  have b1 : boxA 44 (rgV (List.replicate 31 0)) [] = some (.ptr 0 1 0 0, [⟨44, 31, [rgV (List.replicate 31 0)]⟩]) := boxRg _ rfl []
  have b2 : boxA 53 (.agg [.bool false, .bool false, .bool false, .bool false]) [⟨44, 31, [rgV (List.replicate 31 0)]⟩] = some (.ptr 1 1 0 0, hp2 (List.replicate 31 0) f00) := rfl
  generalize List.replicate 31 0 = Z at *
  have c0 : ∀ H, boxRoA (rgV r) H = some (.rp false (rgV r) 0, H) := fun H => rfl
  have c1 : ∀ H, boxRoA f.a H = some (.rp false f.a 0, H) := fun H => rfl
  have c2 : ∀ H, loadV G true 31 (.rp false (rgV r) 0) H = some (rgV r) := fun H => by
    rw [q_ldrpT, if_pos (by rw [natsU_len, hr.len]; exact Nat.le_refl _), List.drop_zero, List.take_of_length_le (by rw [natsU_len, hr.len]; exact Nat.le_refl _)]
  have c3 : ∀ H, loadV G true 4 (.rp false f.a 0) H = some f.a := fun H => rfl
  have c4 : ∀ q : List Nat, q.length = 31 → stS (storeV 31 (.ptr 0 1 0 0) (rgV q) (hp2 Z f00)) = some (.tup [], hp2 q f00) := fun q hq => stRgA hq hZ rfl
  have c5 : ∀ (q : List Nat) (g : FL), stS (storeV 4 (.ptr 1 1 0 0) g.a (hp2 q f00)) = some (.tup [], hp2 q g) := fun q g => rfl
  have st' := st xx
  have hq := setF_len r hr.len d xx
  generalize setF r d xx = q at *
  have c4' := c4 q hq
  have c5' := c5 q f
  refine e_in ?_
  have fx := And.intro r1 <| And.intro g1 <| And.intro g2 <| And.intro g3 <| And.intro g4 <| And.intro k1 <| And.intro k2 <| And.intro k3 <| And.intro b1 <| And.intro b2 <| And.intro c0 <| And.intro c1 <| And.intro c2 <| And.intro c3 <| And.intro z1 <| And.intro z2 <| And.intro o1 <| And.intro st' <| And.intro c4' <| c5'
  refine wkB ?_
  exact oF (rone_fin G q hq f true)
theorem rone_6 (G : Globs) (k : Nat) (d n m a imm : Int) (hw : rightB ⟨6, d, n, m, a, imm⟩ = true) (r : List Nat) (hr : RgOk r) (f : FL) :
    alembicref17_One.f G (k + 7) [mV 6 d n m a imm, rgV r, f.a] [] = some (oneV ((doesF ⟨6, d, n, m, a, imm⟩ r f).1, (doesF ⟨6, d, n, m, a, imm⟩ r f).2, true), []) := by
  have r1 : ∀ H, pureCall (alembicref17_Word.f G (k + 6)) [mV 6 d n m a imm] H = _ := fun H => pureCall_of (H := H) (rword_spec G k ⟨6, d, n, m, a, imm⟩) rfl rfl
  rw [hw] at r1
  obtain ⟨_, hd, hn, hm, ha, hf⟩ := right_ok hw
  have himm : 0 ≤ imm ∧ imm < 65536 := by
    unfold rightB at hw
    rw [Bool.and_eq_true] at hw
    obtain ⟨_, h⟩ := hw
    simp [formF, fairB, regB, extraB, immB, halfI, stackB] at h
    omega
  simp only at hd hn hm ha hf
  clear hw
  have ld := hr.get d
  have ln := hr.get n
  have lm := hr.get m
  have la := hr.get a
  have g : ∀ j, 0 ≤ j → j ≤ 31 → ∀ H, pureCall (alembicref17_get.f G (k + 6)) [rgV r, I6 j] H = some (Un (getF r j), H) := fun j h0 h1 H => pureCall_of (H := H) (rget_spec G (k + 5) r hr.len j h0 h1) (by simp [plainL, plainB, plainU]) rfl
  have g1 := g d hd.1 hd.2
  have g2 := g n hn.1 hn.2
  have g3 := g m hm.1 hm.2
  have g4 := g a ha.1 ha.2
  clear g
  have st : ∀ x H, pureCall (alembicref17_set.f G (k + 6)) [rgV r, I6 d, Un x] H = some (rgV (setF r d x), H) := fun x H => pureCall_of (H := H) (rset_spec G (k + 5) r hr.len d hd.1 hd.2 x) (by simp [plainL, plainB, plainU]) (by simp [cleanB, cleanU])
  obtain ⟨ki, hki⟩ : ∃ z, z = u64 imm := ⟨_, rfl⟩
  have hkl : ki < 18446744073709551616 := by rw [hki]; exact u64_lt _
  have hkv : (ki : Int) = imm := by rw [hki]; unfold u64; omega
  have k1 : convInt .u64 (I6 imm) = some (Un ki) := by rw [conv_u64, hki]
  have k2 : bin Tryd.prog .and 3 true (I6 imm) (.int .i64 63) = some (I6 (imm % 64)) := i64_and63 _ _ _ (by omega) (by omega)
  obtain ⟨kj, hkj⟩ : ∃ z : Nat, (z : Int) = imm % 64 := ⟨(imm % 64).toNat, by omega⟩
  rw [← hkj] at k2
  have k3 : convInt .u64 (Nn kj) = some (Un kj) := by rw [convInt_int, wrap_of_u64 (by omega) (by omega)]
  have ed : doesF ⟨6, d, n, m, a, imm⟩ r f = (setF r d (getF r n ||| getF r m), f) := by
    unfold doesF madeF
    simp only [Int.reduceEq, or_false, false_or, or_self, or_true, true_or, if_false, if_true, ↓reduceIte]
  rw [ed]
  clear ed
  simp only
  try rw [← hki]
  generalize getF r d = rd at *
  generalize getF r n = rn at *
  generalize getF r m = rm at *
  generalize getF r a = ra at *
  have o1 : bin Tryd.prog .or 43 false (Un rn) (Un rm) = some (Un (rn ||| rm)) := by rw [bin_or, u64_or rn rm ln lm]
  generalize rn ||| rm = xx at *
  rw [alembicref17_One.step]
  unfold alembicref17_One.c
  rw [zeroRg, zeroRgL]
  have hZ : (List.replicate 31 0 : List Nat).length = 31 := rfl
  have z1 : buildArr 1 (natsU (List.replicate 31 0)) [] = some (rgV (List.replicate 31 0)) := rfl
  have z2 : buildArr 1 [.bool false, .bool false, .bool false, .bool false] [] = some f00.a := rfl
  have b1 : boxA 44 (rgV (List.replicate 31 0)) [] = some (.ptr 0 1 0 0, [⟨44, 31, [rgV (List.replicate 31 0)]⟩]) := boxRg _ rfl []
  have b2 : boxA 53 (.agg [.bool false, .bool false, .bool false, .bool false]) [⟨44, 31, [rgV (List.replicate 31 0)]⟩] = some (.ptr 1 1 0 0, hp2 (List.replicate 31 0) f00) := rfl
  generalize List.replicate 31 0 = Z at *
  have c0 : ∀ H, boxRoA (rgV r) H = some (.rp false (rgV r) 0, H) := fun H => rfl
  have c1 : ∀ H, boxRoA f.a H = some (.rp false f.a 0, H) := fun H => rfl
  have c2 : ∀ H, loadV G true 31 (.rp false (rgV r) 0) H = some (rgV r) := fun H => by
    rw [q_ldrpT, if_pos (by rw [natsU_len, hr.len]; exact Nat.le_refl _), List.drop_zero, List.take_of_length_le (by rw [natsU_len, hr.len]; exact Nat.le_refl _)]
  have c3 : ∀ H, loadV G true 4 (.rp false f.a 0) H = some f.a := fun H => rfl
  have c4 : ∀ q : List Nat, q.length = 31 → stS (storeV 31 (.ptr 0 1 0 0) (rgV q) (hp2 Z f00)) = some (.tup [], hp2 q f00) := fun q hq => stRgA hq hZ rfl
  have c5 : ∀ (q : List Nat) (g : FL), stS (storeV 4 (.ptr 1 1 0 0) g.a (hp2 q f00)) = some (.tup [], hp2 q g) := fun q g => rfl
  have st' := st xx
  have hq := setF_len r hr.len d xx
  generalize setF r d xx = q at *
  have c4' := c4 q hq
  have c5' := c5 q f
  refine e_in ?_
  have fx := And.intro r1 <| And.intro g1 <| And.intro g2 <| And.intro g3 <| And.intro g4 <| And.intro k1 <| And.intro k2 <| And.intro k3 <| And.intro b1 <| And.intro b2 <| And.intro c0 <| And.intro c1 <| And.intro c2 <| And.intro c3 <| And.intro z1 <| And.intro z2 <| And.intro o1 <| And.intro st' <| And.intro c4' <| c5'
  refine wkB ?_
  exact oF (rone_fin G q hq f true)
theorem rone_7 (G : Globs) (k : Nat) (d n m a imm : Int) (hw : rightB ⟨7, d, n, m, a, imm⟩ = true) (r : List Nat) (hr : RgOk r) (f : FL) :
    alembicref17_One.f G (k + 7) [mV 7 d n m a imm, rgV r, f.a] [] = some (oneV ((doesF ⟨7, d, n, m, a, imm⟩ r f).1, (doesF ⟨7, d, n, m, a, imm⟩ r f).2, true), []) := by
  have r1 : ∀ H, pureCall (alembicref17_Word.f G (k + 6)) [mV 7 d n m a imm] H = _ := fun H => pureCall_of (H := H) (rword_spec G k ⟨7, d, n, m, a, imm⟩) rfl rfl
  rw [hw] at r1
  obtain ⟨_, hd, hn, hm, ha, hf⟩ := right_ok hw
  have himm : 0 ≤ imm ∧ imm < 65536 := by
    unfold rightB at hw
    rw [Bool.and_eq_true] at hw
    obtain ⟨_, h⟩ := hw
    simp [formF, fairB, regB, extraB, immB, halfI, stackB] at h
    omega
  simp only at hd hn hm ha hf
  clear hw
  have ld := hr.get d
  have ln := hr.get n
  have lm := hr.get m
  have la := hr.get a
  have g : ∀ j, 0 ≤ j → j ≤ 31 → ∀ H, pureCall (alembicref17_get.f G (k + 6)) [rgV r, I6 j] H = some (Un (getF r j), H) := fun j h0 h1 H => pureCall_of (H := H) (rget_spec G (k + 5) r hr.len j h0 h1) (by simp [plainL, plainB, plainU]) rfl
  have g1 := g d hd.1 hd.2
  have g2 := g n hn.1 hn.2
  have g3 := g m hm.1 hm.2
  have g4 := g a ha.1 ha.2
  clear g
  have st : ∀ x H, pureCall (alembicref17_set.f G (k + 6)) [rgV r, I6 d, Un x] H = some (rgV (setF r d x), H) := fun x H => pureCall_of (H := H) (rset_spec G (k + 5) r hr.len d hd.1 hd.2 x) (by simp [plainL, plainB, plainU]) (by simp [cleanB, cleanU])
  obtain ⟨ki, hki⟩ : ∃ z, z = u64 imm := ⟨_, rfl⟩
  have hkl : ki < 18446744073709551616 := by rw [hki]; exact u64_lt _
  have hkv : (ki : Int) = imm := by rw [hki]; unfold u64; omega
  have k1 : convInt .u64 (I6 imm) = some (Un ki) := by rw [conv_u64, hki]
  have k2 : bin Tryd.prog .and 3 true (I6 imm) (.int .i64 63) = some (I6 (imm % 64)) := i64_and63 _ _ _ (by omega) (by omega)
  obtain ⟨kj, hkj⟩ : ∃ z : Nat, (z : Int) = imm % 64 := ⟨(imm % 64).toNat, by omega⟩
  rw [← hkj] at k2
  have k3 : convInt .u64 (Nn kj) = some (Un kj) := by rw [convInt_int, wrap_of_u64 (by omega) (by omega)]
  have ed : doesF ⟨7, d, n, m, a, imm⟩ r f = (setF r d (getF r n ^^^ getF r m), f) := by
    unfold doesF madeF
    simp only [Int.reduceEq, or_false, false_or, or_self, or_true, true_or, if_false, if_true, ↓reduceIte]
  rw [ed]
  clear ed
  simp only
  try rw [← hki]
  generalize getF r d = rd at *
  generalize getF r n = rn at *
  generalize getF r m = rm at *
  generalize getF r a = ra at *
  have o1 : bin Tryd.prog .xor 43 false (Un rn) (Un rm) = some (Un (rn ^^^ rm)) := by rw [bin_xor, u64_xor rn rm ln lm]
  generalize rn ^^^ rm = xx at *
  rw [alembicref17_One.step]
  unfold alembicref17_One.c
  rw [zeroRg, zeroRgL]
  have hZ : (List.replicate 31 0 : List Nat).length = 31 := rfl
  have z1 : buildArr 1 (natsU (List.replicate 31 0)) [] = some (rgV (List.replicate 31 0)) := rfl
  have z2 : buildArr 1 [.bool false, .bool false, .bool false, .bool false] [] = some f00.a := rfl
  have b1 : boxA 44 (rgV (List.replicate 31 0)) [] = some (.ptr 0 1 0 0, [⟨44, 31, [rgV (List.replicate 31 0)]⟩]) := boxRg _ rfl []
  have b2 : boxA 53 (.agg [.bool false, .bool false, .bool false, .bool false]) [⟨44, 31, [rgV (List.replicate 31 0)]⟩] = some (.ptr 1 1 0 0, hp2 (List.replicate 31 0) f00) := rfl
  generalize List.replicate 31 0 = Z at *
  have c0 : ∀ H, boxRoA (rgV r) H = some (.rp false (rgV r) 0, H) := fun H => rfl
  have c1 : ∀ H, boxRoA f.a H = some (.rp false f.a 0, H) := fun H => rfl
  have c2 : ∀ H, loadV G true 31 (.rp false (rgV r) 0) H = some (rgV r) := fun H => by
    rw [q_ldrpT, if_pos (by rw [natsU_len, hr.len]; exact Nat.le_refl _), List.drop_zero, List.take_of_length_le (by rw [natsU_len, hr.len]; exact Nat.le_refl _)]
  have c3 : ∀ H, loadV G true 4 (.rp false f.a 0) H = some f.a := fun H => rfl
  have c4 : ∀ q : List Nat, q.length = 31 → stS (storeV 31 (.ptr 0 1 0 0) (rgV q) (hp2 Z f00)) = some (.tup [], hp2 q f00) := fun q hq => stRgA hq hZ rfl
  have c5 : ∀ (q : List Nat) (g : FL), stS (storeV 4 (.ptr 1 1 0 0) g.a (hp2 q f00)) = some (.tup [], hp2 q g) := fun q g => rfl
  have st' := st xx
  have hq := setF_len r hr.len d xx
  generalize setF r d xx = q at *
  have c4' := c4 q hq
  have c5' := c5 q f
  refine e_in ?_
  have fx := And.intro r1 <| And.intro g1 <| And.intro g2 <| And.intro g3 <| And.intro g4 <| And.intro k1 <| And.intro k2 <| And.intro k3 <| And.intro b1 <| And.intro b2 <| And.intro c0 <| And.intro c1 <| And.intro c2 <| And.intro c3 <| And.intro z1 <| And.intro z2 <| And.intro o1 <| And.intro st' <| And.intro c4' <| c5'
  refine wkB ?_
  exact oF (rone_fin G q hq f true)
theorem rone_8 (G : Globs) (k : Nat) (d n m a imm : Int) (hw : rightB ⟨8, d, n, m, a, imm⟩ = true) (r : List Nat) (hr : RgOk r) (f : FL) :
    alembicref17_One.f G (k + 7) [mV 8 d n m a imm, rgV r, f.a] [] = some (oneV ((doesF ⟨8, d, n, m, a, imm⟩ r f).1, (doesF ⟨8, d, n, m, a, imm⟩ r f).2, true), []) := by
  have r1 : ∀ H, pureCall (alembicref17_Word.f G (k + 6)) [mV 8 d n m a imm] H = _ := fun H => pureCall_of (H := H) (rword_spec G k ⟨8, d, n, m, a, imm⟩) rfl rfl
  rw [hw] at r1
  obtain ⟨_, hd, hn, hm, ha, hf⟩ := right_ok hw
  have himm : 0 ≤ imm ∧ imm < 65536 := by
    unfold rightB at hw
    rw [Bool.and_eq_true] at hw
    obtain ⟨_, h⟩ := hw
    simp [formF, fairB, regB, extraB, immB, halfI, stackB] at h
    omega
  simp only at hd hn hm ha hf
  clear hw
  have ld := hr.get d
  have ln := hr.get n
  have lm := hr.get m
  have la := hr.get a
  have g : ∀ j, 0 ≤ j → j ≤ 31 → ∀ H, pureCall (alembicref17_get.f G (k + 6)) [rgV r, I6 j] H = some (Un (getF r j), H) := fun j h0 h1 H => pureCall_of (H := H) (rget_spec G (k + 5) r hr.len j h0 h1) (by simp [plainL, plainB, plainU]) rfl
  have g1 := g d hd.1 hd.2
  have g2 := g n hn.1 hn.2
  have g3 := g m hm.1 hm.2
  have g4 := g a ha.1 ha.2
  clear g
  have st : ∀ x H, pureCall (alembicref17_set.f G (k + 6)) [rgV r, I6 d, Un x] H = some (rgV (setF r d x), H) := fun x H => pureCall_of (H := H) (rset_spec G (k + 5) r hr.len d hd.1 hd.2 x) (by simp [plainL, plainB, plainU]) (by simp [cleanB, cleanU])
  obtain ⟨ki, hki⟩ : ∃ z, z = u64 imm := ⟨_, rfl⟩
  have hkl : ki < 18446744073709551616 := by rw [hki]; exact u64_lt _
  have hkv : (ki : Int) = imm := by rw [hki]; unfold u64; omega
  have k1 : convInt .u64 (I6 imm) = some (Un ki) := by rw [conv_u64, hki]
  have k2 : bin Tryd.prog .and 3 true (I6 imm) (.int .i64 63) = some (I6 (imm % 64)) := i64_and63 _ _ _ (by omega) (by omega)
  obtain ⟨kj, hkj⟩ : ∃ z : Nat, (z : Int) = imm % 64 := ⟨(imm % 64).toNat, by omega⟩
  rw [← hkj] at k2
  have k3 : convInt .u64 (Nn kj) = some (Un kj) := by rw [convInt_int, wrap_of_u64 (by omega) (by omega)]
  have ed : doesF ⟨8, d, n, m, a, imm⟩ r f = (setF r d ((getF r n * getF r m % 18446744073709551616 + getF r a) % 18446744073709551616), f) := by
    unfold doesF madeF
    simp only [Int.reduceEq, or_false, false_or, or_self, or_true, true_or, if_false, if_true, ↓reduceIte]
  rw [ed]
  clear ed
  simp only
  try rw [← hki]
  generalize getF r d = rd at *
  generalize getF r n = rn at *
  generalize getF r m = rm at *
  generalize getF r a = ra at *
  have o1 := u64_mul Tryd.prog 43 false rn rm
  generalize rn * rm % 18446744073709551616 = z1' at *
  have o2 := u64_add Tryd.prog 43 false z1' ra
  generalize (z1' + ra) % 18446744073709551616 = xx at *
  rw [alembicref17_One.step]
  unfold alembicref17_One.c
  rw [zeroRg, zeroRgL]
  have hZ : (List.replicate 31 0 : List Nat).length = 31 := rfl
  have z1 : buildArr 1 (natsU (List.replicate 31 0)) [] = some (rgV (List.replicate 31 0)) := rfl
  have z2 : buildArr 1 [.bool false, .bool false, .bool false, .bool false] [] = some f00.a := rfl
  have b1 : boxA 44 (rgV (List.replicate 31 0)) [] = some (.ptr 0 1 0 0, [⟨44, 31, [rgV (List.replicate 31 0)]⟩]) := boxRg _ rfl []
  have b2 : boxA 53 (.agg [.bool false, .bool false, .bool false, .bool false]) [⟨44, 31, [rgV (List.replicate 31 0)]⟩] = some (.ptr 1 1 0 0, hp2 (List.replicate 31 0) f00) := rfl
  generalize List.replicate 31 0 = Z at *
  have c0 : ∀ H, boxRoA (rgV r) H = some (.rp false (rgV r) 0, H) := fun H => rfl
  have c1 : ∀ H, boxRoA f.a H = some (.rp false f.a 0, H) := fun H => rfl
  have c2 : ∀ H, loadV G true 31 (.rp false (rgV r) 0) H = some (rgV r) := fun H => by
    rw [q_ldrpT, if_pos (by rw [natsU_len, hr.len]; exact Nat.le_refl _), List.drop_zero, List.take_of_length_le (by rw [natsU_len, hr.len]; exact Nat.le_refl _)]
  have c3 : ∀ H, loadV G true 4 (.rp false f.a 0) H = some f.a := fun H => rfl
  have c4 : ∀ q : List Nat, q.length = 31 → stS (storeV 31 (.ptr 0 1 0 0) (rgV q) (hp2 Z f00)) = some (.tup [], hp2 q f00) := fun q hq => stRgA hq hZ rfl
  have c5 : ∀ (q : List Nat) (g : FL), stS (storeV 4 (.ptr 1 1 0 0) g.a (hp2 q f00)) = some (.tup [], hp2 q g) := fun q g => rfl
  have st' := st xx
  have hq := setF_len r hr.len d xx
  generalize setF r d xx = q at *
  have c4' := c4 q hq
  have c5' := c5 q f
  refine e_in ?_
  have fx := And.intro r1 <| And.intro g1 <| And.intro g2 <| And.intro g3 <| And.intro g4 <| And.intro k1 <| And.intro k2 <| And.intro k3 <| And.intro b1 <| And.intro b2 <| And.intro c0 <| And.intro c1 <| And.intro c2 <| And.intro c3 <| And.intro z1 <| And.intro z2 <| And.intro o1 <| And.intro o2 <| And.intro st' <| And.intro c4' <| c5'
  refine wkB ?_
  exact oF (rone_fin G q hq f true)
theorem rone_9 (G : Globs) (k : Nat) (d n m a imm : Int) (hw : rightB ⟨9, d, n, m, a, imm⟩ = true) (r : List Nat) (hr : RgOk r) (f : FL) :
    alembicref17_One.f G (k + 7) [mV 9 d n m a imm, rgV r, f.a] [] = some (oneV ((doesF ⟨9, d, n, m, a, imm⟩ r f).1, (doesF ⟨9, d, n, m, a, imm⟩ r f).2, true), []) := by
  have r1 : ∀ H, pureCall (alembicref17_Word.f G (k + 6)) [mV 9 d n m a imm] H = _ := fun H => pureCall_of (H := H) (rword_spec G k ⟨9, d, n, m, a, imm⟩) rfl rfl
  rw [hw] at r1
  obtain ⟨_, hd, hn, hm, ha, hf⟩ := right_ok hw
  have himm : 0 ≤ imm ∧ imm < 65536 := by
    unfold rightB at hw
    rw [Bool.and_eq_true] at hw
    obtain ⟨_, h⟩ := hw
    simp [formF, fairB, regB, extraB, immB, halfI, stackB] at h
    omega
  simp only at hd hn hm ha hf
  clear hw
  have ld := hr.get d
  have ln := hr.get n
  have lm := hr.get m
  have la := hr.get a
  have g : ∀ j, 0 ≤ j → j ≤ 31 → ∀ H, pureCall (alembicref17_get.f G (k + 6)) [rgV r, I6 j] H = some (Un (getF r j), H) := fun j h0 h1 H => pureCall_of (H := H) (rget_spec G (k + 5) r hr.len j h0 h1) (by simp [plainL, plainB, plainU]) rfl
  have g1 := g d hd.1 hd.2
  have g2 := g n hn.1 hn.2
  have g3 := g m hm.1 hm.2
  have g4 := g a ha.1 ha.2
  clear g
  have st : ∀ x H, pureCall (alembicref17_set.f G (k + 6)) [rgV r, I6 d, Un x] H = some (rgV (setF r d x), H) := fun x H => pureCall_of (H := H) (rset_spec G (k + 5) r hr.len d hd.1 hd.2 x) (by simp [plainL, plainB, plainU]) (by simp [cleanB, cleanU])
  obtain ⟨ki, hki⟩ : ∃ z, z = u64 imm := ⟨_, rfl⟩
  have hkl : ki < 18446744073709551616 := by rw [hki]; exact u64_lt _
  have hkv : (ki : Int) = imm := by rw [hki]; unfold u64; omega
  have k1 : convInt .u64 (I6 imm) = some (Un ki) := by rw [conv_u64, hki]
  have k2 : bin Tryd.prog .and 3 true (I6 imm) (.int .i64 63) = some (I6 (imm % 64)) := i64_and63 _ _ _ (by omega) (by omega)
  obtain ⟨kj, hkj⟩ : ∃ z : Nat, (z : Int) = imm % 64 := ⟨(imm % 64).toNat, by omega⟩
  rw [← hkj] at k2
  have k3 : convInt .u64 (Nn kj) = some (Un kj) := by rw [convInt_int, wrap_of_u64 (by omega) (by omega)]
  have ed : doesF ⟨9, d, n, m, a, imm⟩ r f = (setF r d (getF r n * getF r m / 18446744073709551616), f) := by
    unfold doesF madeF
    simp only [Int.reduceEq, or_false, false_or, or_self, or_true, true_or, if_false, if_true, ↓reduceIte]
  rw [ed]
  clear ed
  simp only
  try rw [← hki]
  generalize getF r d = rd at *
  generalize getF r n = rn at *
  generalize getF r m = rm at *
  generalize getF r a = ra at *
  have o1 : ∀ H, pureCall (math_bits_Mul64.f G (k + 6)) [Un rn, Un rm] H = _ := fun H => pureCall_of (H := H) (mul64_spec G (k + 5) rn rm ln lm) rfl rfl
  generalize rn * rm / 18446744073709551616 = xx at *
  rw [alembicref17_One.step]
  unfold alembicref17_One.c
  rw [zeroRg, zeroRgL]
  have hZ : (List.replicate 31 0 : List Nat).length = 31 := rfl
  have z1 : buildArr 1 (natsU (List.replicate 31 0)) [] = some (rgV (List.replicate 31 0)) := rfl
  have z2 : buildArr 1 [.bool false, .bool false, .bool false, .bool false] [] = some f00.a := rfl
  have b1 : boxA 44 (rgV (List.replicate 31 0)) [] = some (.ptr 0 1 0 0, [⟨44, 31, [rgV (List.replicate 31 0)]⟩]) := boxRg _ rfl []
  have b2 : boxA 53 (.agg [.bool false, .bool false, .bool false, .bool false]) [⟨44, 31, [rgV (List.replicate 31 0)]⟩] = some (.ptr 1 1 0 0, hp2 (List.replicate 31 0) f00) := rfl
  generalize List.replicate 31 0 = Z at *
  have c0 : ∀ H, boxRoA (rgV r) H = some (.rp false (rgV r) 0, H) := fun H => rfl
  have c1 : ∀ H, boxRoA f.a H = some (.rp false f.a 0, H) := fun H => rfl
  have c2 : ∀ H, loadV G true 31 (.rp false (rgV r) 0) H = some (rgV r) := fun H => by
    rw [q_ldrpT, if_pos (by rw [natsU_len, hr.len]; exact Nat.le_refl _), List.drop_zero, List.take_of_length_le (by rw [natsU_len, hr.len]; exact Nat.le_refl _)]
  have c3 : ∀ H, loadV G true 4 (.rp false f.a 0) H = some f.a := fun H => rfl
  have c4 : ∀ q : List Nat, q.length = 31 → stS (storeV 31 (.ptr 0 1 0 0) (rgV q) (hp2 Z f00)) = some (.tup [], hp2 q f00) := fun q hq => stRgA hq hZ rfl
  have c5 : ∀ (q : List Nat) (g : FL), stS (storeV 4 (.ptr 1 1 0 0) g.a (hp2 q f00)) = some (.tup [], hp2 q g) := fun q g => rfl
  have st' := st xx
  have hq := setF_len r hr.len d xx
  generalize setF r d xx = q at *
  have c4' := c4 q hq
  have c5' := c5 q f
  refine e_in ?_
  have fx := And.intro r1 <| And.intro g1 <| And.intro g2 <| And.intro g3 <| And.intro g4 <| And.intro k1 <| And.intro k2 <| And.intro k3 <| And.intro b1 <| And.intro b2 <| And.intro c0 <| And.intro c1 <| And.intro c2 <| And.intro c3 <| And.intro z1 <| And.intro z2 <| And.intro o1 <| And.intro st' <| And.intro c4' <| c5'
  refine wkB ?_
  exact oF (rone_fin G q hq f true)
theorem rone_10 (G : Globs) (k : Nat) (d n m a imm : Int) (hw : rightB ⟨10, d, n, m, a, imm⟩ = true) (r : List Nat) (hr : RgOk r) (f : FL) :
    alembicref17_One.f G (k + 7) [mV 10 d n m a imm, rgV r, f.a] [] = some (oneV ((doesF ⟨10, d, n, m, a, imm⟩ r f).1, (doesF ⟨10, d, n, m, a, imm⟩ r f).2, true), []) := by
  have r1 : ∀ H, pureCall (alembicref17_Word.f G (k + 6)) [mV 10 d n m a imm] H = _ := fun H => pureCall_of (H := H) (rword_spec G k ⟨10, d, n, m, a, imm⟩) rfl rfl
  rw [hw] at r1
  obtain ⟨_, hd, hn, hm, ha, hf⟩ := right_ok hw
  have himm : 0 ≤ imm ∧ imm < 65536 := by
    unfold rightB at hw
    rw [Bool.and_eq_true] at hw
    obtain ⟨_, h⟩ := hw
    simp [formF, fairB, regB, extraB, immB, halfI, stackB] at h
    omega
  simp only at hd hn hm ha hf
  clear hw
  have ld := hr.get d
  have ln := hr.get n
  have lm := hr.get m
  have la := hr.get a
  have g : ∀ j, 0 ≤ j → j ≤ 31 → ∀ H, pureCall (alembicref17_get.f G (k + 6)) [rgV r, I6 j] H = some (Un (getF r j), H) := fun j h0 h1 H => pureCall_of (H := H) (rget_spec G (k + 5) r hr.len j h0 h1) (by simp [plainL, plainB, plainU]) rfl
  have g1 := g d hd.1 hd.2
  have g2 := g n hn.1 hn.2
  have g3 := g m hm.1 hm.2
  have g4 := g a ha.1 ha.2
  clear g
  have st : ∀ x H, pureCall (alembicref17_set.f G (k + 6)) [rgV r, I6 d, Un x] H = some (rgV (setF r d x), H) := fun x H => pureCall_of (H := H) (rset_spec G (k + 5) r hr.len d hd.1 hd.2 x) (by simp [plainL, plainB, plainU]) (by simp [cleanB, cleanU])
  obtain ⟨ki, hki⟩ : ∃ z, z = u64 imm := ⟨_, rfl⟩
  have hkl : ki < 18446744073709551616 := by rw [hki]; exact u64_lt _
  have hkv : (ki : Int) = imm := by rw [hki]; unfold u64; omega
  have k1 : convInt .u64 (I6 imm) = some (Un ki) := by rw [conv_u64, hki]
  have k2 : bin Tryd.prog .and 3 true (I6 imm) (.int .i64 63) = some (I6 (imm % 64)) := i64_and63 _ _ _ (by omega) (by omega)
  obtain ⟨kj, hkj⟩ : ∃ z : Nat, (z : Int) = imm % 64 := ⟨(imm % 64).toNat, by omega⟩
  rw [← hkj] at k2
  have k3 : convInt .u64 (Nn kj) = some (Un kj) := by rw [convInt_int, wrap_of_u64 (by omega) (by omega)]
  have ed : doesF ⟨10, d, n, m, a, imm⟩ r f = (setF r d ((getF r n + u64 imm) % 18446744073709551616), f) := by
    unfold doesF madeF
    simp only [Int.reduceEq, or_false, false_or, or_self, or_true, true_or, if_false, if_true, ↓reduceIte]
  rw [ed]
  clear ed
  simp only
  try rw [← hki]
  generalize getF r d = rd at *
  generalize getF r n = rn at *
  generalize getF r m = rm at *
  generalize getF r a = ra at *
  have o1 := u64_add Tryd.prog 43 false rn ki
  generalize (rn + ki) % 18446744073709551616 = xx at *
  rw [alembicref17_One.step]
  unfold alembicref17_One.c
  rw [zeroRg, zeroRgL]
  have hZ : (List.replicate 31 0 : List Nat).length = 31 := rfl
  have z1 : buildArr 1 (natsU (List.replicate 31 0)) [] = some (rgV (List.replicate 31 0)) := rfl
  have z2 : buildArr 1 [.bool false, .bool false, .bool false, .bool false] [] = some f00.a := rfl
  have b1 : boxA 44 (rgV (List.replicate 31 0)) [] = some (.ptr 0 1 0 0, [⟨44, 31, [rgV (List.replicate 31 0)]⟩]) := boxRg _ rfl []
  have b2 : boxA 53 (.agg [.bool false, .bool false, .bool false, .bool false]) [⟨44, 31, [rgV (List.replicate 31 0)]⟩] = some (.ptr 1 1 0 0, hp2 (List.replicate 31 0) f00) := rfl
  generalize List.replicate 31 0 = Z at *
  have c0 : ∀ H, boxRoA (rgV r) H = some (.rp false (rgV r) 0, H) := fun H => rfl
  have c1 : ∀ H, boxRoA f.a H = some (.rp false f.a 0, H) := fun H => rfl
  have c2 : ∀ H, loadV G true 31 (.rp false (rgV r) 0) H = some (rgV r) := fun H => by
    rw [q_ldrpT, if_pos (by rw [natsU_len, hr.len]; exact Nat.le_refl _), List.drop_zero, List.take_of_length_le (by rw [natsU_len, hr.len]; exact Nat.le_refl _)]
  have c3 : ∀ H, loadV G true 4 (.rp false f.a 0) H = some f.a := fun H => rfl
  have c4 : ∀ q : List Nat, q.length = 31 → stS (storeV 31 (.ptr 0 1 0 0) (rgV q) (hp2 Z f00)) = some (.tup [], hp2 q f00) := fun q hq => stRgA hq hZ rfl
  have c5 : ∀ (q : List Nat) (g : FL), stS (storeV 4 (.ptr 1 1 0 0) g.a (hp2 q f00)) = some (.tup [], hp2 q g) := fun q g => rfl
  have st' := st xx
  have hq := setF_len r hr.len d xx
  generalize setF r d xx = q at *
  have c4' := c4 q hq
  have c5' := c5 q f
  refine e_in ?_
  have fx := And.intro r1 <| And.intro g1 <| And.intro g2 <| And.intro g3 <| And.intro g4 <| And.intro k1 <| And.intro k2 <| And.intro k3 <| And.intro b1 <| And.intro b2 <| And.intro c0 <| And.intro c1 <| And.intro c2 <| And.intro c3 <| And.intro z1 <| And.intro z2 <| And.intro o1 <| And.intro st' <| And.intro c4' <| c5'
  refine wkB ?_
  exact oF (rone_fin G q hq f true)
theorem rone_11 (G : Globs) (k : Nat) (d n m a imm : Int) (hw : rightB ⟨11, d, n, m, a, imm⟩ = true) (r : List Nat) (hr : RgOk r) (f : FL) :
    alembicref17_One.f G (k + 7) [mV 11 d n m a imm, rgV r, f.a] [] = some (oneV ((doesF ⟨11, d, n, m, a, imm⟩ r f).1, (doesF ⟨11, d, n, m, a, imm⟩ r f).2, true), []) := by
  have r1 : ∀ H, pureCall (alembicref17_Word.f G (k + 6)) [mV 11 d n m a imm] H = _ := fun H => pureCall_of (H := H) (rword_spec G k ⟨11, d, n, m, a, imm⟩) rfl rfl
  rw [hw] at r1
  obtain ⟨_, hd, hn, hm, ha, hf⟩ := right_ok hw
  have himm : 0 ≤ imm ∧ imm < 65536 := by
    unfold rightB at hw
    rw [Bool.and_eq_true] at hw
    obtain ⟨_, h⟩ := hw
    simp [formF, fairB, regB, extraB, immB, halfI, stackB] at h
    omega
  simp only at hd hn hm ha hf
  clear hw
  have ld := hr.get d
  have ln := hr.get n
  have lm := hr.get m
  have la := hr.get a
  have g : ∀ j, 0 ≤ j → j ≤ 31 → ∀ H, pureCall (alembicref17_get.f G (k + 6)) [rgV r, I6 j] H = some (Un (getF r j), H) := fun j h0 h1 H => pureCall_of (H := H) (rget_spec G (k + 5) r hr.len j h0 h1) (by simp [plainL, plainB, plainU]) rfl
  have g1 := g d hd.1 hd.2
  have g2 := g n hn.1 hn.2
  have g3 := g m hm.1 hm.2
  have g4 := g a ha.1 ha.2
  clear g
  have st : ∀ x H, pureCall (alembicref17_set.f G (k + 6)) [rgV r, I6 d, Un x] H = some (rgV (setF r d x), H) := fun x H => pureCall_of (H := H) (rset_spec G (k + 5) r hr.len d hd.1 hd.2 x) (by simp [plainL, plainB, plainU]) (by simp [cleanB, cleanU])
  obtain ⟨ki, hki⟩ : ∃ z, z = u64 imm := ⟨_, rfl⟩
  have hkl : ki < 18446744073709551616 := by rw [hki]; exact u64_lt _
  have hkv : (ki : Int) = imm := by rw [hki]; unfold u64; omega
  have k1 : convInt .u64 (I6 imm) = some (Un ki) := by rw [conv_u64, hki]
  have k2 : bin Tryd.prog .and 3 true (I6 imm) (.int .i64 63) = some (I6 (imm % 64)) := i64_and63 _ _ _ (by omega) (by omega)
  obtain ⟨kj, hkj⟩ : ∃ z : Nat, (z : Int) = imm % 64 := ⟨(imm % 64).toNat, by omega⟩
  rw [← hkj] at k2
  have k3 : convInt .u64 (Nn kj) = some (Un kj) := by rw [convInt_int, wrap_of_u64 (by omega) (by omega)]
  have ed : doesF ⟨11, d, n, m, a, imm⟩ r f = (setF r d ((getF r n + 18446744073709551616 - u64 imm) % 18446744073709551616), f) := by
    unfold doesF madeF
    simp only [Int.reduceEq, or_false, false_or, or_self, or_true, true_or, if_false, if_true, ↓reduceIte]
  rw [ed]
  clear ed
  simp only
  try rw [← hki]
  generalize getF r d = rd at *
  generalize getF r n = rn at *
  generalize getF r m = rm at *
  generalize getF r a = ra at *
  have o1 := u64_sub Tryd.prog 43 false rn ki hkl
  generalize (rn + 18446744073709551616 - ki) % 18446744073709551616 = xx at *
  rw [alembicref17_One.step]
  unfold alembicref17_One.c
  rw [zeroRg, zeroRgL]
  have hZ : (List.replicate 31 0 : List Nat).length = 31 := rfl
  have z1 : buildArr 1 (natsU (List.replicate 31 0)) [] = some (rgV (List.replicate 31 0)) := rfl
  have z2 : buildArr 1 [.bool false, .bool false, .bool false, .bool false] [] = some f00.a := rfl
  have b1 : boxA 44 (rgV (List.replicate 31 0)) [] = some (.ptr 0 1 0 0, [⟨44, 31, [rgV (List.replicate 31 0)]⟩]) := boxRg _ rfl []
  have b2 : boxA 53 (.agg [.bool false, .bool false, .bool false, .bool false]) [⟨44, 31, [rgV (List.replicate 31 0)]⟩] = some (.ptr 1 1 0 0, hp2 (List.replicate 31 0) f00) := rfl
  generalize List.replicate 31 0 = Z at *
  have c0 : ∀ H, boxRoA (rgV r) H = some (.rp false (rgV r) 0, H) := fun H => rfl
  have c1 : ∀ H, boxRoA f.a H = some (.rp false f.a 0, H) := fun H => rfl
  have c2 : ∀ H, loadV G true 31 (.rp false (rgV r) 0) H = some (rgV r) := fun H => by
    rw [q_ldrpT, if_pos (by rw [natsU_len, hr.len]; exact Nat.le_refl _), List.drop_zero, List.take_of_length_le (by rw [natsU_len, hr.len]; exact Nat.le_refl _)]
  have c3 : ∀ H, loadV G true 4 (.rp false f.a 0) H = some f.a := fun H => rfl
  have c4 : ∀ q : List Nat, q.length = 31 → stS (storeV 31 (.ptr 0 1 0 0) (rgV q) (hp2 Z f00)) = some (.tup [], hp2 q f00) := fun q hq => stRgA hq hZ rfl
  have c5 : ∀ (q : List Nat) (g : FL), stS (storeV 4 (.ptr 1 1 0 0) g.a (hp2 q f00)) = some (.tup [], hp2 q g) := fun q g => rfl
  have st' := st xx
  have hq := setF_len r hr.len d xx
  generalize setF r d xx = q at *
  have c4' := c4 q hq
  have c5' := c5 q f
  refine e_in ?_
  have fx := And.intro r1 <| And.intro g1 <| And.intro g2 <| And.intro g3 <| And.intro g4 <| And.intro k1 <| And.intro k2 <| And.intro k3 <| And.intro b1 <| And.intro b2 <| And.intro c0 <| And.intro c1 <| And.intro c2 <| And.intro c3 <| And.intro z1 <| And.intro z2 <| And.intro o1 <| And.intro st' <| And.intro c4' <| c5'
  refine wkB ?_
  exact oF (rone_fin G q hq f true)
theorem rone_12 (G : Globs) (k : Nat) (d n m a imm : Int) (hw : rightB ⟨12, d, n, m, a, imm⟩ = true) (r : List Nat) (hr : RgOk r) (f : FL) :
    alembicref17_One.f G (k + 7) [mV 12 d n m a imm, rgV r, f.a] [] = some (oneV ((doesF ⟨12, d, n, m, a, imm⟩ r f).1, (doesF ⟨12, d, n, m, a, imm⟩ r f).2, true), []) := by
  have r1 : ∀ H, pureCall (alembicref17_Word.f G (k + 6)) [mV 12 d n m a imm] H = _ := fun H => pureCall_of (H := H) (rword_spec G k ⟨12, d, n, m, a, imm⟩) rfl rfl
  rw [hw] at r1
  obtain ⟨_, hd, hn, hm, ha, hf⟩ := right_ok hw
  have himm : 0 ≤ imm ∧ imm < 65536 := by
    unfold rightB at hw
    rw [Bool.and_eq_true] at hw
    obtain ⟨_, h⟩ := hw
    simp [formF, fairB, regB, extraB, immB, halfI, stackB] at h
    omega
  simp only at hd hn hm ha hf
  clear hw
  have ld := hr.get d
  have ln := hr.get n
  have lm := hr.get m
  have la := hr.get a
  have g : ∀ j, 0 ≤ j → j ≤ 31 → ∀ H, pureCall (alembicref17_get.f G (k + 6)) [rgV r, I6 j] H = some (Un (getF r j), H) := fun j h0 h1 H => pureCall_of (H := H) (rget_spec G (k + 5) r hr.len j h0 h1) (by simp [plainL, plainB, plainU]) rfl
  have g1 := g d hd.1 hd.2
  have g2 := g n hn.1 hn.2
  have g3 := g m hm.1 hm.2
  have g4 := g a ha.1 ha.2
  clear g
  have st : ∀ x H, pureCall (alembicref17_set.f G (k + 6)) [rgV r, I6 d, Un x] H = some (rgV (setF r d x), H) := fun x H => pureCall_of (H := H) (rset_spec G (k + 5) r hr.len d hd.1 hd.2 x) (by simp [plainL, plainB, plainU]) (by simp [cleanB, cleanU])
  obtain ⟨ki, hki⟩ : ∃ z, z = u64 imm := ⟨_, rfl⟩
  have hkl : ki < 18446744073709551616 := by rw [hki]; exact u64_lt _
  have hkv : (ki : Int) = imm := by rw [hki]; unfold u64; omega
  have k1 : convInt .u64 (I6 imm) = some (Un ki) := by rw [conv_u64, hki]
  have k2 : bin Tryd.prog .and 3 true (I6 imm) (.int .i64 63) = some (I6 (imm % 64)) := i64_and63 _ _ _ (by omega) (by omega)
  obtain ⟨kj, hkj⟩ : ∃ z : Nat, (z : Int) = imm % 64 := ⟨(imm % 64).toNat, by omega⟩
  rw [← hkj] at k2
  have k3 : convInt .u64 (Nn kj) = some (Un kj) := by rw [convInt_int, wrap_of_u64 (by omega) (by omega)]
  have ed : doesF ⟨12, d, n, m, a, imm⟩ r f = (setF r d (getF r n * 2 ^ (u64 imm) % 18446744073709551616), f) := by
    unfold doesF madeF
    simp only [Int.reduceEq, or_false, false_or, or_self, or_true, true_or, if_false, if_true, ↓reduceIte]
  rw [ed]
  clear ed
  simp only
  try rw [← hki]
  generalize getF r d = rd at *
  generalize getF r n = rn at *
  generalize getF r m = rm at *
  generalize getF r a = ra at *
  have hi := hf.2 (by omega) (by omega)
  have ej : kj = ki := by omega
  subst ej
  have o1 := u64_shl Tryd.prog 43 false .u64 rn kj (by omega)
  generalize rn * 2 ^ kj % 18446744073709551616 = xx at *
  rw [alembicref17_One.step]
  unfold alembicref17_One.c
  rw [zeroRg, zeroRgL]
  have hZ : (List.replicate 31 0 : List Nat).length = 31 := rfl
  have z1 : buildArr 1 (natsU (List.replicate 31 0)) [] = some (rgV (List.replicate 31 0)) := rfl
  have z2 : buildArr 1 [.bool false, .bool false, .bool false, .bool false] [] = some f00.a := rfl
  have b1 : boxA 44 (rgV (List.replicate 31 0)) [] = some (.ptr 0 1 0 0, [⟨44, 31, [rgV (List.replicate 31 0)]⟩]) := boxRg _ rfl []
  have b2 : boxA 53 (.agg [.bool false, .bool false, .bool false, .bool false]) [⟨44, 31, [rgV (List.replicate 31 0)]⟩] = some (.ptr 1 1 0 0, hp2 (List.replicate 31 0) f00) := rfl
  generalize List.replicate 31 0 = Z at *
  have c0 : ∀ H, boxRoA (rgV r) H = some (.rp false (rgV r) 0, H) := fun H => rfl
  have c1 : ∀ H, boxRoA f.a H = some (.rp false f.a 0, H) := fun H => rfl
  have c2 : ∀ H, loadV G true 31 (.rp false (rgV r) 0) H = some (rgV r) := fun H => by
    rw [q_ldrpT, if_pos (by rw [natsU_len, hr.len]; exact Nat.le_refl _), List.drop_zero, List.take_of_length_le (by rw [natsU_len, hr.len]; exact Nat.le_refl _)]
  have c3 : ∀ H, loadV G true 4 (.rp false f.a 0) H = some f.a := fun H => rfl
  have c4 : ∀ q : List Nat, q.length = 31 → stS (storeV 31 (.ptr 0 1 0 0) (rgV q) (hp2 Z f00)) = some (.tup [], hp2 q f00) := fun q hq => stRgA hq hZ rfl
  have c5 : ∀ (q : List Nat) (g : FL), stS (storeV 4 (.ptr 1 1 0 0) g.a (hp2 q f00)) = some (.tup [], hp2 q g) := fun q g => rfl
  have st' := st xx
  have hq := setF_len r hr.len d xx
  generalize setF r d xx = q at *
  have c4' := c4 q hq
  have c5' := c5 q f
  refine e_in ?_
  have fx := And.intro r1 <| And.intro g1 <| And.intro g2 <| And.intro g3 <| And.intro g4 <| And.intro k1 <| And.intro k2 <| And.intro k3 <| And.intro b1 <| And.intro b2 <| And.intro c0 <| And.intro c1 <| And.intro c2 <| And.intro c3 <| And.intro z1 <| And.intro z2 <| And.intro o1 <| And.intro st' <| And.intro c4' <| c5'
  refine wkB ?_
  exact oF (rone_fin G q hq f true)
theorem rone_13 (G : Globs) (k : Nat) (d n m a imm : Int) (hw : rightB ⟨13, d, n, m, a, imm⟩ = true) (r : List Nat) (hr : RgOk r) (f : FL) :
    alembicref17_One.f G (k + 7) [mV 13 d n m a imm, rgV r, f.a] [] = some (oneV ((doesF ⟨13, d, n, m, a, imm⟩ r f).1, (doesF ⟨13, d, n, m, a, imm⟩ r f).2, true), []) := by
  have r1 : ∀ H, pureCall (alembicref17_Word.f G (k + 6)) [mV 13 d n m a imm] H = _ := fun H => pureCall_of (H := H) (rword_spec G k ⟨13, d, n, m, a, imm⟩) rfl rfl
  rw [hw] at r1
  obtain ⟨_, hd, hn, hm, ha, hf⟩ := right_ok hw
  have himm : 0 ≤ imm ∧ imm < 65536 := by
    unfold rightB at hw
    rw [Bool.and_eq_true] at hw
    obtain ⟨_, h⟩ := hw
    simp [formF, fairB, regB, extraB, immB, halfI, stackB] at h
    omega
  simp only at hd hn hm ha hf
  clear hw
  have ld := hr.get d
  have ln := hr.get n
  have lm := hr.get m
  have la := hr.get a
  have g : ∀ j, 0 ≤ j → j ≤ 31 → ∀ H, pureCall (alembicref17_get.f G (k + 6)) [rgV r, I6 j] H = some (Un (getF r j), H) := fun j h0 h1 H => pureCall_of (H := H) (rget_spec G (k + 5) r hr.len j h0 h1) (by simp [plainL, plainB, plainU]) rfl
  have g1 := g d hd.1 hd.2
  have g2 := g n hn.1 hn.2
  have g3 := g m hm.1 hm.2
  have g4 := g a ha.1 ha.2
  clear g
  have st : ∀ x H, pureCall (alembicref17_set.f G (k + 6)) [rgV r, I6 d, Un x] H = some (rgV (setF r d x), H) := fun x H => pureCall_of (H := H) (rset_spec G (k + 5) r hr.len d hd.1 hd.2 x) (by simp [plainL, plainB, plainU]) (by simp [cleanB, cleanU])
  obtain ⟨ki, hki⟩ : ∃ z, z = u64 imm := ⟨_, rfl⟩
  have hkl : ki < 18446744073709551616 := by rw [hki]; exact u64_lt _
  have hkv : (ki : Int) = imm := by rw [hki]; unfold u64; omega
  have k1 : convInt .u64 (I6 imm) = some (Un ki) := by rw [conv_u64, hki]
  have k2 : bin Tryd.prog .and 3 true (I6 imm) (.int .i64 63) = some (I6 (imm % 64)) := i64_and63 _ _ _ (by omega) (by omega)
  obtain ⟨kj, hkj⟩ : ∃ z : Nat, (z : Int) = imm % 64 := ⟨(imm % 64).toNat, by omega⟩
  rw [← hkj] at k2
  have k3 : convInt .u64 (Nn kj) = some (Un kj) := by rw [convInt_int, wrap_of_u64 (by omega) (by omega)]
  have ed : doesF ⟨13, d, n, m, a, imm⟩ r f = (setF r d (getF r n / 2 ^ (u64 imm)), f) := by
    unfold doesF madeF
    simp only [Int.reduceEq, or_false, false_or, or_self, or_true, true_or, if_false, if_true, ↓reduceIte]
  rw [ed]
  clear ed
  simp only
  try rw [← hki]
  generalize getF r d = rd at *
  generalize getF r n = rn at *
  generalize getF r m = rm at *
  generalize getF r a = ra at *
  have hi := hf.2 (by omega) (by omega)
  have ej : kj = ki := by omega
  subst ej
  have o1 := u64_shr Tryd.prog 43 false .u64 rn kj (by omega)
  generalize rn / 2 ^ kj = xx at *
  rw [alembicref17_One.step]
  unfold alembicref17_One.c
  rw [zeroRg, zeroRgL]
  have hZ : (List.replicate 31 0 : List Nat).length = 31 := rfl
  have z1 : buildArr 1 (natsU (List.replicate 31 0)) [] = some (rgV (List.replicate 31 0)) := rfl
  have z2 : buildArr 1 [.bool false, .bool false, .bool false, .bool false] [] = some f00.a := rfl
  have b1 : boxA 44 (rgV (List.replicate 31 0)) [] = some (.ptr 0 1 0 0, [⟨44, 31, [rgV (List.replicate 31 0)]⟩]) := boxRg _ rfl []
  have b2 : boxA 53 (.agg [.bool false, .bool false, .bool false, .bool false]) [⟨44, 31, [rgV (List.replicate 31 0)]⟩] = some (.ptr 1 1 0 0, hp2 (List.replicate 31 0) f00) := rfl
  generalize List.replicate 31 0 = Z at *
  have c0 : ∀ H, boxRoA (rgV r) H = some (.rp false (rgV r) 0, H) := fun H => rfl
  have c1 : ∀ H, boxRoA f.a H = some (.rp false f.a 0, H) := fun H => rfl
  have c2 : ∀ H, loadV G true 31 (.rp false (rgV r) 0) H = some (rgV r) := fun H => by
    rw [q_ldrpT, if_pos (by rw [natsU_len, hr.len]; exact Nat.le_refl _), List.drop_zero, List.take_of_length_le (by rw [natsU_len, hr.len]; exact Nat.le_refl _)]
  have c3 : ∀ H, loadV G true 4 (.rp false f.a 0) H = some f.a := fun H => rfl
  have c4 : ∀ q : List Nat, q.length = 31 → stS (storeV 31 (.ptr 0 1 0 0) (rgV q) (hp2 Z f00)) = some (.tup [], hp2 q f00) := fun q hq => stRgA hq hZ rfl
  have c5 : ∀ (q : List Nat) (g : FL), stS (storeV 4 (.ptr 1 1 0 0) g.a (hp2 q f00)) = some (.tup [], hp2 q g) := fun q g => rfl
  have st' := st xx
  have hq := setF_len r hr.len d xx
  generalize setF r d xx = q at *
  have c4' := c4 q hq
  have c5' := c5 q f
  refine e_in ?_
  have fx := And.intro r1 <| And.intro g1 <| And.intro g2 <| And.intro g3 <| And.intro g4 <| And.intro k1 <| And.intro k2 <| And.intro k3 <| And.intro b1 <| And.intro b2 <| And.intro c0 <| And.intro c1 <| And.intro c2 <| And.intro c3 <| And.intro z1 <| And.intro z2 <| And.intro o1 <| And.intro st' <| And.intro c4' <| c5'
  refine wkB ?_
  exact oF (rone_fin G q hq f true)
theorem rone_14 (G : Globs) (k : Nat) (d n m a imm : Int) (hw : rightB ⟨14, d, n, m, a, imm⟩ = true) (r : List Nat) (hr : RgOk r) (f : FL) :
    alembicref17_One.f G (k + 7) [mV 14 d n m a imm, rgV r, f.a] [] = some (oneV ((doesF ⟨14, d, n, m, a, imm⟩ r f).1, (doesF ⟨14, d, n, m, a, imm⟩ r f).2, true), []) := by
  have r1 : ∀ H, pureCall (alembicref17_Word.f G (k + 6)) [mV 14 d n m a imm] H = _ := fun H => pureCall_of (H := H) (rword_spec G k ⟨14, d, n, m, a, imm⟩) rfl rfl
  rw [hw] at r1
  obtain ⟨_, hd, hn, hm, ha, hf⟩ := right_ok hw
  have himm : 0 ≤ imm ∧ imm < 65536 := by
    unfold rightB at hw
    rw [Bool.and_eq_true] at hw
    obtain ⟨_, h⟩ := hw
    simp [formF, fairB, regB, extraB, immB, halfI, stackB] at h
    omega
  simp only at hd hn hm ha hf
  clear hw
  have ld := hr.get d
  have ln := hr.get n
  have lm := hr.get m
  have la := hr.get a
  have g : ∀ j, 0 ≤ j → j ≤ 31 → ∀ H, pureCall (alembicref17_get.f G (k + 6)) [rgV r, I6 j] H = some (Un (getF r j), H) := fun j h0 h1 H => pureCall_of (H := H) (rget_spec G (k + 5) r hr.len j h0 h1) (by simp [plainL, plainB, plainU]) rfl
  have g1 := g d hd.1 hd.2
  have g2 := g n hn.1 hn.2
  have g3 := g m hm.1 hm.2
  have g4 := g a ha.1 ha.2
  clear g
  have st : ∀ x H, pureCall (alembicref17_set.f G (k + 6)) [rgV r, I6 d, Un x] H = some (rgV (setF r d x), H) := fun x H => pureCall_of (H := H) (rset_spec G (k + 5) r hr.len d hd.1 hd.2 x) (by simp [plainL, plainB, plainU]) (by simp [cleanB, cleanU])
  obtain ⟨ki, hki⟩ : ∃ z, z = u64 imm := ⟨_, rfl⟩
  have hkl : ki < 18446744073709551616 := by rw [hki]; exact u64_lt _
  have hkv : (ki : Int) = imm := by rw [hki]; unfold u64; omega
  have k1 : convInt .u64 (I6 imm) = some (Un ki) := by rw [conv_u64, hki]
  have k2 : bin Tryd.prog .and 3 true (I6 imm) (.int .i64 63) = some (I6 (imm % 64)) := i64_and63 _ _ _ (by omega) (by omega)
  obtain ⟨kj, hkj⟩ : ∃ z : Nat, (z : Int) = imm % 64 := ⟨(imm % 64).toNat, by omega⟩
  rw [← hkj] at k2
  have k3 : convInt .u64 (Nn kj) = some (Un kj) := by rw [convInt_int, wrap_of_u64 (by omega) (by omega)]
  have ed : doesF ⟨14, d, n, m, a, imm⟩ r f = (setF r d (sarF (getF r n) (u64 imm)), f) := by
    unfold doesF madeF
    simp only [Int.reduceEq, or_false, false_or, or_self, or_true, true_or, if_false, if_true, ↓reduceIte]
  rw [ed]
  clear ed
  simp only
  try rw [← hki]
  generalize getF r d = rd at *
  generalize getF r n = rn at *
  generalize getF r m = rm at *
  generalize getF r a = ra at *
  have hi := hf.2 (by omega) (by omega)
  have ej : kj = ki := by omega
  subst ej
  have o1 := conv_i64 rn ln
  have o2 : bin Tryd.prog .shr 2 false (I6 (s64 rn)) (Un kj) = some (I6 ((s64 rn).fdiv (2 ^ kj))) := by
    rw [bin_shr _ _ _ _ _ _ _ (Int.natCast_nonneg kj)]
    have e : min ((kj : Int)).toNat IntKind.i64.bits = kj := by rw [Int.toNat_natCast]; exact Nat.min_eq_left (by have : IntKind.i64.bits = 64 := rfl; omega)
    rw [e]
  have o3 := conv_u64 .i64 ((s64 rn).fdiv (2 ^ kj))
  have hq : u64 ((s64 rn).fdiv (2 ^ kj)) = sarF rn kj := rfl
  rw [hq] at o3
  clear hq
  generalize sarF rn kj = xx at *
  generalize (s64 rn).fdiv (2 ^ kj) = yy at *
  rw [alembicref17_One.step]
  unfold alembicref17_One.c
  rw [zeroRg, zeroRgL]
  have hZ : (List.replicate 31 0 : List Nat).length = 31 := rfl
  have z1 : buildArr 1 (natsU (List.replicate 31 0)) [] = some (rgV (List.replicate 31 0)) := rfl
  have z2 : buildArr 1 [.bool false, .bool false, .bool false, .bool false] [] = some f00.a := rfl
  have b1 : boxA 44 (rgV (List.replicate 31 0)) [] = some (.ptr 0 1 0 0, [⟨44, 31, [rgV (List.replicate 31 0)]⟩]) := boxRg _ rfl []
  have b2 : boxA 53 (.agg [.bool false, .bool false, .bool false, .bool false]) [⟨44, 31, [rgV (List.replicate 31 0)]⟩] = some (.ptr 1 1 0 0, hp2 (List.replicate 31 0) f00) := rfl
  generalize List.replicate 31 0 = Z at *
  have c0 : ∀ H, boxRoA (rgV r) H = some (.rp false (rgV r) 0, H) := fun H => rfl
  have c1 : ∀ H, boxRoA f.a H = some (.rp false f.a 0, H) := fun H => rfl
  have c2 : ∀ H, loadV G true 31 (.rp false (rgV r) 0) H = some (rgV r) := fun H => by
    rw [q_ldrpT, if_pos (by rw [natsU_len, hr.len]; exact Nat.le_refl _), List.drop_zero, List.take_of_length_le (by rw [natsU_len, hr.len]; exact Nat.le_refl _)]
  have c3 : ∀ H, loadV G true 4 (.rp false f.a 0) H = some f.a := fun H => rfl
  have c4 : ∀ q : List Nat, q.length = 31 → stS (storeV 31 (.ptr 0 1 0 0) (rgV q) (hp2 Z f00)) = some (.tup [], hp2 q f00) := fun q hq => stRgA hq hZ rfl
  have c5 : ∀ (q : List Nat) (g : FL), stS (storeV 4 (.ptr 1 1 0 0) g.a (hp2 q f00)) = some (.tup [], hp2 q g) := fun q g => rfl
  have st' := st xx
  have hq := setF_len r hr.len d xx
  generalize setF r d xx = q at *
  have c4' := c4 q hq
  have c5' := c5 q f
  refine e_in ?_
  have fx := And.intro r1 <| And.intro g1 <| And.intro g2 <| And.intro g3 <| And.intro g4 <| And.intro k1 <| And.intro k2 <| And.intro k3 <| And.intro b1 <| And.intro b2 <| And.intro c0 <| And.intro c1 <| And.intro c2 <| And.intro c3 <| And.intro z1 <| And.intro z2 <| And.intro o1 <| And.intro o2 <| And.intro o3 <| And.intro st' <| And.intro c4' <| c5'
  refine wkB ?_
  exact oF (rone_fin G q hq f true)
theorem rone_15 (G : Globs) (k : Nat) (d n m a imm : Int) (hw : rightB ⟨15, d, n, m, a, imm⟩ = true) (r : List Nat) (hr : RgOk r) (f : FL) :
    alembicref17_One.f G (k + 7) [mV 15 d n m a imm, rgV r, f.a] [] = some (oneV ((doesF ⟨15, d, n, m, a, imm⟩ r f).1, (doesF ⟨15, d, n, m, a, imm⟩ r f).2, true), []) := by
  have r1 : ∀ H, pureCall (alembicref17_Word.f G (k + 6)) [mV 15 d n m a imm] H = _ := fun H => pureCall_of (H := H) (rword_spec G k ⟨15, d, n, m, a, imm⟩) rfl rfl
  rw [hw] at r1
  obtain ⟨_, hd, hn, hm, ha, hf⟩ := right_ok hw
  have himm : 0 ≤ imm ∧ imm < 65536 := by
    unfold rightB at hw
    rw [Bool.and_eq_true] at hw
    obtain ⟨_, h⟩ := hw
    simp [formF, fairB, regB, extraB, immB, halfI, stackB] at h
    omega
  simp only at hd hn hm ha hf
  clear hw
  have ld := hr.get d
  have ln := hr.get n
  have lm := hr.get m
  have la := hr.get a
  have g : ∀ j, 0 ≤ j → j ≤ 31 → ∀ H, pureCall (alembicref17_get.f G (k + 6)) [rgV r, I6 j] H = some (Un (getF r j), H) := fun j h0 h1 H => pureCall_of (H := H) (rget_spec G (k + 5) r hr.len j h0 h1) (by simp [plainL, plainB, plainU]) rfl
  have g1 := g d hd.1 hd.2
  have g2 := g n hn.1 hn.2
  have g3 := g m hm.1 hm.2
  have g4 := g a ha.1 ha.2
  clear g
  have st : ∀ x H, pureCall (alembicref17_set.f G (k + 6)) [rgV r, I6 d, Un x] H = some (rgV (setF r d x), H) := fun x H => pureCall_of (H := H) (rset_spec G (k + 5) r hr.len d hd.1 hd.2 x) (by simp [plainL, plainB, plainU]) (by simp [cleanB, cleanU])
  obtain ⟨ki, hki⟩ : ∃ z, z = u64 imm := ⟨_, rfl⟩
  have hkl : ki < 18446744073709551616 := by rw [hki]; exact u64_lt _
  have hkv : (ki : Int) = imm := by rw [hki]; unfold u64; omega
  have k1 : convInt .u64 (I6 imm) = some (Un ki) := by rw [conv_u64, hki]
  have k2 : bin Tryd.prog .and 3 true (I6 imm) (.int .i64 63) = some (I6 (imm % 64)) := i64_and63 _ _ _ (by omega) (by omega)
  obtain ⟨kj, hkj⟩ : ∃ z : Nat, (z : Int) = imm % 64 := ⟨(imm % 64).toNat, by omega⟩
  rw [← hkj] at k2
  have k3 : convInt .u64 (Nn kj) = some (Un kj) := by rw [convInt_int, wrap_of_u64 (by omega) (by omega)]
  have ed : doesF ⟨15, d, n, m, a, imm⟩ r f = (r, lessF (getF r n) (getF r m)) := rfl
  rw [ed]
  clear ed
  simp only
  generalize getF r d = rd at *
  generalize getF r n = rn at *
  generalize getF r m = rm at *
  generalize getF r a = ra at *
  unfold lessF
  have k1' := u64_sub Tryd.prog 43 false rn rm lm
  obtain ⟨x, hx⟩ : ∃ x, x = (rn + 18446744073709551616 - rm) % 18446744073709551616 := ⟨_, rfl⟩
  have hxl : x < 18446744073709551616 := by omega
  rw [← hx] at k1' ⊢
  unfold lessX
  have k2' : bin Tryd.prog .shr 43 true (Un x) (.int .u64 63) = some (Un (x / 2 ^ 63)) := u64_shr Tryd.prog 43 true .u64 x 63 (by omega)
  have k3' : bin Tryd.prog .eql 43 true (Un (x / 2 ^ 63)) (.int .u64 1) = some (.bool (decide (x / 2 ^ 63 = 1))) := by rw [bin_eql]; congr 2; simp only [decide_eq_decide]; omega
  have k4' : bin Tryd.prog .eql 43 true (Un x) (.int .u64 0) = some (.bool (decide (x = 0))) := by rw [bin_eql]; congr 2; simp only [decide_eq_decide]; omega
  have k5' : bin Tryd.prog .geq 43 false (Un rn) (Un rm) = some (.bool (decide (rm ≤ rn))) := by rw [bin_geq]; congr 2; simp only [decide_eq_decide]; omega
  have k6' : bin Tryd.prog .xor 43 false (Un rn) (Un rm) = some (Un (rn ^^^ rm)) := by rw [bin_xor, u64_xor rn rm ln lm]
  have k7' : bin Tryd.prog .xor 43 false (Un rn) (Un x) = some (Un (rn ^^^ x)) := by rw [bin_xor, u64_xor rn x ln hxl]
  have l6 : rn ^^^ rm < 2 ^ 64 := Nat.xor_lt_two_pow ln lm
  have l7 : rn ^^^ x < 2 ^ 64 := Nat.xor_lt_two_pow ln hxl
  obtain ⟨y, hy⟩ : ∃ y, y = (rn ^^^ rm) &&& (rn ^^^ x) := ⟨_, rfl⟩
  have k8' : bin Tryd.prog .and 43 false (Un (rn ^^^ rm)) (Un (rn ^^^ x)) = some (Un y) := by rw [bin_and, u64_and _ _ (by omega) (by omega), hy]
  rw [← hy]
  have k9' : bin Tryd.prog .shr 43 true (Un y) (.int .u64 63) = some (Un (y / 2 ^ 63)) := u64_shr Tryd.prog 43 true .u64 y 63 (by omega)
  have k10' : bin Tryd.prog .eql 43 true (Un (y / 2 ^ 63)) (.int .u64 1) = some (.bool (decide (y / 2 ^ 63 = 1))) := by rw [bin_eql]; congr 2; simp only [decide_eq_decide]; omega
  have x2 : ∀ p q r s, buildArr 1 [.bool false, .bool false, .bool false, .bool false] [(0, .bool p), (1, .bool q), (2, .bool r), (3, .bool s)] = some (FL.a ⟨p, q, r, s⟩) := fun p q r s => rfl
  clear hx hy l6 l7 hxl
  generalize rn ^^^ rm = z1' at *
  generalize rn ^^^ x = z2' at *
  generalize decide (x / 2 ^ 63 = 1) = t1 at *
  generalize decide (x = 0) = t2 at *
  generalize decide (rm ≤ rn) = t3 at *
  generalize decide (y / 2 ^ 63 = 1) = t4 at *
  generalize x / 2 ^ 63 = z3' at *
  generalize y / 2 ^ 63 = z4' at *
  obtain ⟨ff, hff⟩ : ∃ ff : FL, ff = ⟨t1, t2, t3, t4⟩ := ⟨_, rfl⟩
  have x3 := x2 t1 t2 t3 t4
  rw [← hff] at x3 ⊢
  clear x2 hff
  rw [alembicref17_One.step]
  unfold alembicref17_One.c
  rw [zeroRg, zeroRgL]
  have hZ : (List.replicate 31 0 : List Nat).length = 31 := rfl
  have z1 : buildArr 1 (natsU (List.replicate 31 0)) [] = some (rgV (List.replicate 31 0)) := rfl
  have z2 : buildArr 1 [.bool false, .bool false, .bool false, .bool false] [] = some f00.a := rfl
  have b1 : boxA 44 (rgV (List.replicate 31 0)) [] = some (.ptr 0 1 0 0, [⟨44, 31, [rgV (List.replicate 31 0)]⟩]) := boxRg _ rfl []
  have b2 : boxA 53 (.agg [.bool false, .bool false, .bool false, .bool false]) [⟨44, 31, [rgV (List.replicate 31 0)]⟩] = some (.ptr 1 1 0 0, hp2 (List.replicate 31 0) f00) := rfl
  generalize List.replicate 31 0 = Z at *
  have c0 : ∀ H, boxRoA (rgV r) H = some (.rp false (rgV r) 0, H) := fun H => rfl
  have c1 : ∀ H, boxRoA f.a H = some (.rp false f.a 0, H) := fun H => rfl
  have c2 : ∀ H, loadV G true 31 (.rp false (rgV r) 0) H = some (rgV r) := fun H => by
    rw [q_ldrpT, if_pos (by rw [natsU_len, hr.len]; exact Nat.le_refl _), List.drop_zero, List.take_of_length_le (by rw [natsU_len, hr.len]; exact Nat.le_refl _)]
  have c3 : ∀ H, loadV G true 4 (.rp false f.a 0) H = some f.a := fun H => rfl
  have c4 : ∀ q : List Nat, q.length = 31 → stS (storeV 31 (.ptr 0 1 0 0) (rgV q) (hp2 Z f00)) = some (.tup [], hp2 q f00) := fun q hq => stRgA hq hZ rfl
  have c5 : ∀ (q : List Nat) (g : FL), stS (storeV 4 (.ptr 1 1 0 0) g.a (hp2 q f00)) = some (.tup [], hp2 q g) := fun q g => rfl
  have c4' := c4 r hr.len
  have c5' := c5 r ff
  refine e_in ?_
  have fx := And.intro r1 <| And.intro g1 <| And.intro g2 <| And.intro g3 <| And.intro g4 <| And.intro k1 <| And.intro k2 <| And.intro k3 <| And.intro b1 <| And.intro b2 <| And.intro c0 <| And.intro c1 <| And.intro c2 <| And.intro c3 <| And.intro z1 <| And.intro z2 <| And.intro k1' <| And.intro k2' <| And.intro k3' <| And.intro k4' <| And.intro k5' <| And.intro k6' <| And.intro k7' <| And.intro k8' <| And.intro k9' <| And.intro k10' <| And.intro x3 <| And.intro c4' <| c5'
  refine wkB ?_
  exact oF (rone_fin G r hr.len ff true)
theorem rone_16 (G : Globs) (k : Nat) (d n m a imm : Int) (hw : rightB ⟨16, d, n, m, a, imm⟩ = true) (r : List Nat) (hr : RgOk r) (f : FL) :
    alembicref17_One.f G (k + 7) [mV 16 d n m a imm, rgV r, f.a] [] = some (oneV ((doesF ⟨16, d, n, m, a, imm⟩ r f).1, (doesF ⟨16, d, n, m, a, imm⟩ r f).2, true), []) := by
  have r1 : ∀ H, pureCall (alembicref17_Word.f G (k + 6)) [mV 16 d n m a imm] H = _ := fun H => pureCall_of (H := H) (rword_spec G k ⟨16, d, n, m, a, imm⟩) rfl rfl
  rw [hw] at r1
  obtain ⟨_, hd, hn, hm, ha, hf⟩ := right_ok hw
  have himm : 0 ≤ imm ∧ imm < 65536 := by
    unfold rightB at hw
    rw [Bool.and_eq_true] at hw
    obtain ⟨_, h⟩ := hw
    simp [formF, fairB, regB, extraB, immB, halfI, stackB] at h
    omega
  simp only at hd hn hm ha hf
  clear hw
  have ld := hr.get d
  have ln := hr.get n
  have lm := hr.get m
  have la := hr.get a
  have g : ∀ j, 0 ≤ j → j ≤ 31 → ∀ H, pureCall (alembicref17_get.f G (k + 6)) [rgV r, I6 j] H = some (Un (getF r j), H) := fun j h0 h1 H => pureCall_of (H := H) (rget_spec G (k + 5) r hr.len j h0 h1) (by simp [plainL, plainB, plainU]) rfl
  have g1 := g d hd.1 hd.2
  have g2 := g n hn.1 hn.2
  have g3 := g m hm.1 hm.2
  have g4 := g a ha.1 ha.2
  clear g
  have st : ∀ x H, pureCall (alembicref17_set.f G (k + 6)) [rgV r, I6 d, Un x] H = some (rgV (setF r d x), H) := fun x H => pureCall_of (H := H) (rset_spec G (k + 5) r hr.len d hd.1 hd.2 x) (by simp [plainL, plainB, plainU]) (by simp [cleanB, cleanU])
  obtain ⟨ki, hki⟩ : ∃ z, z = u64 imm := ⟨_, rfl⟩
  have hkl : ki < 18446744073709551616 := by rw [hki]; exact u64_lt _
  have hkv : (ki : Int) = imm := by rw [hki]; unfold u64; omega
  have k1 : convInt .u64 (I6 imm) = some (Un ki) := by rw [conv_u64, hki]
  have k2 : bin Tryd.prog .and 3 true (I6 imm) (.int .i64 63) = some (I6 (imm % 64)) := i64_and63 _ _ _ (by omega) (by omega)
  obtain ⟨kj, hkj⟩ : ∃ z : Nat, (z : Int) = imm % 64 := ⟨(imm % 64).toNat, by omega⟩
  rw [← hkj] at k2
  have k3 : convInt .u64 (Nn kj) = some (Un kj) := by rw [convInt_int, wrap_of_u64 (by omega) (by omega)]
  have ed : doesF ⟨16, d, n, m, a, imm⟩ r f = (setF r d ((if holdsF a f = true then getF r n else getF r m)), f) := by
    unfold doesF madeF
    simp only [Int.reduceEq, or_false, false_or, or_self, or_true, true_or, if_false, if_true, ↓reduceIte]
  rw [ed]
  clear ed
  simp only
  try rw [← hki]
  generalize getF r d = rd at *
  generalize getF r n = rn at *
  generalize getF r m = rm at *
  generalize getF r a = ra at *
  have o1 : ∀ H, pureCall (alembicref17_Holds.f G (k + 6)) [I6 a, f.a] H = _ := fun H => pureCall_of (H := H) (rholds_spec G (k + 5) a f) rfl rfl
  generalize holdsF a f = hh at *
  rw [alembicref17_One.step]
  unfold alembicref17_One.c
  rw [zeroRg, zeroRgL]
  have hZ : (List.replicate 31 0 : List Nat).length = 31 := rfl
  have z1 : buildArr 1 (natsU (List.replicate 31 0)) [] = some (rgV (List.replicate 31 0)) := rfl
  have z2 : buildArr 1 [.bool false, .bool false, .bool false, .bool false] [] = some f00.a := rfl
  have b1 : boxA 44 (rgV (List.replicate 31 0)) [] = some (.ptr 0 1 0 0, [⟨44, 31, [rgV (List.replicate 31 0)]⟩]) := boxRg _ rfl []
  have b2 : boxA 53 (.agg [.bool false, .bool false, .bool false, .bool false]) [⟨44, 31, [rgV (List.replicate 31 0)]⟩] = some (.ptr 1 1 0 0, hp2 (List.replicate 31 0) f00) := rfl
  generalize List.replicate 31 0 = Z at *
  have c0 : ∀ H, boxRoA (rgV r) H = some (.rp false (rgV r) 0, H) := fun H => rfl
  have c1 : ∀ H, boxRoA f.a H = some (.rp false f.a 0, H) := fun H => rfl
  have c2 : ∀ H, loadV G true 31 (.rp false (rgV r) 0) H = some (rgV r) := fun H => by
    rw [q_ldrpT, if_pos (by rw [natsU_len, hr.len]; exact Nat.le_refl _), List.drop_zero, List.take_of_length_le (by rw [natsU_len, hr.len]; exact Nat.le_refl _)]
  have c3 : ∀ H, loadV G true 4 (.rp false f.a 0) H = some f.a := fun H => rfl
  have c4 : ∀ q : List Nat, q.length = 31 → stS (storeV 31 (.ptr 0 1 0 0) (rgV q) (hp2 Z f00)) = some (.tup [], hp2 q f00) := fun q hq => stRgA hq hZ rfl
  have c5 : ∀ (q : List Nat) (g : FL), stS (storeV 4 (.ptr 1 1 0 0) g.a (hp2 q f00)) = some (.tup [], hp2 q g) := fun q g => rfl
  refine e_in ?_
  cases hh
  · simp only [Bool.false_eq_true, if_false, if_true]
    have st' : ∀ H, pureCall (alembicref17_set.f G (k + 6)) [rgV r, I6 d, Un rm] H = some (rgV (setF r d rm), H) := st rm
    have hq := setF_len r hr.len d rm
    generalize setF r d rm = q at *
    have c4' := c4 q hq
    have c5' := c5 q f
    have fx := And.intro r1 <| And.intro g1 <| And.intro g2 <| And.intro g3 <| And.intro g4 <| And.intro k1 <| And.intro k2 <| And.intro k3 <| And.intro b1 <| And.intro b2 <| And.intro c0 <| And.intro c1 <| And.intro c2 <| And.intro c3 <| And.intro z1 <| And.intro z2 <| And.intro o1 <| And.intro st' <| And.intro c4' <| c5'
    refine wkB ?_
    exact oF (rone_fin G q hq f true)
  · simp only [Bool.false_eq_true, if_false, if_true]
    have st' : ∀ H, pureCall (alembicref17_set.f G (k + 6)) [rgV r, I6 d, Un rn] H = some (rgV (setF r d rn), H) := st rn
    have hq := setF_len r hr.len d rn
    generalize setF r d rn = q at *
    have c4' := c4 q hq
    have c5' := c5 q f
    have fx := And.intro r1 <| And.intro g1 <| And.intro g2 <| And.intro g3 <| And.intro g4 <| And.intro k1 <| And.intro k2 <| And.intro k3 <| And.intro b1 <| And.intro b2 <| And.intro c0 <| And.intro c1 <| And.intro c2 <| And.intro c3 <| And.intro z1 <| And.intro z2 <| And.intro o1 <| And.intro st' <| And.intro c4' <| c5'
    refine wkB ?_
    exact oF (rone_fin G q hq f true)
theorem rone_17 (G : Globs) (k : Nat) (d n m a imm : Int) (hw : rightB ⟨17, d, n, m, a, imm⟩ = true) (r : List Nat) (hr : RgOk r) (f : FL) :
    alembicref17_One.f G (k + 7) [mV 17 d n m a imm, rgV r, f.a] [] = some (oneV ((doesF ⟨17, d, n, m, a, imm⟩ r f).1, (doesF ⟨17, d, n, m, a, imm⟩ r f).2, true), []) := by
  have r1 : ∀ H, pureCall (alembicref17_Word.f G (k + 6)) [mV 17 d n m a imm] H = _ := fun H => pureCall_of (H := H) (rword_spec G k ⟨17, d, n, m, a, imm⟩) rfl rfl
  rw [hw] at r1
  obtain ⟨_, hd, hn, hm, ha, hf⟩ := right_ok hw
  have himm : 0 ≤ imm ∧ imm < 65536 := by
    unfold rightB at hw
    rw [Bool.and_eq_true] at hw
    obtain ⟨_, h⟩ := hw
    simp [formF, fairB, regB, extraB, immB, halfI, stackB] at h
    omega
  simp only at hd hn hm ha hf
  clear hw
  have ld := hr.get d
  have ln := hr.get n
  have lm := hr.get m
  have la := hr.get a
  have g : ∀ j, 0 ≤ j → j ≤ 31 → ∀ H, pureCall (alembicref17_get.f G (k + 6)) [rgV r, I6 j] H = some (Un (getF r j), H) := fun j h0 h1 H => pureCall_of (H := H) (rget_spec G (k + 5) r hr.len j h0 h1) (by simp [plainL, plainB, plainU]) rfl
  have g1 := g d hd.1 hd.2
  have g2 := g n hn.1 hn.2
  have g3 := g m hm.1 hm.2
  have g4 := g a ha.1 ha.2
  clear g
  have st : ∀ x H, pureCall (alembicref17_set.f G (k + 6)) [rgV r, I6 d, Un x] H = some (rgV (setF r d x), H) := fun x H => pureCall_of (H := H) (rset_spec G (k + 5) r hr.len d hd.1 hd.2 x) (by simp [plainL, plainB, plainU]) (by simp [cleanB, cleanU])
  obtain ⟨ki, hki⟩ : ∃ z, z = u64 imm := ⟨_, rfl⟩
  have hkl : ki < 18446744073709551616 := by rw [hki]; exact u64_lt _
  have hkv : (ki : Int) = imm := by rw [hki]; unfold u64; omega
  have k1 : convInt .u64 (I6 imm) = some (Un ki) := by rw [conv_u64, hki]
  have k2 : bin Tryd.prog .and 3 true (I6 imm) (.int .i64 63) = some (I6 (imm % 64)) := i64_and63 _ _ _ (by omega) (by omega)
  obtain ⟨kj, hkj⟩ : ∃ z : Nat, (z : Int) = imm % 64 := ⟨(imm % 64).toNat, by omega⟩
  rw [← hkj] at k2
  have k3 : convInt .u64 (Nn kj) = some (Un kj) := by rw [convInt_int, wrap_of_u64 (by omega) (by omega)]
  have ed : doesF ⟨17, d, n, m, a, imm⟩ r f = (setF r d ((if holdsF a f = true then 1 else 0)), f) := by
    unfold doesF madeF
    simp only [Int.reduceEq, or_false, false_or, or_self, or_true, true_or, if_false, if_true, ↓reduceIte]
  rw [ed]
  clear ed
  simp only
  try rw [← hki]
  generalize getF r d = rd at *
  generalize getF r n = rn at *
  generalize getF r m = rm at *
  generalize getF r a = ra at *
  have o1 : ∀ H, pureCall (alembicref17_Holds.f G (k + 6)) [I6 a, f.a] H = _ := fun H => pureCall_of (H := H) (rholds_spec G (k + 5) a f) rfl rfl
  generalize holdsF a f = hh at *
  rw [alembicref17_One.step]
  unfold alembicref17_One.c
  rw [zeroRg, zeroRgL]
  have hZ : (List.replicate 31 0 : List Nat).length = 31 := rfl
  have z1 : buildArr 1 (natsU (List.replicate 31 0)) [] = some (rgV (List.replicate 31 0)) := rfl
  have z2 : buildArr 1 [.bool false, .bool false, .bool false, .bool false] [] = some f00.a := rfl
  have b1 : boxA 44 (rgV (List.replicate 31 0)) [] = some (.ptr 0 1 0 0, [⟨44, 31, [rgV (List.replicate 31 0)]⟩]) := boxRg _ rfl []
  have b2 : boxA 53 (.agg [.bool false, .bool false, .bool false, .bool false]) [⟨44, 31, [rgV (List.replicate 31 0)]⟩] = some (.ptr 1 1 0 0, hp2 (List.replicate 31 0) f00) := rfl
  generalize List.replicate 31 0 = Z at *
  have c0 : ∀ H, boxRoA (rgV r) H = some (.rp false (rgV r) 0, H) := fun H => rfl
  have c1 : ∀ H, boxRoA f.a H = some (.rp false f.a 0, H) := fun H => rfl
  have c2 : ∀ H, loadV G true 31 (.rp false (rgV r) 0) H = some (rgV r) := fun H => by
    rw [q_ldrpT, if_pos (by rw [natsU_len, hr.len]; exact Nat.le_refl _), List.drop_zero, List.take_of_length_le (by rw [natsU_len, hr.len]; exact Nat.le_refl _)]
  have c3 : ∀ H, loadV G true 4 (.rp false f.a 0) H = some f.a := fun H => rfl
  have c4 : ∀ q : List Nat, q.length = 31 → stS (storeV 31 (.ptr 0 1 0 0) (rgV q) (hp2 Z f00)) = some (.tup [], hp2 q f00) := fun q hq => stRgA hq hZ rfl
  have c5 : ∀ (q : List Nat) (g : FL), stS (storeV 4 (.ptr 1 1 0 0) g.a (hp2 q f00)) = some (.tup [], hp2 q g) := fun q g => rfl
  refine e_in ?_
  cases hh
  · simp only [Bool.false_eq_true, if_false, if_true]
    have st' : ∀ H, pureCall (alembicref17_set.f G (k + 6)) [rgV r, I6 d, .int .u64 0] H = some (rgV (setF r d 0), H) := st 0
    have hq := setF_len r hr.len d 0
    generalize setF r d 0 = q at *
    have c4' := c4 q hq
    have c5' := c5 q f
    have fx := And.intro r1 <| And.intro g1 <| And.intro g2 <| And.intro g3 <| And.intro g4 <| And.intro k1 <| And.intro k2 <| And.intro k3 <| And.intro b1 <| And.intro b2 <| And.intro c0 <| And.intro c1 <| And.intro c2 <| And.intro c3 <| And.intro z1 <| And.intro z2 <| And.intro o1 <| And.intro st' <| And.intro c4' <| c5'
    refine wkB ?_
    exact oF (rone_fin G q hq f true)
  · simp only [Bool.false_eq_true, if_false, if_true]
    have st' : ∀ H, pureCall (alembicref17_set.f G (k + 6)) [rgV r, I6 d, .int .u64 1] H = some (rgV (setF r d 1), H) := st 1
    have hq := setF_len r hr.len d 1
    generalize setF r d 1 = q at *
    have c4' := c4 q hq
    have c5' := c5 q f
    have fx := And.intro r1 <| And.intro g1 <| And.intro g2 <| And.intro g3 <| And.intro g4 <| And.intro k1 <| And.intro k2 <| And.intro k3 <| And.intro b1 <| And.intro b2 <| And.intro c0 <| And.intro c1 <| And.intro c2 <| And.intro c3 <| And.intro z1 <| And.intro z2 <| And.intro o1 <| And.intro st' <| And.intro c4' <| c5'
    refine wkB ?_
    exact oF (rone_fin G q hq f true)
theorem rOne_spec (G : Globs) (k : Nat) (i : MI) (r : List Nat) (hr : RgOk r) (f : FL) : alembicref17_One.f G (k + 7) [i.v, rgV r, f.a] [] = some (oneV (oneF i r f), []) := by
  unfold oneF
  by_cases h : rightB i = true ∧ i.op ≤ 17
  · rw [if_pos h]
    have h24 := right24 h.1
    obtain ⟨op, d, n, m, a, imm⟩ := i
    obtain ⟨hw, h17⟩ := h
    simp only at h17 h24
    show alembicref17_One.f G (k + 7) [mV op d n m a imm, rgV r, f.a] [] = _
    have h17' : op = 1 ∨ op = 2 ∨ op = 3 ∨ op = 4 ∨ op = 5 ∨ op = 6 ∨ op = 7 ∨ op = 8 ∨ op = 9 ∨ op = 10 ∨ op = 11 ∨ op = 12 ∨ op = 13 ∨ op = 14 ∨ op = 15 ∨ op = 16 ∨ op = 17 := by omega
    rcases h17' with rfl | rfl | rfl | rfl | rfl | rfl | rfl | rfl | rfl | rfl | rfl | rfl | rfl | rfl | rfl | rfl | rfl
    · exact rone_1 G k d n m a imm hw r hr f
    · exact rone_2 G k d n m a imm hw r hr f
    · exact rone_3 G k d n m a imm hw r hr f
    · exact rone_4 G k d n m a imm hw r hr f
    · exact rone_5 G k d n m a imm hw r hr f
    · exact rone_6 G k d n m a imm hw r hr f
    · exact rone_7 G k d n m a imm hw r hr f
    · exact rone_8 G k d n m a imm hw r hr f
    · exact rone_9 G k d n m a imm hw r hr f
    · exact rone_10 G k d n m a imm hw r hr f
    · exact rone_11 G k d n m a imm hw r hr f
    · exact rone_12 G k d n m a imm hw r hr f
    · exact rone_13 G k d n m a imm hw r hr f
    · exact rone_14 G k d n m a imm hw r hr f
    · exact rone_15 G k d n m a imm hw r hr f
    · exact rone_16 G k d n m a imm hw r hr f
    · exact rone_17 G k d n m a imm hw r hr f
  · rw [if_neg h]
    have r1 : ∀ H, pureCall (alembicref17_Word.f G (k + 6)) [i.v] H = _ := fun H => pureCall_of (H := H) (rword_spec G k i) rfl rfl
    rw [alembicref17_One.step]
    unfold alembicref17_One.c
    rw [zeroRg, zeroRgL]
    have hZ : (List.replicate 31 0 : List Nat).length = 31 := rfl
    have z1 : buildArr 1 (natsU (List.replicate 31 0)) [] = some (rgV (List.replicate 31 0)) := rfl
    have z2 : buildArr 1 [.bool false, .bool false, .bool false, .bool false] [] = some f00.a := rfl
    have b1 : boxA 44 (rgV (List.replicate 31 0)) [] = some (.ptr 0 1 0 0, [⟨44, 31, [rgV (List.replicate 31 0)]⟩]) := boxRg _ rfl []
    have b2 : boxA 53 (.agg [.bool false, .bool false, .bool false, .bool false]) [⟨44, 31, [rgV (List.replicate 31 0)]⟩] = some (.ptr 1 1 0 0, hp2 (List.replicate 31 0) f00) := rfl
    have c0 : ∀ H, boxRoA (rgV r) H = some (.rp false (rgV r) 0, H) := fun H => rfl
    have c1 : ∀ H, boxRoA f.a H = some (.rp false f.a 0, H) := fun H => rfl
    have c4 : stS (storeV 31 (.ptr 0 1 0 0) (rgV (List.replicate 31 0)) (hp2 (List.replicate 31 0) f00)) = some (.tup [], hp2 (List.replicate 31 0) f00) := stRgA hZ hZ rfl
    have c5 : ∀ (q : List Nat) (g : FL), stS (storeV 4 (.ptr 1 1 0 0) g.a (hp2 q f00)) = some (.tup [], hp2 q g) := fun q g => rfl
    generalize List.replicate 31 0 = Z at *
    obtain ⟨op, d, n, m, a, imm⟩ := i
    simp only at h
    generalize rightB ⟨op, d, n, m, a, imm⟩ = b at *
    unfold MI.v at *
    simp only at *
    refine e_in ?_
    cases b
    · have fx := And.intro r1 <| And.intro b1 <| And.intro b2 <| And.intro c0 <| And.intro c1 <| And.intro z1 <| And.intro z2 <| And.intro c4 <| c5
      refine wkB ?_
      exact oF (rone_fin G Z hZ f00 false)
    · have h17 : ¬ op ≤ 17 := fun h2 => h ⟨rfl, h2⟩
      have fx := And.intro r1 <| And.intro b1 <| And.intro b2 <| And.intro c0 <| And.intro c1 <| And.intro z1 <| And.intro z2 <| And.intro c4 <| c5
      refine wkB ?_
      exact oF (rone_fin G Z hZ f00 false)
end Go.Proofs.YtdfglgnflldkpaaDoor.Mir
namespace Go.Proofs.YtdfglgnflldkpaaDoor.Mir
open Go
set_option linter.unusedVariables false
set_option linter.unusedSimpArgs false
set_option maxHeartbeats 8000000
set_option maxRecDepth 20000
theorem ofInt_nat (n : Nat) : BitVec.ofInt 64 (n : Int) = BitVec.ofNat 64 n := by
  apply BitVec.eq_of_toNat_eq
  rw [BitVec.toNat_ofInt, BitVec.toNat_ofNat]; omega
theorem wrapB (x : BitVec 64) : IntKind.u64.wrap (x.toNat : Int) = (x.toNat : Int) := by
  have := x.isLt
  rw [wrap_u64_eq]; omega
theorem ofB (x : BitVec 64) : BitVec.ofInt 64 (x.toNat : Int) = x := by rw [ofInt_nat]; simp
theorem movk_bv (d k s : Nat) : movkF d k s = ((BitVec.ofNat 64 d &&& ~~~ BitVec.ofNat 64 (65535 * 2 ^ s % 18446744073709551616)) ||| BitVec.ofNat 64 (k * 2 ^ s % 18446744073709551616)).toNat := by
  have h1 : bits .andNot .u64 (d : Int) ((65535 * 2 ^ s % 18446744073709551616 : Nat) : Int) = (((BitVec.ofNat 64 d &&& ~~~ BitVec.ofNat 64 (65535 * 2 ^ s % 18446744073709551616)).toNat : Nat) : Int) := by
    show IntKind.u64.wrap ((BitVec.ofInt 64 (d : Int) &&& ~~~ BitVec.ofInt 64 ((65535 * 2 ^ s % 18446744073709551616 : Nat) : Int)).toNat : Int) = _
    rw [wrapB, ofInt_nat, ofInt_nat]
  unfold movkF
  rw [h1]
  have h2 : ∀ x y : BitVec 64, bits .or .u64 (x.toNat : Int) (y.toNat : Int) = (((x ||| y).toNat : Nat) : Int) := fun x y => by
    show IntKind.u64.wrap ((BitVec.ofInt 64 (x.toNat : Int) ||| BitVec.ofInt 64 (y.toNat : Int)).toNat : Int) = _
    rw [ofB, ofB, wrapB]
  have h3 : ((k * 2 ^ s % 18446744073709551616 : Nat) : Int) = ((BitVec.ofNat 64 (k * 2 ^ s % 18446744073709551616)).toNat : Int) := by
    rw [BitVec.toNat_ofNat]; omega
  rw [h3, h2]
  have := ((BitVec.ofNat 64 d &&& ~~~ BitVec.ofNat 64 (65535 * 2 ^ s % 18446744073709551616)) ||| BitVec.ofNat 64 (k * 2 ^ s % 18446744073709551616)).isLt
  generalize ((BitVec.ofNat 64 d &&& ~~~ BitVec.ofNat 64 (65535 * 2 ^ s % 18446744073709551616)) ||| BitVec.ofNat 64 (k * 2 ^ s % 18446744073709551616)).toNat = q at *
  unfold u64
  omega
theorem bit_k (k s i : Nat) (hi : i < 64) : (k * 2 ^ s % 18446744073709551616).testBit i = (decide (s ≤ i) && k.testBit (i - s)) := by
  rw [show (18446744073709551616 : Nat) = 2 ^ 64 from rfl, Nat.testBit_mod_two_pow, Nat.testBit_mul_two_pow]
  simp [hi]
theorem bit_m (n : Nat) : (65535 : Nat).testBit n = decide (n < 16) := by
  rw [show (65535 : Nat) = 2 ^ 16 - 1 from rfl, Nat.testBit_two_pow_sub_one]
theorem movk_bit (d k s : Nat) (i : Nat) (hi : i < 64) (hk : k < 65536) : (movkF d k s).testBit i = if s ≤ i ∧ i < s + 16 then k.testBit (i - s) else d.testBit i := by
  rw [movk_bv]
  have e : ∀ x : BitVec 64, x.toNat.testBit i = x.getLsbD i := fun x => rfl
  rw [e]
  simp only [BitVec.getLsbD_or, BitVec.getLsbD_and, BitVec.getLsbD_not, BitVec.getLsbD_ofNat, hi, decide_true, Bool.true_and]
  rw [bit_k _ _ _ hi, bit_k _ _ _ hi, bit_m]
  have hkb : ∀ j, 16 ≤ j → k.testBit j = false := fun j hj => Nat.testBit_lt_two_pow (Nat.lt_of_lt_of_le (show k < 2 ^ 16 from hk) (Nat.pow_le_pow_right (by omega) hj))
  by_cases h1 : s ≤ i
  · by_cases h2 : i < s + 16
    · rw [if_pos ⟨h1, h2⟩]
      simp [h1, show i - s < 16 by omega]
    · rw [if_neg (by omega), hkb (i - s) (by omega)]
      simp [h1, show ¬ (i - s < 16) by omega]
  · rw [if_neg (by omega)]
    simp [h1]
/-- The four parts of a word. -/
def partF (w s : Nat) : Nat := w / 2 ^ s % 65536
theorem part_lt (w s : Nat) : partF w s < 65536 := Nat.mod_lt _ (by decide)
theorem part_bit (w s i : Nat) : (partF w s).testBit i = (decide (i < 16) && w.testBit (s + i)) := by
  unfold partF
  rw [show (65536 : Nat) = 2 ^ 16 from rfl, Nat.testBit_mod_two_pow, Nat.testBit_div_two_pow]
  rw [Nat.add_comm]
theorem four (w : Nat) (hw : w < 18446744073709551616) (a b c e : Nat) (hp : (a = 0 ∧ b = 16 ∧ c = 32 ∧ e = 48) ∨ (a = 16 ∧ b = 32 ∧ c = 48 ∧ e = 0) ∨ (a = 32 ∧ b = 48 ∧ c = 0 ∧ e = 16) ∨ (a = 48 ∧ b = 0 ∧ c = 16 ∧ e = 32)) :
    movkF (movkF (movkF (partF w a * 2 ^ a % 18446744073709551616) (partF w b) b) (partF w c) c) (partF w e) e = w := by
  apply Nat.eq_of_testBit_eq
  intro i
  by_cases hi : i < 64
  · have fin : ∀ s, s ≤ i ∧ i < s + 16 → (partF w s).testBit (i - s) = w.testBit i := fun s h => by
      rw [part_bit, show s + (i - s) = i by omega]
      simp; omega
    rw [movk_bit _ _ _ _ hi (part_lt _ _), movk_bit _ _ _ _ hi (part_lt _ _), movk_bit _ _ _ _ hi (part_lt _ _), bit_k _ _ _ hi]
    split
    · rename_i h; exact fin _ h
    split
    · rename_i h; exact fin _ h
    split
    · rename_i h; exact fin _ h
    have ha : a ≤ i ∧ i < a + 16 := by omega
    rw [decide_eq_true ha.1, Bool.true_and]
    exact fin _ ha
  · have hlt : ∀ x, x < 18446744073709551616 → x.testBit i = false := fun x hx => Nat.testBit_lt_two_pow (Nat.lt_of_lt_of_le (show x < 2 ^ 64 from hx) (Nat.pow_le_pow_right (by omega) (by omega)))
    rw [hlt w hw]
    exact hlt _ (by unfold movkF; exact u64_lt _)
end Go.Proofs.YtdfglgnflldkpaaDoor.Mir
namespace Go.Proofs.YtdfglgnflldkpaaDoor.Mir
open Go
set_option linter.unusedVariables false
set_option linter.unusedSimpArgs false
set_option maxHeartbeats 8000000
set_option maxRecDepth 20000
def instsV (cs : List MI) : List AV := cs.map MI.v
theorem instsV_len (l : List MI) : (instsV l).length = l.length := by simp [instsV]
theorem instsV_below (n : Nat) (l : List MI) : belowL n (instsV l) = true := belowL_map n _ (fun _ => rfl) l
theorem allSz_I (l : List MI) : allSz 6 (instsV l) = true := allSz_map 6 _ (fun _ => rfl) l
theorem instsV_app (l : List MI) (i : MI) : instsV l ++ [i.v] = instsV (l ++ [i]) := by simp [instsV]
/-- One of its parts. -/
def cstep (d : Int) (u : Nat) (out : List MI) (a : Nat) : List MI :=
  if partF u (16 * a) = 0 then out else out ++ [⟨if out.length = 0 then 1 else 2, d, 0, 0, (a : Int), (partF u (16 * a) : Int)⟩]
def cparts (d : Int) (u : Nat) : Nat → List MI
  | 0 => []
  | a + 1 => cstep d u (cparts d u a) a
def constF (d : Int) (u : Nat) : List MI := if (cparts d u 4).length = 0 then [⟨1, d, 0, 0, 0, 0⟩] else cparts d u 4
theorem cparts_len (d : Int) (u : Nat) : ∀ a, (cparts d u a).length ≤ a
  | 0 => Nat.le_refl _
  | a + 1 => by
    have := cparts_len d u a
    unfold cparts cstep
    split
    · omega
    · simp; omega
theorem constF_len (d : Int) (u : Nat) : 1 ≤ (constF d u).length ∧ (constF d u).length ≤ 4 := by
  unfold constF
  split
  · simp
  · exact ⟨by omega, cparts_len d u 4⟩
/-! ### The program's -/
section
variable (G : Globs) (k : Nat) (self : Den)
/-- The blocks: what stood there, and two of its own. -/
def hpK (H : AHeap) (l : List MI) : AHeap := H ++ [⟨57, 6, []⟩, ⟨57, 6, instsV l⟩]
theorem hpK_len (H : AHeap) (l : List MI) : (hpK H l).length = H.length + 2 := by simp [hpK]
theorem hpK_get (H : AHeap) (l : List MI) : (hpK H l)[H.length + 1]? = some ⟨57, 6, instsV l⟩ := by
  unfold hpK
  rw [List.getElem?_append_right (by omega)]; simp
theorem hpK_ap (H : AHeap) (l : List MI) (i : MI) (hl : l.length ≤ 10) : appendV 57 6 (.sl (H.length + 1) l.length 0 l.length 6) (.ro false [i.v]) (hpK H l) = some (.sl (H.length + 1) (l ++ [i]).length 0 (l ++ [i]).length 6, hpK H (l ++ [i])) := by
  unfold appendV
  simp only [hpK_get, elemsOf, instsV_len, List.length_singleton]
  rw [if_pos (by refine ⟨?_, ?_, ?_, ?_, ?_⟩ <;> first | trivial | rfl | omega)]
  have e2 : (instsV l).take l.length = instsV l := List.take_of_length_le (by rw [instsV_len]; exact Nat.le_refl _)
  have e3 : (instsV l).drop (l.length + 1) = [] := List.drop_of_length_le (by rw [instsV_len]; omega)
  rw [e2, e3, List.append_nil, instsV_app, instsV_len, List.length_append, List.length_singleton]
  congr 2
  unfold hpK
  rw [List.set_append_right _ _ (by omega)]
  simp
theorem heapBelow_app (n : Nat) : ∀ A B : AHeap, heapBelow n A = true → heapBelow n B = true → heapBelow n (A ++ B) = true
  | [], B, _, h => h
  | a :: A, B, h1, h2 => by
    simp only [heapBelow, Bool.and_eq_true] at h1
    simp [heapBelow, h1.1, heapBelow_app n A B h1.2 h2]
def xsK (d kk : Int) (H : AHeap) (l : List MI) (a : Nat) : List AV := [I6 d, I6 kk, .sl (H.length + 1) l.length 0 l.length 6, Nn a]
theorem const_loop (d kk : Int) (H : AHeap) (hH : heapBelow (H.length + 2) H = true) (u : Nat) (hu : u = u64 kk) : ∀ (c a f : Nat), a + c = 4 → c < f →
    loopN (sel_constant.l3 G k (H.length + 2) self) f (xsK d kk H (cparts d u a) a) (hpK H (cparts d u a)) = some (.exit 0, xsK d kk H (cparts d u 4) 4, hpK H (cparts d u 4))
  | c, a, 0, h, hf => by omega
  | 0, a, f + 1, h, hf => by
    have ha : a = 4 := by omega
    subst ha
    rw [loopN_succ, sel_constant.l3]
    have hc : cutH (H.length + 2) (xsK d kk H (cparts d u 4) 4) (hpK H (cparts d u 4)) = some (hpK H (cparts d u 4)) := by
      have e : (hpK H (cparts d u 4)).take (H.length + 2) = hpK H (cparts d u 4) := List.take_of_length_le (by rw [hpK_len]; exact Nat.le_refl _)
      have hb : heapBelow (H.length + 2) (hpK H (cparts d u 4)) = true := heapBelow_app _ _ _ hH (by simp [heapBelow, belowL, instsV_below])
      unfold cutH
      rw [e, hb]
      simp [xsK, belowL, belowB]
    refine e_id ?_
    refine eC hc ?_
    unfold xsK
    generalize hpK H (cparts d u 4) = hh at *
    have fx := True.intro
    refine wkA ?_
    refine e_out ?_; rfl
  | c + 1, a, f + 1, h, hf => by
    rw [loopN_succ, sel_constant.l3]
    have ih := const_loop d kk H hH u hu c (a + 1) f (by omega) (by omega)
    have hlen := cparts_len d u a
    obtain ⟨l, hl⟩ : ∃ l, l = cparts d u a := ⟨_, rfl⟩
    have hs : cparts d u (a + 1) = cstep d u l a := by rw [hl]; rfl
    rw [hs] at ih
    rw [← hl] at hlen ⊢
    have hc : cutH (H.length + 2) (xsK d kk H l a) (hpK H l) = some (hpK H l) := by
      have e : (hpK H l).take (H.length + 2) = hpK H l := List.take_of_length_le (by rw [hpK_len]; exact Nat.le_refl _)
      have hb : heapBelow (H.length + 2) (hpK H l) = true := heapBelow_app _ _ _ hH (by simp [heapBelow, belowL, instsV_below])
      unfold cutH
      rw [e, hb]
      simp [xsK, belowL, belowB]
    have hul : u < 18446744073709551616 := by rw [hu]; exact u64_lt _
    have hp := part_lt u (16 * a)
    have c1 : convInt .u64 (I6 kk) = some (Un u) := by rw [conv_u64, hu]
    have c2 : bin Tryd.prog .mul 3 true (.int .i64 16) (Nn a) = some (Nn (16 * a)) := by
      rw [bin_mul, wrap_of_i64 (by omega) (by omega)]; congr 2
    have c3 := u64_shr Tryd.prog 43 false .i64 u (16 * a) (by omega)
    have dl : u / 2 ^ (16 * a) < 18446744073709551616 := Nat.lt_of_le_of_lt (Nat.div_le_self _ _) hul
    have c4 : bin Tryd.prog .and 43 true (Un (u / 2 ^ (16 * a))) (.int .u64 65535) = some (Un (partF u (16 * a))) := by
      have := u64_and (u / 2 ^ (16 * a)) 65535 dl (by decide)
      rw [bin_and]
      show some (AV.int .u64 (bits .and .u64 ((u / 2 ^ (16 * a) : Nat) : Int) ((65535 : Nat) : Int))) = _
      rw [this, show (65535 : Nat) = 2 ^ 16 - 1 from rfl, Nat.and_two_pow_sub_one_eq_mod]
      rfl
    have c5 : convInt .i64 (Un (partF u (16 * a))) = some (I6 (partF u (16 * a) : Int)) := q_cvI (by omega) (by omega)
    have c6 : bin Tryd.prog .add 3 true (Nn a) (.int .i64 1) = some (Nn (a + 1)) := by
      rw [bin_add, wrap_of_i64 (by omega) (by omega)]; congr 2
    have q0 : bin Tryd.prog .lss 3 true (Nn a) (.int .i64 4) = some (.bool true) := q_lss_t (by omega)
    by_cases hz : partF u (16 * a) = 0
    · have e : cstep d u l a = l := by unfold cstep; rw [if_pos hz]
      rw [e] at ih
      rw [hz] at c4 c5
      have q1 : bin Tryd.prog .eql 3 true (I6 ((0 : Nat) : Int)) (.int .i64 0) = some (.bool true) := q_eql_t rfl
      unfold xsK at ih ⊢
      clear hs hl hul dl
      generalize hpK H l = hh at *
      generalize u / 2 ^ (16 * a) = z at *
      generalize 16 * a = a16 at *
      refine e_id ?_
      refine eC hc ?_
      have fx := And.intro q0 <| And.intro c1 <| And.intro c2 <| And.intro c3 <| And.intro c4 <| And.intro c5 <| And.intro c6 <| q1
      refine wkB ?_
      exact ih
    · have e : cstep d u l a = l ++ [⟨if l.length = 0 then 1 else 2, d, 0, 0, (a : Int), (partF u (16 * a) : Int)⟩] := by unfold cstep; rw [if_neg hz]
      rw [e] at ih
      have q1 : bin Tryd.prog .eql 3 true (I6 (partF u (16 * a) : Int)) (.int .i64 0) = some (.bool false) := q_eql_f (by omega)
      have lc : lenSl (.sl (H.length + 1) l.length 0 l.length 6) = some (Nn l.length) := rfl
      have ap := hpK_ap H l ⟨if l.length = 0 then 1 else 2, d, 0, 0, (a : Int), (partF u (16 * a) : Int)⟩ (by omega)
      have br : ∀ (i : MI) HH, buildRo 6 1 (.agg [(.int .i64 0), (.int .i64 0), (.int .i64 0), (.int .i64 0), (.int .i64 0), (.int .i64 0)]) [(0, i.v)] HH = some (.ro false [i.v], HH) := fun i HH => rfl
      have br' := br ⟨if l.length = 0 then 1 else 2, d, 0, 0, (a : Int), (partF u (16 * a) : Int)⟩
      unfold xsK at ih ⊢
      clear hs hl hul dl br
      generalize u / 2 ^ (16 * a) = z at *
      generalize partF u (16 * a) = pp at *
      generalize 16 * a = a16 at *
      by_cases h0 : l.length = 0
      · rw [if_pos h0] at ap ih br'
        have q2 : bin Tryd.prog .eql 3 true (Nn l.length) (.int .i64 0) = some (.bool true) := q_eql_t (by omega)
        have bs : buildSt [(0, 1), (1, 1), (2, 1), (3, 1), (4, 1), (5, 1)] [(.int .i64 0), (.int .i64 0), (.int .i64 0), (.int .i64 0), (.int .i64 0), (.int .i64 0)] [(0, .int .i64 1), (1, I6 d), (4, Nn a), (5, I6 (pp : Int))] = some (MI.v ⟨1, d, 0, 0, (a : Int), (pp : Int)⟩) := rfl
        generalize (⟨1, d, 0, 0, (a : Int), (pp : Int)⟩ : MI) = i at *
        refine e_id ?_
        refine eC hc ?_
        have fx := And.intro q0 <| And.intro c1 <| And.intro c2 <| And.intro c3 <| And.intro c4 <| And.intro c5 <| And.intro c6 <| And.intro q1 <| And.intro lc <| And.intro q2 <| And.intro bs <| And.intro br' <| ap
        refine wkB ?_
        exact ih
      · rw [if_neg h0] at ap ih br'
        have q2 : bin Tryd.prog .eql 3 true (Nn l.length) (.int .i64 0) = some (.bool false) := q_eql_f (by omega)
        have bs : buildSt [(0, 1), (1, 1), (2, 1), (3, 1), (4, 1), (5, 1)] [(.int .i64 0), (.int .i64 0), (.int .i64 0), (.int .i64 0), (.int .i64 0), (.int .i64 0)] [(0, .int .i64 2), (1, I6 d), (4, Nn a), (5, I6 (pp : Int))] = some (MI.v ⟨2, d, 0, 0, (a : Int), (pp : Int)⟩) := rfl
        generalize (⟨2, d, 0, 0, (a : Int), (pp : Int)⟩ : MI) = i at *
        refine e_id ?_
        refine eC hc ?_
        have fx := And.intro q0 <| And.intro c1 <| And.intro c2 <| And.intro c3 <| And.intro c4 <| And.intro c5 <| And.intro c6 <| And.intro q1 <| And.intro lc <| And.intro q2 <| And.intro bs <| And.intro br' <| ap
        refine wkB ?_
        exact ih
theorem constant_spec (d kk : Int) (H : AHeap) (hH : heapBelow (H.length + 2) H = true) (hk : 5 < k) :
    heapCall (sel_constant.f G (k + 1)) [I6 d, I6 kk] H = some (.sl (H.length + 1) (constF d (u64 kk)).length 0 (constF d (u64 kk)).length 6, hpK H (constF d (u64 kk))) := by
  refine heapCall_of ?_ (by rw [hpK_len]; omega)
  rw [sel_constant.step]
  unfold sel_constant.c
  obtain ⟨u, hu⟩ : ∃ u, u = u64 kk := ⟨_, rfl⟩
  rw [← hu]
  have lp : loopN (sel_constant.l3 G k (H.length + 2) (sel_constant.f G k)) k [I6 d, I6 kk, .sl (H.length + 1) 0 0 0 6, .int .i64 0] (hpK H []) = _ := const_loop G k (sel_constant.f G k) d kk H hH u hu 4 0 k rfl (by omega)
  have e1 : (H ++ [⟨57, 6, []⟩] : AHeap).length = H.length + 1 := by simp
  have e2 : (H ++ [⟨57, 6, []⟩] ++ [⟨57, 6, []⟩] : AHeap) = hpK H [] := by simp [hpK, instsV]
  have hlen := cparts_len d u 4
  unfold constF
  unfold xsK at lp
  generalize cparts d u 4 = l at *
  have lc : lenSl (.sl (H.length + 1) l.length 0 l.length 6) = some (Nn l.length) := rfl
  have hl := hpK_len H []
  refine e_in ?_
  by_cases h0 : l.length = 0
  · rw [if_pos h0]
    have hl0 : l = [] := List.eq_nil_of_length_eq_zero h0
    subst hl0
    have ap := hpK_ap H [] ⟨1, d, 0, 0, 0, 0⟩ (by simp)
    have br : ∀ HH, buildRo 6 1 (.agg [(.int .i64 0), (.int .i64 0), (.int .i64 0), (.int .i64 0), (.int .i64 0), (.int .i64 0)]) [(0, MI.v ⟨1, d, 0, 0, 0, 0⟩)] HH = some (.ro false [MI.v ⟨1, d, 0, 0, 0, 0⟩], HH) := fun HH => rfl
    have bs : buildSt [(0, 1), (1, 1), (2, 1), (3, 1), (4, 1), (5, 1)] [(.int .i64 0), (.int .i64 0), (.int .i64 0), (.int .i64 0), (.int .i64 0), (.int .i64 0)] [(0, .int .i64 1), (1, I6 d)] = some (MI.v ⟨1, d, 0, 0, 0, 0⟩) := rfl
    have q2 : bin Tryd.prog .eql 3 true (Nn ([] : List MI).length) (.int .i64 0) = some (.bool true) := q_eql_t rfl
    have fx := True.intro
    refine wkB ?_
    simp only [e1, e2]
    rw [hl]
    have fx := And.intro lc <| And.intro q2 <| And.intro bs <| And.intro br <| ap
    have lx1 := lp
    refine wkB ?_
    refine e_out ?_; rfl
  · rw [if_neg h0]
    have q2 : bin Tryd.prog .eql 3 true (Nn l.length) (.int .i64 0) = some (.bool false) := q_eql_f (by omega)
    have fx := True.intro
    refine wkB ?_
    simp only [e1, e2]
    rw [hl]
    have fx := And.intro lc <| q2
    have lx1 := lp
    refine wkB ?_
    refine e_out ?_; rfl
end
/-! ### What they do -/
theorem movz_mod (u s : Nat) (hs : s + 16 ≤ 64) (h0 : u % 2 ^ s = 0) : partF u s * 2 ^ s % 18446744073709551616 = u % 2 ^ (s + 16) := by
  have e : u % 2 ^ (s + 16) = u % 2 ^ s + 2 ^ s * (u / 2 ^ s % 2 ^ 16) := by rw [Nat.pow_add, Nat.mod_mul]
  have hlt : u % 2 ^ (s + 16) < 2 ^ (s + 16) := Nat.mod_lt _ (Nat.two_pow_pos _)
  have hle : 2 ^ (s + 16) ≤ 2 ^ 64 := Nat.pow_le_pow_right (by decide) hs
  rw [h0, Nat.zero_add] at e
  have e2 : partF u s * 2 ^ s = u % 2 ^ (s + 16) := by rw [e, Nat.mul_comm]; rfl
  rw [e2, Nat.mod_eq_of_lt (by omega)]
theorem movk_mod (u s : Nat) (hs : s + 16 ≤ 64) : movkF (u % 2 ^ s) (partF u s) s = u % 2 ^ (s + 16) := by
  have hlt : u % 2 ^ (s + 16) < 2 ^ (s + 16) := Nat.mod_lt _ (Nat.two_pow_pos _)
  have hle : 2 ^ (s + 16) ≤ 2 ^ 64 := Nat.pow_le_pow_right (by decide) hs
  apply Nat.eq_of_testBit_eq
  intro i
  by_cases hi : i < 64
  · rw [movk_bit _ _ _ _ hi (part_lt _ _), Nat.testBit_mod_two_pow, Nat.testBit_mod_two_pow]
    by_cases h1 : s ≤ i ∧ i < s + 16
    · rw [if_pos h1, part_bit, show s + (i - s) = i by omega]
      simp [show i - s < 16 by omega, h1.2]
    · rw [if_neg h1]
      by_cases h2 : i < s
      · simp [h2, show i < s + 16 by omega]
      · simp [h2, show ¬ i < s + 16 by omega]
  · have z : ∀ x, x < 18446744073709551616 → x.testBit i = false := fun x hx => Nat.testBit_lt_two_pow (Nat.lt_of_lt_of_le (show x < 2 ^ 64 from hx) (Nat.pow_le_pow_right (by omega) (by omega)))
    rw [z _ (by unfold movkF; exact u64_lt _), z _ (by omega)]
/-- Registers behind some instructions. -/
def runI (f : FL) (l : List MI) (r : List Nat) : List Nat := l.foldl (fun r i => (doesF i r f).1) r
theorem runI_app (f : FL) (l : List MI) (i : MI) (r : List Nat) : runI f (l ++ [i]) r = (doesF i (runI f l r) f).1 := by simp [runI]
/-- An instruction of a number. -/
def isC (d : Int) (i : MI) : Prop := rightB i = true ∧ (i.op = 1 ∨ i.op = 2)
theorem cparts_do (d : Int) (hd : 0 ≤ d ∧ d ≤ 30) (u : Nat) (f : FL) : ∀ a, a ≤ 4 → (∀ i ∈ cparts d u a, isC d i) ∧ ((cparts d u a = [] ∧ u % 2 ^ (16 * a) = 0) ∨ (cparts d u a ≠ [] ∧ ∀ r : List Nat, r.length = 31 → runI f (cparts d u a) r = r.set d.toNat (u % 2 ^ (16 * a))))
  | 0, _ => ⟨fun i h => (by cases h), Or.inl ⟨rfl, by simp [Nat.mod_one]⟩⟩
  | a + 1, ha => by
    obtain ⟨h1, h2⟩ := cparts_do d hd u f a (by omega)
    have hs : cparts d u (a + 1) = cstep d u (cparts d u a) a := rfl
    rw [hs]
    have e16 : 16 * (a + 1) = 16 * a + 16 := by omega
    have hp := part_lt u (16 * a)
    generalize cparts d u a = l at *
    unfold cstep
    by_cases hz : partF u (16 * a) = 0
    · rw [if_pos hz]
      have em : u % 2 ^ (16 * (a + 1)) = u % 2 ^ (16 * a) := by
        rw [e16, Nat.pow_add, Nat.mod_mul]
        have : u / 2 ^ (16 * a) % 2 ^ 16 = 0 := hz
        rw [this]; simp
      rw [em]
      exact ⟨h1, h2⟩
    rw [if_neg hz]
    have rt : ∀ op : Int, (op = 1 ∨ op = 2) → rightB ⟨op, d, 0, 0, (a : Int), (partF u (16 * a) : Int)⟩ = true := fun op ho => by
      rcases ho with rfl | rfl <;> (simp [rightB, isOp, fairB, formF, regB, extraB, immB, halfI, stackB]; omega)
    have e64 : u64 ((partF u (16 * a) : Nat) : Int) = partF u (16 * a) := by unfold u64; omega
    have ea : (16 * (a : Int)).toNat = 16 * a := by omega
    refine ⟨fun i hi => ?_, .inr ⟨by simp, fun r hr => ?_⟩⟩
    · rcases List.mem_append.1 hi with h | h
      · exact h1 i h
      · obtain rfl := List.mem_singleton.1 h
        refine ⟨rt _ (by split <;> simp), ?_⟩
        show (if l.length = 0 then (1 : Int) else 2) = 1 ∨ (if l.length = 0 then (1 : Int) else 2) = 2
        split <;> simp
    · rw [runI_app, e16]
      rcases h2 with ⟨h2, h3⟩ | ⟨h2, h3⟩
      · subst h2
        have e : (doesF ⟨1, d, 0, 0, (a : Int), (partF u (16 * a) : Int)⟩ (runI f [] r) f).1 = setF r d (u64 ((partF u (16 * a) : Nat) : Int) * 2 ^ (16 * (a : Int)).toNat % 18446744073709551616) := rfl
        show (doesF ⟨1, d, 0, 0, (a : Int), (partF u (16 * a) : Int)⟩ (runI f [] r) f).1 = _
        rw [e, e64, ea, movz_mod u (16 * a) (by omega) h3]
        unfold setF
        rw [if_neg (by omega)]
      · have hl : l.length ≠ 0 := fun h => h2 (List.eq_nil_of_length_eq_zero h)
        rw [if_neg hl, h3 r hr]
        have e : ∀ q : List Nat, (doesF ⟨2, d, 0, 0, (a : Int), (partF u (16 * a) : Int)⟩ q f).1 = setF q d (movkF (getF q d) (u64 ((partF u (16 * a) : Nat) : Int)) (16 * (a : Int)).toNat) := fun q => rfl
        have hdl : d.toNat < r.length := by omega
        rw [e, e64, ea]
        unfold setF getF
        rw [if_neg (by omega), if_neg (by omega), List.set_set, List.getD_eq_getElem?_getD, List.getElem?_set_self hdl, Option.getD_some, movk_mod u (16 * a) (by omega)]
theorem const_do (d : Int) (hd : 0 ≤ d ∧ d ≤ 30) (u : Nat) (hu : u < 18446744073709551616) (f : FL) : (∀ i ∈ constF d u, isC d i) ∧ ∀ r : List Nat, r.length = 31 → runI f (constF d u) r = r.set d.toNat u := by
  obtain ⟨h1, h2⟩ := cparts_do d hd u f 4 (Nat.le_refl _)
  have eu : u % 2 ^ (16 * 4) = u := Nat.mod_eq_of_lt hu
  rw [eu] at h2
  unfold constF
  rcases h2 with ⟨h2, h3⟩ | ⟨h2, h3⟩
  · rw [h2, if_pos (show ([] : List MI).length = 0 from rfl)]
    refine ⟨fun i hi => ?_, fun r hr => ?_⟩
    · simp at hi; subst hi
      exact ⟨by simp [rightB, isOp, fairB, formF, regB, extraB, immB, halfI, stackB]; omega, .inl rfl⟩
    · have e : runI f [⟨1, d, 0, 0, 0, 0⟩] r = setF r d (u64 0 * 2 ^ (16 * (0 : Int)).toNat % 18446744073709551616) := rfl
      rw [e, h3]
      unfold setF
      rw [if_neg (by omega)]
      rfl
  · rw [if_neg (fun h => h2 (List.eq_nil_of_length_eq_zero h))]
    exact ⟨h1, h3⟩
theorem isC_do {d : Int} {i : MI} (h : isC d i) (r : List Nat) (f : FL) : oneF i r f = ((doesF i r f).1, f, true) := by
  obtain ⟨h1, h2⟩ := h
  have e : (doesF i r f).2 = f := by
    unfold doesF
    rw [if_neg (by omega), if_neg (by omega), if_neg (by omega)]
  unfold oneF
  rw [if_pos ⟨h1, by omega⟩, e]
end Go.Proofs.YtdfglgnflldkpaaDoor.Mir
namespace Go.Proofs.YtdfglgnflldkpaaDoor
open Go Mir
set_option linter.unusedVariables false
set_option linter.unusedSimpArgs false
set_option maxHeartbeats 8000000
set_option maxRecDepth 20000
abbrev GA : Globs := sentG 180 [1, 5, 0, 3, 6, 2, 7, 8, 4, 9, 10, 11, 12, 13]
theorem see_range (k : Nat) : alembicsee_Is.f GA (k + 60) [.iface 180 (.gp 1), .int .i64 101] [] = some (.bool true, []) := by kernel_rfl
theorem first24 (G : Globs) (k : Nat) : alembiclaw24_first.f G (k + 80) [] [] = some (.bool true, []) := by kernel_rfl
theorem of_arU : ∀ (n : Nat) (cs : List AV), IsAr Tryd.prog 43 n cs → ∃ l : List Nat, cs = natsU l ∧ l.length = n ∧ ∀ x ∈ l, x < 18446744073709551616
  | 0, cs, h => by
    cases h
    exact ⟨[], rfl, rfl, fun x h => by cases h⟩
  | n + 1, cs, h => by
    cases h with
    | cons hx h =>
    obtain ⟨l, rfl, h1, h2⟩ := of_arU n _ h
    obtain ⟨z, rfl, hw⟩ := hx.of_int (k := .u64) Tryd.underlying43
    have hz := wf_u64 hw
    refine ⟨z.toNat :: l, ?_, by simp [h1], fun x hx => ?_⟩
    · show [AV.int .u64 z] ++ natsU l = Un z.toNat :: natsU l
      obtain ⟨y, rfl⟩ : ∃ y : Nat, z = (y : Int) := ⟨z.toNat, by omega⟩
      rfl
    · rcases List.mem_cons.1 hx with rfl | hx
      · omega
      · exact h2 x hx
theorem of_regs {x : AV} (h : IsT Tryd.prog 44 x) : ∃ r : List Nat, x = rgV r ∧ RgOk r := by
  obtain ⟨cs, rfl, hf⟩ := h.of_array Tryd.underlying44
  obtain ⟨l, rfl, h1, h2⟩ := of_arU _ _ hf
  exact ⟨l, rfl, ⟨h1, h2⟩⟩
def fTF : FL := ⟨true, false, true, false⟩
def hp4c (x y : List Nat) : AHeap := [⟨44, 31, [rgV x]⟩, ⟨53, 4, [fTF.a]⟩, ⟨44, 31, [rgV y]⟩, ⟨53, 4, [fTF.a]⟩]
def hp2c (x : List Nat) (T : AHeap) : AHeap := ⟨44, 31, [rgV x]⟩ :: ⟨53, 4, [fTF.a]⟩ :: T
def xs12 (d kk : Int) (r : List Nat) (L : List MI) (i : Nat) : List AV := [I6 d, I6 kk, .rp false (rgV r) 0, .bool false, .bool true, .ro false (instsV L), .ptr 0 1 0 0, .ptr 1 1 0 0, Nn i]
def xs18 (d kk : Int) (r : List Nat) (L : List MI) (i : Nat) (j : Int) : List AV := [I6 d, I6 kk, .rp false (rgV r) 0, .bool false, .bool true, .ro false (instsV L), .ptr 0 1 0 0, .ptr 1 1 0 0, Nn i, .ptr 2 1 0 0, .ptr 3 1 0 0, I6 j]
def xs24 (d kk : Int) (r : List Nat) (i : Nat) : List AV := [I6 d, I6 kk, .rp false (rgV r) 0, .bool false, .bool true, .ptr 0 1 0 0, Nn i]
theorem loop18 (G : Globs) (k : Nat) (self : Den) (d kk : Int) (r : List Nat) (L : List MI) (i : Nat) (x y : List Nat) : ∀ (c : Nat) (j : Int) (n : Nat), j + (c : Int) = 4 → 0 ≤ j → c < n →
    loopN (alembiclaw24_SelectConsts.l18 G k 4 self) n (xs18 d kk r L i j) (hp4c x y) = some (.exit 2, xs18 d kk r L i 4, hp4c x y)
  | c, j, 0, h, _, hf => by omega
  | 0, j, n + 1, h, _, hf => by
    rw [loopN_succ, alembiclaw24_SelectConsts.l18]
    have hc : cutH 4 (xs18 d kk r L i j) (hp4c x y) = some (hp4c x y) := by simp [cutH, xs18, hp4c, belowL, belowB, heapBelow, natsU_below, instsV_below, FL.a]
    have e : j = 4 := by omega
    subst e
    refine e_id ?_
    refine eC hc ?_
    unfold xs18
    have fx := True.intro
    refine wkA ?_
    refine e_out ?_; rfl
  | c + 1, j, n + 1, h, h0, hf => by
    rw [loopN_succ, alembiclaw24_SelectConsts.l18]
    have hc : cutH 4 (xs18 d kk r L i j) (hp4c x y) = some (hp4c x y) := by simp [cutH, xs18, hp4c, belowL, belowB, heapBelow, natsU_below, instsV_below, FL.a]
    have ih := loop18 G k self d kk r L i x y c (j + 1) n (by omega) (by omega) (by omega)
    have e4 : ∀ b : Bool, bin Tryd.prog .neq 4 false (.bool b) (.bool b) = some (.bool false) := fun b => by rw [bin_neq_bool Tryd.underlying4]; simp
    have hj : j = 0 ∨ j = 1 ∨ j = 2 ∨ j = 3 := by omega
    obtain ⟨b, l1, l2⟩ : ∃ b : Bool, loadV G false 1 (.ptr 1 1 0 j.toNat) (hp4c x y) = some (.bool b) ∧ loadV G false 1 (.ptr 3 1 0 j.toNat) (hp4c x y) = some (.bool b) := by
      rcases hj with rfl | rfl | rfl | rfl
      · exact ⟨true, rfl, rfl⟩
      · exact ⟨false, rfl, rfl⟩
      · exact ⟨true, rfl, rfl⟩
      · exact ⟨false, rfl, rfl⟩
    have i1 : idxAddrArr 4 1 (.ptr 1 1 0 0) (I6 j) = some (.ptr 1 1 0 j.toNat) := by
      unfold idxAddrArr
      simp only
      rw [if_pos ⟨h0, by omega⟩, Nat.zero_add, Nat.mul_one]
    have i2 : idxAddrArr 4 1 (.ptr 3 1 0 0) (I6 j) = some (.ptr 3 1 0 j.toNat) := by
      unfold idxAddrArr
      simp only
      rw [if_pos ⟨h0, by omega⟩, Nat.zero_add, Nat.mul_one]
    have q1 : bin Tryd.prog .lss 3 true (I6 j) (.int .i64 4) = some (.bool true) := q_lss_t (by omega)
    have q2 : bin Tryd.prog .add 3 true (I6 j) (.int .i64 1) = some (I6 (j + 1)) := q_add (by omega) (by omega)
    clear hj h hf
    refine e_id ?_
    refine eC hc ?_
    unfold xs18 at *
    generalize hp4c x y = hh at *
    have fx := And.intro l1 <| And.intro l2 <| And.intro i1 <| And.intro i2 <| And.intro q1 <| And.intro q2 <| e4
    refine wkB ?_
    exact ih
theorem loop12 (G : Globs) (k : Nat) (hk : 10 < k) (self : Den) (d kk : Int) (r : List Nat) (L : List MI) (hL : ∀ i ∈ L, isC d i) (hl : L.length ≤ 4) : ∀ (suf pre : List MI) (n : Nat) (x : List Nat) (T : AHeap), L = pre ++ suf → suf.length < n → RgOk x → x = runI fTF pre r →
    ∃ T', loopN (alembiclaw24_SelectConsts.l12 G k 2 self) n (xs12 d kk r L pre.length) (hp2c x T) = some (.exit 0, xs12 d kk r L L.length, hp2c (runI fTF L r) []) ∧ RgOk (runI fTF L r) ∧ T' = ([] : AHeap)
  | suf, pre, 0, x, T, h, hf, _, _ => by omega
  | [], pre, n + 1, x, T, h, hf, hx, hr => by
    have e : L = pre := by rw [h]; simp
    subst e
    subst hr
    refine ⟨[], ?_, hx, rfl⟩
    rw [loopN_succ, alembiclaw24_SelectConsts.l12]
    have hc : cutH 2 (xs12 d kk r L L.length) (hp2c (runI fTF L r) T) = some (hp2c (runI fTF L r) []) := by simp [cutH, xs12, hp2c, belowL, belowB, heapBelow, natsU_below, instsV_below, FL.a]
    have lc : lenSl (.ro false (instsV L)) = some (Nn L.length) := by simp [lenSl, instsV_len]
    have q : bin Tryd.prog .lss 3 false (Nn L.length) (Nn L.length) = some (.bool false) := q_lss_f (by omega)
    refine e_id ?_
    refine eC hc ?_
    unfold xs12
    have fx := And.intro lc <| q
    refine wkB ?_
    refine e_out ?_; rfl
  | i :: suf, pre, n + 1, x, T, h, hf, hx, hr => by
    rw [loopN_succ, alembiclaw24_SelectConsts.l12, zeroRg]
    have hll : L.length = pre.length + (suf.length + 1) := by rw [h]; simp
    have hc : cutH 2 (xs12 d kk r L pre.length) (hp2c x T) = some (hp2c x []) := by simp [cutH, xs12, hp2c, belowL, belowB, heapBelow, natsU_below, instsV_below, FL.a]
    have lc : lenSl (.ro false (instsV L)) = some (Nn L.length) := by simp [lenSl, instsV_len]
    have q : bin Tryd.prog .lss 3 false (Nn pre.length) (Nn L.length) = some (.bool true) := q_lss_t (by omega)
    have hi : isC d i := hL i (by rw [h]; simp)
    have ig : (instsV L)[pre.length]? = some i.v := by rw [h]; simp [instsV]
    have d1 : idxAddrSl 6 (.ro false (instsV L)) (Nn pre.length) = some (.rp false i.v 0) := by
      unfold idxAddrSl
      have h0 : (0 : Int) ≤ (pre.length : Int) := by omega
      simp only [h0, if_true, Int.toNat_natCast, ig]
      rfl
    have d2 : ∀ H, loadV G true 6 (.rp false i.v 0) H = some i.v := fun H => rfl
    have l31 : loadV G true 31 (.ptr 0 1 0 0) (hp2c x []) = some (rgV x) := ldRg G hx.len rfl
    have l4 : loadV G true 4 (.ptr 1 1 0 0) (hp2c x []) = some fTF.a := rfl
    obtain ⟨k', rfl⟩ : ∃ k', k = k' + 7 := ⟨k - 7, by omega⟩
    have pl : plainL [i.v, rgV x, fTF.a] = true := by simp [plainL, plainB, plainU, MI.v, FL.a]
    have cl : cleanB (oneV (oneF i x fTF)) = true := by simp [cleanB, cleanL, cleanU, FL.a]
    have on : ∀ H, pureCall (alembicref17_One.f G (k' + 7)) [i.v, rgV x, fTF.a] H = _ := fun H => pureCall_of (H := H) (rOne_spec G k' i x hx fTF) pl cl
    rw [isC_do hi] at on
    unfold oneV at on
    simp only at on
    have hy := doesF_ok i hx fTF
    have ey : (doesF i x fTF).1 = runI fTF (pre ++ [i]) r := by rw [runI_app, ← hr]
    obtain ⟨y, hyy⟩ : ∃ y, y = (doesF i x fTF).1 := ⟨_, rfl⟩
    rw [← hyy] at on hy ey
    have hZ : (List.replicate 31 0 : List Nat).length = 31 := rfl
    generalize List.replicate 31 0 = Z at *
    have b44 : boxA 44 (rgV Z) (hp2c x []) = some (.ptr 2 1 0 0, hp2c x [⟨44, 31, [rgV Z]⟩]) := boxRg Z hZ _
    have b53 : boxA 53 (.agg [.bool false, .bool false, .bool false, .bool false]) (hp2c x [⟨44, 31, [rgV Z]⟩]) = some (.ptr 3 1 0 0, hp2c x [⟨44, 31, [rgV Z]⟩, ⟨53, 4, [f00.a]⟩]) := rfl
    have s44 : stS (storeV 31 (.ptr 2 1 0 0) (rgV y) (hp2c x [⟨44, 31, [rgV Z]⟩, ⟨53, 4, [f00.a]⟩])) = some (.tup [], hp2c x [⟨44, 31, [rgV y]⟩, ⟨53, 4, [f00.a]⟩]) := stRgA hy.len hZ rfl
    have s53 : stS (storeV 4 (.ptr 3 1 0 0) fTF.a (hp2c x [⟨44, 31, [rgV y]⟩, ⟨53, 4, [f00.a]⟩])) = some (.tup [], hp4c x y) := rfl
    have hl4 : (hp4c x y).length = 4 := rfl
    have lp := loop18 G (k' + 7) self d kk r L pre.length x y 4 0 (k' + 7) (by decide) (by decide) (by omega)
    have l44 : loadV G true 31 (.ptr 2 1 0 0) (hp4c x y) = some (rgV y) := ldRg G hy.len rfl
    have w44 : stS (storeV 31 (.ptr 0 1 0 0) (rgV y) (hp4c x y)) = some (.tup [], hp2c y [⟨44, 31, [rgV y]⟩, ⟨53, 4, [fTF.a]⟩]) := stRgA hy.len hx.len rfl
    have q4 : bin Tryd.prog .add 3 true (Nn pre.length) (.int .i64 1) = some (Nn (pre ++ [i]).length) := by
      rw [bin_add, wrap_of_i64 (by omega) (by omega)]; congr 2; simp
    obtain ⟨T', ih, h5, h6⟩ := loop12 G (k' + 7) hk self d kk r L hL hl suf (pre ++ [i]) n y [⟨44, 31, [rgV y]⟩, ⟨53, 4, [fTF.a]⟩] (by rw [h]; simp) (by simp at hf; omega) hy ey
    refine ⟨T', ?_, h5, h6⟩
    have l0 : xs18 d kk r L pre.length 0 = [I6 d, I6 kk, .rp false (rgV r) 0, .bool false, .bool true, .ro false (instsV L), .ptr 0 1 0 0, .ptr 1 1 0 0, Nn pre.length, .ptr 2 1 0 0, .ptr 3 1 0 0, .int .i64 0] := rfl
    rw [l0] at lp
    refine e_id ?_
    refine eC hc ?_
    unfold xs12 xs18 at *
    clear hyy ey hr hL h l0
    generalize i.v = iv at *
    generalize hp2c (runI fTF L r) [] = hend at *
    have fx := And.intro lc <| And.intro q <| And.intro d1 <| And.intro d2 <| And.intro l31 <| And.intro l4 <| And.intro on <| And.intro b44 <| And.intro b53 <| And.intro s44 <| s53
    refine wkB ?_
    rw [hl4]
    have fx := And.intro l44 <| And.intro w44 <| q4
    have lx1 := lp
    refine wkB ?_
    exact ih
theorem loop24 (G : Globs) (k : Nat) (self : Den) (d kk : Int) (hd : 0 ≤ d ∧ d ≤ 30) (r : List Nat) (hr : r.length = 31) : ∀ (c i n : Nat), i + c = 31 → c < n →
    loopN (alembiclaw24_SelectConsts.l24 G k 2 self) n (xs24 d kk r i) (hp2c (r.set d.toNat (u64 kk)) []) = some (.exit 4, xs24 d kk r 31, hp2c (r.set d.toNat (u64 kk)) [])
  | c, i, 0, h, hf => by omega
  | 0, i, n + 1, h, hf => by
    have e : i = 31 := by omega
    subst e
    rw [loopN_succ, alembiclaw24_SelectConsts.l24]
    have hc : cutH 2 (xs24 d kk r 31) (hp2c (r.set d.toNat (u64 kk)) []) = some (hp2c (r.set d.toNat (u64 kk)) []) := by simp [cutH, xs24, hp2c, belowL, belowB, heapBelow, natsU_below, FL.a]
    refine e_id ?_
    refine eC hc ?_
    unfold xs24
    generalize hp2c (r.set d.toNat (u64 kk)) [] = hh at *
    have fx := True.intro
    refine wkA ?_
    refine e_out ?_; rfl
  | c + 1, i, n + 1, h, hf => by
    rw [loopN_succ, alembiclaw24_SelectConsts.l24]
    have hc : cutH 2 (xs24 d kk r i) (hp2c (r.set d.toNat (u64 kk)) []) = some (hp2c (r.set d.toNat (u64 kk)) []) := by simp [cutH, xs24, hp2c, belowL, belowB, heapBelow, natsU_below, FL.a]
    have ih := loop24 G k self d kk hd r hr c (i + 1) n (by omega) (by omega)
    have q1 : bin Tryd.prog .lss 3 true (Nn i) (.int .i64 31) = some (.bool true) := q_lss_t (by omega)
    have q2 : bin Tryd.prog .add 3 true (Nn i) (.int .i64 1) = some (Nn (i + 1)) := by
      rw [bin_add, wrap_of_i64 (by omega) (by omega)]; congr 2
    have c1 : convInt .u64 (I6 kk) = some (Un (u64 kk)) := conv_u64 ..
    have i1 : idxAddrArr 31 1 (.ptr 0 1 0 0) (Nn i) = some (.ptr 0 1 0 i) := by
      unfold idxAddrArr
      simp only
      rw [if_pos ⟨by omega, by omega⟩, Nat.zero_add, Nat.mul_one, Int.toNat_natCast]
    have i2 : idxAddrArr 31 1 (.rp false (rgV r) 0) (Nn i) = some (.rp false (rgV r) i) := by
      unfold idxAddrArr
      simp only
      rw [if_pos ⟨by omega, by omega⟩, Nat.zero_add, Nat.mul_one, Int.toNat_natCast]
    have l2 : ∀ H, loadV G false 1 (.rp false (rgV r) i) H = some (Un (r.getD i 0)) := fun H => by
      rw [q_ldrp, natsU_get _ _ (by omega)]
    have l1 : loadV G false 1 (.ptr 0 1 0 i) (hp2c (r.set d.toNat (u64 kk)) []) = some (Un ((r.set d.toNat (u64 kk)).getD i 0)) := by
      show (natsU (r.set d.toNat (u64 kk)))[i]? = _
      rw [natsU_get _ _ (by rw [List.length_set]; omega)]
    by_cases he : (i : Int) = d
    · have ed : d.toNat = i := by omega
      have eg : (r.set d.toNat (u64 kk)).getD i 0 = u64 kk := by
        rw [ed, List.getD_eq_getElem?_getD, List.getElem?_set_self (by omega)]; rfl
      rw [eg] at l1
      have q3 : bin Tryd.prog .eql 3 false (Nn i) (I6 d) = some (.bool true) := q_eql_t he
      have q4 : bin Tryd.prog .neq 3 false (Nn i) (I6 d) = some (.bool false) := q_neq_f he
      have q5 : bin Tryd.prog .neq 43 false (Un (u64 kk)) (Un (u64 kk)) = some (.bool false) := q_neq_f rfl
      refine e_id ?_
      refine eC hc ?_
      unfold xs24 at *
      clear ed eg he
      generalize hp2c (r.set d.toNat (u64 kk)) [] = hh at *
      generalize u64 kk = uk at *
      have fx := And.intro q1 <| And.intro q2 <| And.intro c1 <| And.intro i1 <| And.intro i2 <| And.intro l2 <| And.intro l1 <| And.intro q3 <| And.intro q4 <| q5
      refine wkB ?_
      exact ih
    · have eg : (r.set d.toNat (u64 kk)).getD i 0 = r.getD i 0 := by
        rw [List.getD_eq_getElem?_getD, List.getD_eq_getElem?_getD, List.getElem?_set_ne (by omega)]
      rw [eg] at l1
      have q3 : bin Tryd.prog .eql 3 false (Nn i) (I6 d) = some (.bool false) := q_eql_f he
      have q4 : bin Tryd.prog .neq 3 false (Nn i) (I6 d) = some (.bool true) := q_neq_t he
      have q5 : bin Tryd.prog .neq 43 false (Un (r.getD i 0)) (Un (r.getD i 0)) = some (.bool false) := q_neq_f rfl
      refine e_id ?_
      refine eC hc ?_
      unfold xs24 at *
      clear eg he
      generalize hp2c (r.set d.toNat (u64 kk)) [] = hh at *
      generalize u64 kk = uk at *
      generalize r.getD i 0 = ri at *
      have fx := And.intro q1 <| And.intro q2 <| And.intro c1 <| And.intro i1 <| And.intro i2 <| And.intro l2 <| And.intro l1 <| And.intro q3 <| And.intro q4 <| q5
      refine wkB ?_
      exact ih
/-- Const. -/
theorem Const_spec (G : Globs) (k : Nat) (hk : 5 < k) (d kk : Int) (hd : 0 ≤ d ∧ d ≤ 30) : sel_Const.f G (k + 2) [I6 d, I6 kk] [] = some (.tup [.ro false (instsV (constF d (u64 kk))), .nili], []) := by
  rw [sel_Const.step]
  unfold sel_Const.c
  have h1 : bin Tryd.prog .lss 3 true (I6 d) (.int .i64 0) = some (.bool false) := q_lss_f (by omega)
  have h2 : bin Tryd.prog .gtr 3 true (I6 d) (.int .i64 30) = some (.bool false) := q_gtr_f (by omega)
  have cs := constant_spec G k d kk [] rfl hk
  generalize constF d (u64 kk) = L at *
  have f1 := frz_sl (H := hpK [] L) (b := 1) (n0 := 0) (d := 4) (ty := 57) rfl (by omega) (instsV_len L) (allSz_I L) (instsV_below 0 L)
  refine e_in ?_
  have fx := And.intro h1 <| And.intro h2 <| cs
  refine wkB ?_
  have f2 : frz (hpK [] L) 0 6 (.tup [.sl 1 L.length 0 L.length 6, .nili]) = some (.tup [.ro false (instsV L), .nili]) :=
    frz_tup (by simp [belowL, belowB]) (mapO_cons f1 (mapO_cons (frz_low rfl 5) mapO_nil))
  have fin : finV [.sl 1 L.length 0 L.length 6, .nili] 0 (hpK [] L) = some (.ret, [.tup [.ro false (instsV L), .nili]], []) := by
    unfold finV packR
    simp only [f2, cutH_zero]
  exact oF fin
theorem Const_far (k : Nat) (d kk : Int) (hd : d < 0 ∨ 30 < d) : sel_Const.f GA (k + 2) [I6 d, I6 kk] [] = some (.tup [.nils, .iface 180 (.gp 1)], []) := by
  rw [sel_Const.step]
  unfold sel_Const.c
  have lg : ∀ H, loadV GA false 1 (.gl 1) H = some (.iface 180 (.gp 1)) := fun H => rfl
  refine e_in ?_
  have fx := lg
  refine wkA ?_
  all_goals first | omega | exact w2 rfl rfl rfl
theorem LSelectConsts.law (xs : List AV) (h : IsTs Tryd.prog [3, 2, 44] xs) : ∃ k, alembiclaw24_SelectConsts.f (sentG 180 [1, 5, 0, 3, 6, 2, 7, 8, 4, 9, 10, 11, 12, 13]) k xs [] = some (.bool true, []) := by
  obtain ⟨x1, _, rfl, hx1, h⟩ := h.uncons
  obtain ⟨x2, _, rfl, hx2, h⟩ := h.uncons
  obtain ⟨x3, _, rfl, hx3, h⟩ := h.uncons
  obtain rfl := h.unnil
  obtain ⟨d, rfl, _⟩ := hx1.of_int (k := .i64) Tryd.underlying3
  obtain ⟨kk, rfl, _⟩ := hx2.of_int (k := .i64) Tryd.underlying2
  obtain ⟨r, rfl, hr⟩ := of_regs hx3
  refine ⟨101, ?_⟩
  change alembiclaw24_SelectConsts.f GA 101 _ _ = _
  have rf : ∀ H, pureCall (alembiclaw24_first.f GA 100) [] H = _ := fun H => pureCall_of (H := H) (first24 GA 20) rfl rfl
  have c0 : ∀ H, boxRoA (rgV r) H = some (.rp false (rgV r) 0, H) := fun H => rfl
  rw [alembiclaw24_SelectConsts.step]
  unfold alembiclaw24_SelectConsts.c
  rw [zeroRg]
  by_cases hd : d < 0 ∨ 30 < d
  · have rc : ∀ H, pureCall (sel_Const.f GA 100) [I6 d, I6 kk] H = _ := fun H => pureCall_of (H := H) (Const_far 98 d kk hd) rfl rfl
    have is : ∀ H, pureCall (alembicsee_Is.f GA 100) [.iface 180 (.gp 1), .int .i64 101] H = _ := fun H => pureCall_of (H := H) (see_range 40) rfl rfl
    refine e_in ?_
    have fx := And.intro rf <| And.intro c0 <| And.intro rc <| is
    refine wkA ?_
    all_goals first | omega | exact w1b rfl
  have hd' : 0 ≤ d ∧ d ≤ 30 := by omega
  have cL : ∀ L : List MI, cleanL (instsV L) = true := fun L => cleanL_map _ (fun _ => rfl) L
  have rc : ∀ H, pureCall (sel_Const.f GA 100) [I6 d, I6 kk] H = _ := fun H => pureCall_of (H := H) (Const_spec GA 98 (by decide) d kk hd') rfl (by simp [cleanB, cleanL, cL])
  obtain ⟨hC, hdo⟩ := const_do d hd' (u64 kk) (u64_lt _) fTF
  have hlen := constF_len d (u64 kk)
  generalize constF d (u64 kk) = L at *
  obtain ⟨_, lp, hok, _⟩ := loop12 GA 100 (by decide) (alembiclaw24_SelectConsts.f GA 100) d kk r L hC hlen.2 L [] 100 r [] rfl (by omega) hr rfl
  rw [hdo r hr.len] at lp
  have lp2 := loop24 GA 100 (alembiclaw24_SelectConsts.f GA 100) d kk hd' r hr.len 31 0 100 rfl (by decide)
  have z12 : xs12 d kk r L ([] : List MI).length = [I6 d, I6 kk, .rp false (rgV r) 0, .bool false, .bool true, .ro false (instsV L), .ptr 0 1 0 0, .ptr 1 1 0 0, .int .i64 0] := rfl
  have z24 : xs24 d kk r 0 = [I6 d, I6 kk, .rp false (rgV r) 0, .bool false, .bool true, .ptr 0 1 0 0, .int .i64 0] := rfl
  rw [z12] at lp
  rw [z24] at lp2
  have hZ : (List.replicate 31 0 : List Nat).length = 31 := rfl
  generalize List.replicate 31 0 = Z at *
  have lc : lenSl (.ro false (instsV L)) = some (Nn L.length) := by simp [lenSl, instsV_len]
  have l0 : ∀ H, loadV GA true 31 (.rp false (rgV r) 0) H = some (rgV r) := fun H => by
    rw [q_ldrpT, if_pos (by rw [natsU_len, hr.len]; exact Nat.le_refl _), List.drop_zero, List.take_of_length_le (by rw [natsU_len, hr.len]; exact Nat.le_refl _)]
  have b1 : boxA 44 (rgV Z) [] = some (.ptr 0 1 0 0, [⟨44, 31, [rgV Z]⟩]) := boxRg Z hZ []
  have s1 : stS (storeV 31 (.ptr 0 1 0 0) (rgV r) [⟨44, 31, [rgV Z]⟩]) = some (.tup [], [⟨44, 31, [rgV r]⟩]) := stRgA hr.len hZ rfl
  have ba : buildArr 1 [.bool false, .bool false, .bool false, .bool false] [(0, .bool true), (1, .bool false), (2, .bool true), (3, .bool false)] = some fTF.a := rfl
  have b2 : boxA 53 (.agg [.bool false, .bool false, .bool false, .bool false]) [⟨44, 31, [rgV r]⟩] = some (.ptr 1 1 0 0, [⟨44, 31, [rgV r]⟩, ⟨53, 4, [f00.a]⟩]) := rfl
  have s2 : stS (storeV 4 (.ptr 1 1 0 0) fTF.a [⟨44, 31, [rgV r]⟩, ⟨53, 4, [f00.a]⟩]) = some (.tup [], hp2c r []) := rfl
  have hl2 : ∀ x : List Nat, (hp2c x []).length = 2 := fun x => rfl
  have q1 : bin Tryd.prog .neq 30 true .nili .nili = some (.bool false) := by kernel_rfl
  unfold xs12 at lp
  unfold xs24 at lp2
  refine e_in ?_
  have g1 : bin Tryd.prog .lss 3 true (Nn L.length) (.int .i64 1) = some (.bool false) := q_lss_f (by omega)
  have g2 : bin Tryd.prog .gtr 3 true (Nn L.length) (.int .i64 4) = some (.bool false) := q_gtr_f (by omega)
  have g3 : bin Tryd.prog .lss 3 true (I6 d) (.int .i64 0) = some (.bool false) := q_lss_f (by omega)
  have g4 : bin Tryd.prog .gtr 3 true (I6 d) (.int .i64 30) = some (.bool false) := q_gtr_f (by omega)
  clear hC hdo z12 z24 hd
  have fx := And.intro rf <| And.intro c0 <| And.intro rc <| And.intro lc <| And.intro l0 <| And.intro b1 <| And.intro s1 <| And.intro ba <| And.intro b2 <| And.intro s2 <| And.intro q1 <| And.intro g1 <| And.intro g2 <| And.intro g3 <| g4
  refine wkB ?_
  rw [hl2]
  have fx := True.intro
  have lx1 := lp
  refine wkB ?_
  rw [hl2]
  have fx := True.intro
  have lx1 := lp2
  refine wkB ?_
  exact w1b rfl
end Go.Proofs.YtdfglgnflldkpaaDoor
namespace Go.Proofs.YtdfglgnflldkpaaDoor
open Go Go.ChangeShapes Go.WideShapes Go.RowKit Mir
set_option linter.unusedVariables false
set_option linter.unusedSimpArgs false
namespace RSelectConsts
noncomputable def laidWorld (os : Os) : World :=
  let w0 := World.holding Tryd.prog os ⟨#[.cells #[.string ⟨#[97, 32, 110, 117, 109, 98, 101, 114, 32, 111, 117, 116, 32, 111, 102, 32, 105, 116, 115, 32, 114, 97, 110, 103, 101]⟩] 197, .cells #[.string ⟨#[110, 111, 116, 32, 97, 115, 32, 108, 111, 110, 103, 32, 97, 115, 32, 105, 116, 32, 104, 97, 115, 32, 116, 111, 32, 98, 101]⟩] 197, .cells #[.string ⟨#[116, 111, 111, 32, 109, 97, 110, 121]⟩] 197, .cells #[.string ⟨#[110, 111, 116, 32, 97, 115, 32, 105, 116, 32, 104, 97, 115, 32, 116, 111, 32, 98, 101]⟩] 197, .cells #[.string ⟨#[116, 104, 101, 114, 101, 32, 105, 115, 32, 110, 111, 110, 101]⟩] 197, .cells #[.string ⟨#[110, 111, 32, 115, 117, 99, 104, 32, 116, 104, 105, 110, 103, 32, 116, 111, 32, 100, 111]⟩] 197, .cells #[.string ⟨#[110, 111, 32, 115, 117, 99, 104, 32, 118, 97, 114, 105, 97, 98, 108, 101]⟩] 197, .cells #[.string ⟨#[97, 32, 115, 101, 99, 114, 101, 116, 32, 119, 104, 101, 114, 101, 32, 105, 116, 32, 109, 97, 121, 32, 110, 111, 116, 32, 98, 101]⟩] 197, .cells #[.string ⟨#[110, 111, 32, 115, 117, 99, 104, 32, 112, 108, 97, 99, 101]⟩] 197, .cells #[.string ⟨#[116, 111, 111, 32, 102, 97, 114]⟩] 197, .cells #[.string ⟨#[105, 116, 32, 116, 97, 107, 101, 115, 32, 116, 111, 111, 32, 108, 111, 110, 103]⟩] 197, .cells #[.string ⟨#[119, 104, 101, 114, 101, 32, 116, 104, 101, 114, 101, 32, 105, 115, 32, 110, 111, 116, 104, 105, 110, 103]⟩] 197, .cells #[.string ⟨#[110, 111, 32, 115, 117, 99, 104, 32, 119, 111, 114, 100]⟩] 197, .cells #[.string ⟨#[110, 111, 116, 32, 97, 32, 110, 117, 109, 98, 101, 114]⟩] 197], #[], []⟩
  { w0 with heap := w0.heap
    |>.modify 1 (fun
      | .cells _ t frozen => .cells #[.iface 180 (.pointer (some ⟨Rk.low, 0, none⟩))] t frozen
      | o => o)
    |>.modify 5 (fun
      | .cells _ t frozen => .cells #[.iface 180 (.pointer (some ⟨Rk.low + 1, 0, none⟩))] t frozen
      | o => o)
    |>.modify 0 (fun
      | .cells _ t frozen => .cells #[.iface 180 (.pointer (some ⟨Rk.low + 2, 0, none⟩))] t frozen
      | o => o)
    |>.modify 3 (fun
      | .cells _ t frozen => .cells #[.iface 180 (.pointer (some ⟨Rk.low + 3, 0, none⟩))] t frozen
      | o => o)
    |>.modify 6 (fun
      | .cells _ t frozen => .cells #[.iface 180 (.pointer (some ⟨Rk.low + 4, 0, none⟩))] t frozen
      | o => o)
    |>.modify 2 (fun
      | .cells _ t frozen => .cells #[.iface 180 (.pointer (some ⟨Rk.low + 5, 0, none⟩))] t frozen
      | o => o)
    |>.modify 7 (fun
      | .cells _ t frozen => .cells #[.iface 180 (.pointer (some ⟨Rk.low + 6, 0, none⟩))] t frozen
      | o => o)
    |>.modify 8 (fun
      | .cells _ t frozen => .cells #[.iface 180 (.pointer (some ⟨Rk.low + 7, 0, none⟩))] t frozen
      | o => o)
    |>.modify 4 (fun
      | .cells _ t frozen => .cells #[.iface 180 (.pointer (some ⟨Rk.low + 8, 0, none⟩))] t frozen
      | o => o)
    |>.modify 9 (fun
      | .cells _ t frozen => .cells #[.iface 180 (.pointer (some ⟨Rk.low + 9, 0, none⟩))] t frozen
      | o => o)
    |>.modify 10 (fun
      | .cells _ t frozen => .cells #[.iface 180 (.pointer (some ⟨Rk.low + 10, 0, none⟩))] t frozen
      | o => o)
    |>.modify 11 (fun
      | .cells _ t frozen => .cells #[.iface 180 (.pointer (some ⟨Rk.low + 11, 0, none⟩))] t frozen
      | o => o)
    |>.modify 12 (fun
      | .cells _ t frozen => .cells #[.iface 180 (.pointer (some ⟨Rk.low + 12, 0, none⟩))] t frozen
      | o => o)
    |>.modify 13 (fun
      | .cells _ t frozen => .cells #[.iface 180 (.pointer (some ⟨Rk.low + 13, 0, none⟩))] t frozen
      | o => o) }
theorem laidWorld_met (os : Os) (args : Array Value) : laidMetH Tryd.prog ([("alembic/api.ErrRange", Rows.laid_alembic_api_ErrRange), ("alembic/api.ErrLength", Rows.laid_alembic_api_ErrLength), ("alembic/api.ErrMany", Rows.laid_alembic_api_ErrMany), ("alembic/api.ErrShape", Rows.laid_alembic_api_ErrShape), ("alembic/api.ErrNone", Rows.laid_alembic_api_ErrNone), ("alembic/api.ErrOp", Rows.laid_alembic_api_ErrOp), ("alembic/api.ErrVar", Rows.laid_alembic_api_ErrVar), ("alembic/api.ErrSecret", Rows.laid_alembic_api_ErrSecret), ("alembic/api.ErrLabel", Rows.laid_alembic_api_ErrLabel), ("alembic/api.ErrFar", Rows.laid_alembic_api_ErrFar), ("alembic/api.ErrFuel", Rows.laid_alembic_api_ErrFuel), ("alembic/api.ErrFault", Rows.laid_alembic_api_ErrFault), ("alembic/api.ErrWord", Rows.laid_alembic_api_ErrWord), ("alembic/api.ErrNumber", Rows.laid_alembic_api_ErrNumber)] : List (String × DataW Unit)) ((laidWorld os).forCall (fun _ _ => 0) ⟨#[], args, []⟩).memory :=
  laidMet_of_run (ps := [.cell 1 0, .cell (Rk.low) 0, .cell 5 0, .cell (Rk.low + 1) 0, .cell 0 0, .cell (Rk.low + 2) 0, .cell 3 0, .cell (Rk.low + 3) 0, .cell 6 0, .cell (Rk.low + 4) 0, .cell 2 0, .cell (Rk.low + 5) 0, .cell 7 0, .cell (Rk.low + 6) 0, .cell 8 0, .cell (Rk.low + 7) 0, .cell 4 0, .cell (Rk.low + 8) 0, .cell 9 0, .cell (Rk.low + 9) 0, .cell 10 0, .cell (Rk.low + 10) 0, .cell 11 0, .cell (Rk.low + 11) 0, .cell 12 0, .cell (Rk.low + 12) 0, .cell 13 0, .cell (Rk.low + 13) 0]) 8 (by kernel_rfl) (by kernel_rfl) (by kernel_rfl)
theorem sentL : SentL Tryd.prog 30 [("alembic/api.ErrRange", Rows.laid_alembic_api_ErrRange), ("alembic/api.ErrLength", Rows.laid_alembic_api_ErrLength), ("alembic/api.ErrMany", Rows.laid_alembic_api_ErrMany), ("alembic/api.ErrShape", Rows.laid_alembic_api_ErrShape), ("alembic/api.ErrNone", Rows.laid_alembic_api_ErrNone), ("alembic/api.ErrOp", Rows.laid_alembic_api_ErrOp), ("alembic/api.ErrVar", Rows.laid_alembic_api_ErrVar), ("alembic/api.ErrSecret", Rows.laid_alembic_api_ErrSecret), ("alembic/api.ErrLabel", Rows.laid_alembic_api_ErrLabel), ("alembic/api.ErrFar", Rows.laid_alembic_api_ErrFar), ("alembic/api.ErrFuel", Rows.laid_alembic_api_ErrFuel), ("alembic/api.ErrFault", Rows.laid_alembic_api_ErrFault), ("alembic/api.ErrWord", Rows.laid_alembic_api_ErrWord), ("alembic/api.ErrNumber", Rows.laid_alembic_api_ErrNumber)] [1, 5, 0, 3, 6, 2, 7, 8, 4, 9, 10, 11, 12, 13] := ⟨by kernel_rfl, by kernel_rfl, ⟨_, rfl⟩, by kernel_rfl, by kernel_rfl, ⟨_, rfl⟩, by kernel_rfl, by kernel_rfl, ⟨_, rfl⟩, by kernel_rfl, by kernel_rfl, ⟨_, rfl⟩, by kernel_rfl, by kernel_rfl, ⟨_, rfl⟩, by kernel_rfl, by kernel_rfl, ⟨_, rfl⟩, by kernel_rfl, by kernel_rfl, ⟨_, rfl⟩, by kernel_rfl, by kernel_rfl, ⟨_, rfl⟩, by kernel_rfl, by kernel_rfl, ⟨_, rfl⟩, by kernel_rfl, by kernel_rfl, ⟨_, rfl⟩, by kernel_rfl, by kernel_rfl, ⟨_, rfl⟩, by kernel_rfl, by kernel_rfl, ⟨_, rfl⟩, by kernel_rfl, by kernel_rfl, ⟨_, rfl⟩, by kernel_rfl, by kernel_rfl, ⟨_, rfl⟩, trivial⟩
theorem sent {W : World} (h : laidMetH Tryd.prog ([("alembic/api.ErrRange", Rows.laid_alembic_api_ErrRange), ("alembic/api.ErrLength", Rows.laid_alembic_api_ErrLength), ("alembic/api.ErrMany", Rows.laid_alembic_api_ErrMany), ("alembic/api.ErrShape", Rows.laid_alembic_api_ErrShape), ("alembic/api.ErrNone", Rows.laid_alembic_api_ErrNone), ("alembic/api.ErrOp", Rows.laid_alembic_api_ErrOp), ("alembic/api.ErrVar", Rows.laid_alembic_api_ErrVar), ("alembic/api.ErrSecret", Rows.laid_alembic_api_ErrSecret), ("alembic/api.ErrLabel", Rows.laid_alembic_api_ErrLabel), ("alembic/api.ErrFar", Rows.laid_alembic_api_ErrFar), ("alembic/api.ErrFuel", Rows.laid_alembic_api_ErrFuel), ("alembic/api.ErrFault", Rows.laid_alembic_api_ErrFault), ("alembic/api.ErrWord", Rows.laid_alembic_api_ErrWord), ("alembic/api.ErrNumber", Rows.laid_alembic_api_ErrNumber)] : List (String × DataW Unit)) W) : ∃ S, SentS W 180 [1, 5, 0, 3, 6, 2, 7, 8, 4, 9, 10, 11, 12, 13] S :=
  sent_of_laid Tryd.underlying30 Rk.row Tryd.underlying180 Tryd.underlying197 rfl rfl Tryd.underlying9 (by kernel_rfl) (by kernel_rfl) sentL (by decide) h
theorem plainTs : ∀ t ∈ ([3, 2, 44, 43] : List Nat), plainT Tryd.prog [3, 2, 44, 43] t = true := List.all_eq_true.1 (by kernel_rfl)
set_option maxRecDepth 100000 in
theorem lifted (os : Os) (started : os.Started) (H : Type) (enc : TypeId × Value → H) :
    ReturnsInHanded {} Tryd.checked os 4 .any (fun w args => (Rows.selectConstsSpec.pre enc Tryd.prog Tryd.f4 [] false w args ∧ laidMetH Tryd.prog ([("alembic/api.ErrRange", Rows.laid_alembic_api_ErrRange), ("alembic/api.ErrLength", Rows.laid_alembic_api_ErrLength), ("alembic/api.ErrMany", Rows.laid_alembic_api_ErrMany), ("alembic/api.ErrShape", Rows.laid_alembic_api_ErrShape), ("alembic/api.ErrNone", Rows.laid_alembic_api_ErrNone), ("alembic/api.ErrOp", Rows.laid_alembic_api_ErrOp), ("alembic/api.ErrVar", Rows.laid_alembic_api_ErrVar), ("alembic/api.ErrSecret", Rows.laid_alembic_api_ErrSecret), ("alembic/api.ErrLabel", Rows.laid_alembic_api_ErrLabel), ("alembic/api.ErrFar", Rows.laid_alembic_api_ErrFar), ("alembic/api.ErrFuel", Rows.laid_alembic_api_ErrFuel), ("alembic/api.ErrFault", Rows.laid_alembic_api_ErrFault), ("alembic/api.ErrWord", Rows.laid_alembic_api_ErrWord), ("alembic/api.ErrNumber", Rows.laid_alembic_api_ErrNumber)] : List (String × DataW Unit)) w) ∧ sizedMet enc Tryd.prog Tryd.f4 (OpenSpec.ofChange Rows.selectConstsSpec) false w args)
      (Rows.selectConstsSpec.post enc Tryd.prog Tryd.f4 false true false false) := by
  refine returnsInHanded_of_change_and (C := Tryd.checked) (X := fun w _ => laidMetH Tryd.prog ([("alembic/api.ErrRange", Rows.laid_alembic_api_ErrRange), ("alembic/api.ErrLength", Rows.laid_alembic_api_ErrLength), ("alembic/api.ErrMany", Rows.laid_alembic_api_ErrMany), ("alembic/api.ErrShape", Rows.laid_alembic_api_ErrShape), ("alembic/api.ErrNone", Rows.laid_alembic_api_ErrNone), ("alembic/api.ErrOp", Rows.laid_alembic_api_ErrOp), ("alembic/api.ErrVar", Rows.laid_alembic_api_ErrVar), ("alembic/api.ErrSecret", Rows.laid_alembic_api_ErrSecret), ("alembic/api.ErrLabel", Rows.laid_alembic_api_ErrLabel), ("alembic/api.ErrFar", Rows.laid_alembic_api_ErrFar), ("alembic/api.ErrFuel", Rows.laid_alembic_api_ErrFuel), ("alembic/api.ErrFault", Rows.laid_alembic_api_ErrFault), ("alembic/api.ErrWord", Rows.laid_alembic_api_ErrWord), ("alembic/api.ErrNumber", Rows.laid_alembic_api_ErrNumber)] : List (String × DataW Unit)) w) (fun _ _ _ hh h => h.of_heap hh) Rk.own started (by kernel_rfl) Tryd.func4
    (ChangeSpec.witness_at (enc := enc) (C := Tryd.checked) (os := os) (X := fun w _ => laidMetH Tryd.prog ([("alembic/api.ErrRange", Rows.laid_alembic_api_ErrRange), ("alembic/api.ErrLength", Rows.laid_alembic_api_ErrLength), ("alembic/api.ErrMany", Rows.laid_alembic_api_ErrMany), ("alembic/api.ErrShape", Rows.laid_alembic_api_ErrShape), ("alembic/api.ErrNone", Rows.laid_alembic_api_ErrNone), ("alembic/api.ErrOp", Rows.laid_alembic_api_ErrOp), ("alembic/api.ErrVar", Rows.laid_alembic_api_ErrVar), ("alembic/api.ErrSecret", Rows.laid_alembic_api_ErrSecret), ("alembic/api.ErrLabel", Rows.laid_alembic_api_ErrLabel), ("alembic/api.ErrFar", Rows.laid_alembic_api_ErrFar), ("alembic/api.ErrFuel", Rows.laid_alembic_api_ErrFuel), ("alembic/api.ErrFault", Rows.laid_alembic_api_ErrFault), ("alembic/api.ErrWord", Rows.laid_alembic_api_ErrWord), ("alembic/api.ErrNumber", Rows.laid_alembic_api_ErrNumber)] : List (String × DataW Unit)) w) false (laidWorld os) #[.int .i64 0, .int .i64 0, .agg #[.int .u64 0, .int .u64 0, .int .u64 0, .int .u64 0, .int .u64 0, .int .u64 0, .int .u64 0, .int .u64 0, .int .u64 0, .int .u64 0, .int .u64 0, .int .u64 0, .int .u64 0, .int .u64 0, .int .u64 0, .int .u64 0, .int .u64 0, .int .u64 0, .int .u64 0, .int .u64 0, .int .u64 0, .int .u64 0, .int .u64 0, .int .u64 0, .int .u64 0, .int .u64 0, .int .u64 0, .int .u64 0, .int .u64 0, .int .u64 0, .int .u64 0]] 8 rfl (by kernel_rfl) (by kernel_rfl) (by kernel_rfl) (by kernel_rfl) (by kernel_rfl) (laidWorld_met os _)) ?_
  intro W base args ds gs before hval0 hW _ _ hL _
  obtain ⟨S, hS⟩ := sent hL
  have hval : ∀ (j : Nat) t v, Tryd.f4.params.toList[j]? = some t → args.toList[j]? = some v → Value.okWide Tryd.prog W .any base t v := fun j t v h1 h2 => hval0 j t v (by simpa using h1) (by simpa using h2)
  have hW' := hW
  obtain ⟨p, q, hA, _, _, _, _⟩ := hW
  have hpar : Tryd.f4.params.toList = [3, 2, 44] := by rw [Tryd.params4]
  rw [hpar] at hval
  replace hA : DataW.TrodAll enc Tryd.prog W 0 (fun _ => true) true Tryd.f4.params.toList args.toList ds p := hA
  rw [hpar] at hA
  obtain ⟨xs, h1, h2⟩ := read_args plainTs (by decide) hval hA
  obtain ⟨k, hk⟩ := LSelectConsts.law xs h1
  have hc := calls_top (Mir.alembiclaw24_SelectConsts.sound (sentG_plain _ _) k) hk (good_top hS) h2
  rw [Array.toArray_toList] at hc
  refine hc.mono fun e W' ⟨he, hb⟩ => ⟨_, he, ?_⟩
  exact post_top rfl hpar (by kernel_rfl) Tryd.underlying4 (fun ds hd => by
    obtain ⟨d0, d1, d2, rfl⟩ : ∃ d0 d1 d2, ds = [d0, d1, d2] := by
      match ds, hd with
      | [d0, d1, d2], _ => exact ⟨d0, d1, d2, rfl⟩
    rfl) Rk.laidOut (by kernel_rfl) hW' hb
theorem holds : Rows.SelectConstsSaid :=
  OpenClaim.holds_of_wide 4 Tryd.f4 rfl rfl rfl rfl rfl rfl rfl ⟨rfl, rfl, rfl, rfl, rfl⟩ rfl rfl rfl rfl rfl (by kernel_rfl) Tryd.func4 (by kernel_rfl)
    (of_decide_eq_true (by kernel_rfl)) (by unfold Func.isWrapper; first | (rw [if_pos (by decide +kernel)]; kernel_rfl) | (rw [if_neg (by decide +kernel)]; exact ⟨rfl, rfl⟩))
    (fun os started H enc _ => lifted os started H enc)
theorem cardHolds : Rows.SelectConstsCardSaid :=
  Claim7.holds_tied_plain_at .later [] [.sentinel, .sentinel, .sentinel, .sentinel, .sentinel, .sentinel, .sentinel, .sentinel, .sentinel, .sentinel, .sentinel, .sentinel, .sentinel, .sentinel] true (true, "92292b04e853d01d8cf3885d4f753a51952eaef99bf2156408a64e96f17010d7") true
    holds (fun _ h => by cases h) (by kernel_rfl) (fun _ h => by cases h) selectConsts_row_tie rfl ⟨rfl, rfl⟩ (by kernel_rfl) rfl
    (fun f fn hf hfn => by
      obtain rfl : f = 4 := Option.some.inj ((show Tryd.prog.funcNamed "alembic/alembiclaw24.SelectConsts" = some 4 by kernel_rfl).symm.trans hf) |>.symm
      obtain rfl : fn = Tryd.f4 := (Option.some.inj (Tryd.func4.symm.trans hfn)).symm
      exact ⟨by kernel_rfl, fun j t ht => by
        have hm : t ∈ ([3, 2, 44] : List Nat) := by
          have := List.mem_of_getElem? (l := Tryd.f4.params.toList) (i := j) (by simpa using ht)
          rw [Tryd.params4] at this
          exact this
        have := List.all_eq_true.1 (show ([3, 2, 44] : List Nat).all (fun t => !Tryd.prog.wantsStandIn t) = true by kernel_rfl) t hm
        exact (by simpa using this : Tryd.prog.wantsStandIn t = false)⟩)
    (by kernel_rfl)
end RSelectConsts
end Go.Proofs.YtdfglgnflldkpaaDoor
