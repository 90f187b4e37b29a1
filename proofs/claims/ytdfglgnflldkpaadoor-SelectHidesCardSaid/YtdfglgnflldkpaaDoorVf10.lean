/- Part 10 of the proof: what these functions do. -/
import Derived.Test.YtdfglgnflldkpaaDoorVf9
namespace Go.Proofs.YtdfglgnflldkpaaDoor.Mir
open Go
set_option linter.unusedSimpArgs false
set_option linter.unusedVariables false
set_option maxHeartbeats 8000000
set_option maxRecDepth 20000
theorem iF (G : aG) (k : Nat) (r : List Nat) (hr : r.length = 31) (j : Int) (h0 : 0 ≤ j) (h1 : j ≤ 31) : aV.f G (k + 1) [eD r, I6 j] [] = some (Un (cK r j), []) := by
 rw [aV.step]
 unfold aV.c cK
 have b1 : ∀ H, dP (eD r) H = some (.rp false (eD r) 0, H) := fun H => rfl
 refine eO ?_
 by_cases h : j = 31
 ·rw [if_pos h]
  have fx := b1
  refine gI ?_
  exact tP rfl
 ·rw [if_neg h]
  have i1 : jG 31 1 (.rp false (eD r) 0) (I6 j) = some (.rp false (eD r) j.toNat) := by
   unfold jG
   simp only
   rw [if_pos ⟨h0, by omega⟩, Nat.zero_add, Nat.mul_one]
  have l1 : ∀ H, aC G false 1 (.rp false (eD r) j.toNat) H = some (Un (r.getD j.toNat 0)) := fun H => by
   rw [aET, lQ _ _ (by omega)]
  have fx := aPt b1 <| aPt i1 <| l1
  refine gI ?_
  exact tP rfl
theorem kM : (AV.agg [(.int .u64 0), (.int .u64 0), (.int .u64 0), (.int .u64 0), (.int .u64 0), (.int .u64 0), (.int .u64 0), (.int .u64 0), (.int .u64 0), (.int .u64 0), (.int .u64 0), (.int .u64 0), (.int .u64 0), (.int .u64 0), (.int .u64 0), (.int .u64 0), (.int .u64 0), (.int .u64 0), (.int .u64 0), (.int .u64 0), (.int .u64 0), (.int .u64 0), (.int .u64 0), (.int .u64 0), (.int .u64 0), (.int .u64 0), (.int .u64 0), (.int .u64 0), (.int .u64 0), (.int .u64 0), (.int .u64 0)]) = eD (List.replicate 31 0) := rfl
theorem jX : [(AV.int .u64 0), (.int .u64 0), (.int .u64 0), (.int .u64 0), (.int .u64 0), (.int .u64 0), (.int .u64 0), (.int .u64 0), (.int .u64 0), (.int .u64 0), (.int .u64 0), (.int .u64 0), (.int .u64 0), (.int .u64 0), (.int .u64 0), (.int .u64 0), (.int .u64 0), (.int .u64 0), (.int .u64 0), (.int .u64 0), (.int .u64 0), (.int .u64 0), (.int .u64 0), (.int .u64 0), (.int .u64 0), (.int .u64 0), (.int .u64 0), (.int .u64 0), (.int .u64 0), (.int .u64 0), (.int .u64 0)] = bV (List.replicate 31 0) := rfl
theorem lR (r : List Nat) (hr : r.length = 31) (H : aF) : fF 44 (eD r) H = some (.ptr H.length 1 0 0, H ++ [⟨44, 31, [eD r]⟩]) := by
 simp [fF, fH, AV.cells, bL, hr]
theorem aOn {j i : Nat} {H : aF} {r : List Nat} (hr : r.length = 31) (hi : i < 31) (x : Nat) (e : H[j]? = some ⟨44, 31, [eD r]⟩) : fB (aN 1 (.ptr j 1 0 i) (Un x) H) = some (.tup [], H.set j ⟨44, 31, [eD (r.set i x)]⟩) := by
 have e2 : jP (bV r) i [Un x] = bV (r.set i x) := by
  rw [rV, List.set_eq_take_append_cons_drop, if_pos (by rw [bL]; omega)]
  rfl
 unfold aN
 simp only [e, AV.cells, bL, hr, List.length_singleton, fH, List.getElem?_cons_zero]
 rw [if_pos (by simp), if_pos (by omega), e2]
 rfl
theorem lU {j : Nat} {H : aF} {q r : List Nat} (hq : q.length = 31) (hr : r.length = 31) (e : H[j]? = some ⟨44, 31, [eD r]⟩) : fB (aN 31 (.ptr j 1 0 0) (eD q) H) = some (.tup [], H.set j ⟨44, 31, [eD q]⟩) := by
 have e2 : jP (bV r) 0 (bV q) = bV q := by
  unfold jP
  rw [List.take_zero, List.nil_append, List.drop_of_length_le (by rw [bL, bL]; omega), List.append_nil]
 unfold aN
 simp only [e, AV.cells, bL, hq, List.length_singleton, fH, List.getElem?_cons_zero]
 rw [if_pos (by simp), if_pos (by omega), e2]
 rfl
theorem iG (G : aG) (k : Nat) (r : List Nat) (hr : r.length = 31) (j : Int) (h0 : 0 ≤ j) (h1 : j ≤ 31) (x : Nat) : aW.f G (k + 1) [eD r, I6 j, Un x] [] = some (eD (fT r j x), []) := by
 rw [aW.step]
 unfold aW.c fT
 rw [kM]
 have hZ : (List.replicate 31 0 : List Nat).length = 31 := rfl
 obtain ⟨Z, hz⟩ : ∃ Z : List Nat, Z = List.replicate 31 0 := ⟨_, rfl⟩
 rw [← hz] at hZ ⊢
 clear hz
 have b1 : fF 44 (eD r) [] = some (.ptr 0 1 0 0, [⟨44, 31, [eD r]⟩]) := lR r hr []
 have b2 : fF 44 (eD Z) [⟨44, 31, [eD r]⟩] = some (.ptr 1 1 0 0, [⟨44, 31, [eD r]⟩, ⟨44, 31, [eD Z]⟩]) := lR Z hZ _
 refine eO ?_
 by_cases h : j = 31
 ·rw [if_pos h]
  have l1 : aC G true 31 (.ptr 0 1 0 0) [⟨44, 31, [eD r]⟩, ⟨44, 31, [eD Z]⟩] = some (eD r) := aGU G hr rfl
  have s1 : fB (aN 31 (.ptr 1 1 0 0) (eD r) [⟨44, 31, [eD r]⟩, ⟨44, 31, [eD Z]⟩]) = some (.tup [], [⟨44, 31, [eD r]⟩, ⟨44, 31, [eD r]⟩]) := lU hr hZ rfl
  have fx := aPt b1 <| aPt b2 <| aPt l1 <| s1
  refine gI ?_
  exact oF (zO (by simp [cG, iE]) (aGU G hr rfl))
 ·rw [if_neg h]
  have i1 : jG 31 1 (.ptr 0 1 0 0) (I6 j) = some (.ptr 0 1 0 j.toNat) := by
   unfold jG
   simp only
   rw [if_pos ⟨h0, by omega⟩, Nat.zero_add, Nat.mul_one]
  have hr' : (r.set j.toNat x).length = 31 := by rw [List.length_set]; exact hr
  have s0 : fB (aN 1 (.ptr 0 1 0 j.toNat) (Un x) [⟨44, 31, [eD r]⟩, ⟨44, 31, [eD Z]⟩]) = some (.tup [], [⟨44, 31, [eD (r.set j.toNat x)]⟩, ⟨44, 31, [eD Z]⟩]) := aOn hr (by omega) x rfl
  generalize r.set j.toNat x = q at *
  have l1 : aC G true 31 (.ptr 0 1 0 0) [⟨44, 31, [eD q]⟩, ⟨44, 31, [eD Z]⟩] = some (eD q) := aGU G hr' rfl
  have s1 : fB (aN 31 (.ptr 1 1 0 0) (eD q) [⟨44, 31, [eD q]⟩, ⟨44, 31, [eD Z]⟩]) = some (.tup [], [⟨44, 31, [eD q]⟩, ⟨44, 31, [eD q]⟩]) := lU hr' hZ rfl
  have fx := aPt b1 <| aPt b2 <| aPt i1 <| aPt s0 <| aPt l1 <| s1
  refine gI ?_
  exact oF (zO (by simp [cG, iE]) (aGU G hr' rfl))
theorem rJ (G : aG) (k : Nat) (c : Int) (f : FL) : bJ.f G (k + 1) [I6 c, f.a] [] = some (.bool (jF c f), []) := by
 obtain ⟨n, z, cc, v⟩ := f
 rw [bJ.step]
 unfold bJ.c jF FL.a
 have i1 : jG 4 1 (.rp false (.agg [.bool n, .bool z, .bool cc, .bool v]) 0) (.int .i64 1) = some (.rp false (.agg [.bool n, .bool z, .bool cc, .bool v]) 1) := rfl
 have i2 : jG 4 1 (.rp false (.agg [.bool n, .bool z, .bool cc, .bool v]) 0) (.int .i64 2) = some (.rp false (.agg [.bool n, .bool z, .bool cc, .bool v]) 2) := rfl
 refine eO ?_
 simp only
 cases z <;> cases cc
 all_goals (
  repeat' first
   | (with_reducible first | refine eT ?_ | refine eN ?_ | refine eS ?_ | refine eXn ?_ | refine eXr ?_ | refine eX ?_ | refine eI ?_ | refine eK ?_ | refine eV0 ?_ | refine sL ?_ | refine sO ?_ | refine sI ?_ | refine sN ?_ | refine sJ ?_ | refine sK ?_)
   | ((with_reducible apply eCn); (simp only [dX, dW]; first | done | (with_reducible exact rfl)))
   | ((with_reducible apply eJ); (rfl))
   | ((with_reducible apply sM); (first | rfl | (simp only [dX, dW]; rfl)))
   | ((with_reducible apply eB); (first | (with_reducible exact rfl) | (simp (disch := omega) only [qf, i1, i2]; first | done | (with_reducible exact rfl) | (with_reducible exact ⟨rfl, rfl⟩)) | (simp (disch := omega) only [qa, jP, AV.cells, fH, bA, kX, fK, fM, kL, Nat.reduceLeDiff, Nat.reduceLT, Nat.reduceAdd, ↓reduceIte, i1, i2]; first | done | (with_reducible exact rfl) | (with_reducible exact ⟨rfl, rfl⟩))))
   | ((with_reducible apply eR); (simp only [dX, dW]; (with_reducible exact rfl)))
   | ((with_reducible first | refine tG ?_ ?_ | refine tL ?_ ?_ | refine tK ?_ ?_ | refine tJ ?_ ?_ | refine tI ?_ ?_ | refine tH ?_ ?_ | refine tM ?_ ?_ | refine oG ?_ ?_ | refine sGd ?_ ?_ | refine nY ?_ ?_) <;> intro hq <;> try subst hq)
  all_goals (refine qT ?_; simp (disch := omega) only [if_pos, if_neg, if_true, Bool.false_eq_true, if_false, ↓reduceIte]; try rfl))
theorem iQ (P : Program) (t : Nat) (c : Bool) {x : Int} (h0 : 0 ≤ x) (h1 : x < 9223372036854775808) : aQ P .and t c (I6 x) (.int .i64 63) = some (I6 (x % 64)) := by
 obtain ⟨X, rfl⟩ : ∃ X : Nat, x = X := ⟨x.toNat, by omega⟩
 rw [oR]
 show some (AV.int .i64 (IntKind.i64.wrap ((BitVec.ofInt 64 (X : Int) &&& BitVec.ofInt 64 (63 : Int)).toNat : Int))) = _
 have e1 : (BitVec.ofInt 64 (X : Int)).toNat = X := mC X (by omega)
 have e2 : (BitVec.ofInt 64 (63 : Int)).toNat = 2 ^ 6 - 1 := by decide
 rw [BitVec.toNat_and, e1, e2, Nat.and_two_pow_sub_one_eq_mod, fP (by omega) (by omega)]
 rfl
def jN (r : List Nat) (f : FL) : aF := [⟨44, 31, [eD r]⟩, ⟨53, 4, [f.a]⟩]
theorem iI (G : aG) (r : List Nat) (hr : r.length = 31) (f : FL) (b : Bool) : fL [aC G true 31 (.ptr 0 1 0 0) (jN r f), aC G true 4 (.ptr 1 1 0 0) (jN r f), some (.bool b)] 0 (jN r f) = some (.ret, [pF (r, f, b)], []) := by
 have e1 := aGU G (j := 0) (H := jN r f) hr rfl
 have e2 : aC G true 4 (.ptr 1 1 0 0) (jN r f) = some f.a := rfl
 unfold fL
 rw [e1, e2]
 exact aEC (by simp [cG, iE]) rfl rfl _
theorem iU (r : List Nat) (hr : r.length = 31) (j : Int) (x : Nat) : (fT r j x).length = 31 := by
 unfold fT; split
 ·exact hr
 ·rw [List.length_set]; exact hr
theorem aMN (G : aG) (k : Nat) (d n m a imm : Int) (hw : aU ⟨1, d, n, m, a, imm⟩ = true) (r : List Nat) (hr : RgOk r) (f : FL) :
  aL.f G (k + 7) [mV 1 d n m a imm, eD r, f.a] [] = some (pF ((cY ⟨1, d, n, m, a, imm⟩ r f).1, (cY ⟨1, d, n, m, a, imm⟩ r f).2, true), []) := by
 have r1 : ∀ H, aE (aH.f G (k + 6)) [mV 1 d n m a imm] H = _ := fun H => aD (H := H) (gR G k ⟨1, d, n, m, a, imm⟩) rfl rfl
 rw [hw] at r1
 obtain ⟨_, hd, hn, hm, ha, hf⟩ := iY hw
 have himm : 0 ≤ imm ∧ imm < 65536 := by
  unfold aU at hw
  rw [Bool.and_eq_true] at hw
  obtain ⟨_, h⟩ := hw
  simp [aO, eQ, gC, dL, gL, eU, dM] at h
  omega
 simp only at hd hn hm ha hf
 clear hw
 have ld := hr.get d
 have ln := hr.get n
 have lm := hr.get m
 have la := hr.get a
 have g : ∀ j, 0 ≤ j → j ≤ 31 → ∀ H, aE (aV.f G (k + 6)) [eD r, I6 j] H = some (Un (cK r j), H) := fun j h0 h1 H => aD (H := H) (iF G (k + 5) r hr.len j h0 h1) (by simp [eE, bC, gO]) rfl
 have g1 := g d hd.1 hd.2
 have g2 := g n hn.1 hn.2
 have g3 := g m hm.1 hm.2
 have g4 := g a ha.1 ha.2
 clear g
 have st : ∀ x H, aE (aW.f G (k + 6)) [eD r, I6 d, Un x] H = some (eD (fT r d x), H) := fun x H => aD (H := H) (iG G (k + 5) r hr.len d hd.1 hd.2 x) (by simp [eE, bC, gO]) (by simp [fS, kE])
 obtain ⟨ki, hki⟩ : ∃ z, z = u64 imm := ⟨_, rfl⟩
 have hkl : ki < 18446744073709551616 := by rw [hki]; exact iW _
 have hkv : (ki : Int) = imm := by rw [hki]; unfold u64; omega
 have k1 : aJ .u64 (I6 imm) = some (Un ki) := by rw [gX, hki]
 have k2 : aQ Tryd.prog .and 3 true (I6 imm) (.int .i64 63) = some (I6 (imm % 64)) := iQ _ _ _ (by omega) (by omega)
 obtain ⟨kj, hkj⟩ : ∃ z : Nat, (z : Int) = imm % 64 := ⟨(imm % 64).toNat, by omega⟩
 rw [← hkj] at k2
 have k3 : aJ .u64 (Nn kj) = some (Un kj) := by rw [eW, fA (by omega) (by omega)]
 have ed : cY ⟨1, d, n, m, a, imm⟩ r f = (fT r d (u64 imm * 2 ^ (16 * a).toNat % 18446744073709551616), f) := by
  unfold cY jB
  simp only [Int.reduceEq, or_false, false_or, or_self, or_true, true_or, if_false, if_true, ↓reduceIte]
 rw [ed]
 clear ed
 simp only
 try rw [← hki]
 generalize cK r d = rd at *
 generalize cK r n = rn at *
 generalize cK r m = rm at *
 generalize cK r a = ra at *
 obtain ⟨a0, a3⟩ := hf.1 (by omega)
 obtain ⟨s, hs⟩ : ∃ s : Nat, s = (16 * a).toNat := ⟨_, rfl⟩
 have e16 : aQ Tryd.prog .mul 3 true (.int .i64 16) (I6 a) = some (Nn s) := by
  rw [yH, fP (by omega) (by omega)]; congr 2; omega
 rw [← hs]
 have e17 : aJ .u64 (Nn s) = some (Un s) := by rw [eW, fA (by omega) (by omega)]
 have k17 := vS Tryd.prog 43 false .u64 ki s (by omega)
 clear hs
 generalize ki * 2 ^ s % 18446744073709551616 = xx at *
 rw [aL.step]
 unfold aL.c
 rw [kM, jX]
 have hZ : (List.replicate 31 0 : List Nat).length = 31 := rfl
 have z1 : eZ 1 (bV (List.replicate 31 0)) [] = some (eD (List.replicate 31 0)) := rfl
 have z2 : eZ 1 [.bool false, .bool false, .bool false, .bool false] [] = some jD.a := rfl
 have b1 : fF 44 (eD (List.replicate 31 0)) [] = some (.ptr 0 1 0 0, [⟨44, 31, [eD (List.replicate 31 0)]⟩]) := lR _ rfl []
 have b2 : fF 53 (.agg [.bool false, .bool false, .bool false, .bool false]) [⟨44, 31, [eD (List.replicate 31 0)]⟩] = some (.ptr 1 1 0 0, jN (List.replicate 31 0) jD) := rfl
 generalize List.replicate 31 0 = Z at *
 have c0 : ∀ H, dP (eD r) H = some (.rp false (eD r) 0, H) := fun H => rfl
 have c1 : ∀ H, dP f.a H = some (.rp false f.a 0, H) := fun H => rfl
 have c2 : ∀ H, aC G true 31 (.rp false (eD r) 0) H = some (eD r) := fun H => by
  rw [jK, if_pos (by rw [bL, hr.len]; exact Nat.le_refl _), List.drop_zero, List.take_of_length_le (by rw [bL, hr.len]; exact Nat.le_refl _)]
 have c3 : ∀ H, aC G true 4 (.rp false f.a 0) H = some f.a := fun H => rfl
 have c4 : ∀ q : List Nat, q.length = 31 → fB (aN 31 (.ptr 0 1 0 0) (eD q) (jN Z jD)) = some (.tup [], jN q jD) := fun q hq => lU hq hZ rfl
 have c5 : ∀ (q : List Nat) (g : FL), fB (aN 4 (.ptr 1 1 0 0) g.a (jN q jD)) = some (.tup [], jN q g) := fun q g => rfl
 have st' := st xx
 have hq := iU r hr.len d xx
 generalize fT r d xx = q at *
 have c4' := c4 q hq
 have c5' := c5 q f
 refine eO ?_
 have fx := aPt r1 <| aPt g1 <| aPt g2 <| aPt g3 <| aPt g4 <| aPt k1 <| aPt k2 <| aPt k3 <| aPt b1 <| aPt b2 <| aPt c0 <| aPt c1 <| aPt c2 <| aPt c3 <| aPt z1 <| aPt z2 <| aPt e16 <| aPt e17 <| aPt k17 <| aPt st' <| aPt c4' <| c5'
 refine kN ?_
 exact oF (iI G q hq f true)
theorem aMO (G : aG) (k : Nat) (d n m a imm : Int) (hw : aU ⟨2, d, n, m, a, imm⟩ = true) (r : List Nat) (hr : RgOk r) (f : FL) :
  aL.f G (k + 7) [mV 2 d n m a imm, eD r, f.a] [] = some (pF ((cY ⟨2, d, n, m, a, imm⟩ r f).1, (cY ⟨2, d, n, m, a, imm⟩ r f).2, true), []) := by
 have r1 : ∀ H, aE (aH.f G (k + 6)) [mV 2 d n m a imm] H = _ := fun H => aD (H := H) (gR G k ⟨2, d, n, m, a, imm⟩) rfl rfl
 rw [hw] at r1
 obtain ⟨_, hd, hn, hm, ha, hf⟩ := iY hw
 have himm : 0 ≤ imm ∧ imm < 65536 := by
  unfold aU at hw
  rw [Bool.and_eq_true] at hw
  obtain ⟨_, h⟩ := hw
  simp [aO, eQ, gC, dL, gL, eU, dM] at h
  omega
 simp only at hd hn hm ha hf
 clear hw
 have ld := hr.get d
 have ln := hr.get n
 have lm := hr.get m
 have la := hr.get a
 have g : ∀ j, 0 ≤ j → j ≤ 31 → ∀ H, aE (aV.f G (k + 6)) [eD r, I6 j] H = some (Un (cK r j), H) := fun j h0 h1 H => aD (H := H) (iF G (k + 5) r hr.len j h0 h1) (by simp [eE, bC, gO]) rfl
 have g1 := g d hd.1 hd.2
 have g2 := g n hn.1 hn.2
 have g3 := g m hm.1 hm.2
 have g4 := g a ha.1 ha.2
 clear g
 have st : ∀ x H, aE (aW.f G (k + 6)) [eD r, I6 d, Un x] H = some (eD (fT r d x), H) := fun x H => aD (H := H) (iG G (k + 5) r hr.len d hd.1 hd.2 x) (by simp [eE, bC, gO]) (by simp [fS, kE])
 obtain ⟨ki, hki⟩ : ∃ z, z = u64 imm := ⟨_, rfl⟩
 have hkl : ki < 18446744073709551616 := by rw [hki]; exact iW _
 have hkv : (ki : Int) = imm := by rw [hki]; unfold u64; omega
 have k1 : aJ .u64 (I6 imm) = some (Un ki) := by rw [gX, hki]
 have k2 : aQ Tryd.prog .and 3 true (I6 imm) (.int .i64 63) = some (I6 (imm % 64)) := iQ _ _ _ (by omega) (by omega)
 obtain ⟨kj, hkj⟩ : ∃ z : Nat, (z : Int) = imm % 64 := ⟨(imm % 64).toNat, by omega⟩
 rw [← hkj] at k2
 have k3 : aJ .u64 (Nn kj) = some (Un kj) := by rw [eW, fA (by omega) (by omega)]
 have ed : cY ⟨2, d, n, m, a, imm⟩ r f = (fT r d (oD (cK r d) (u64 imm) (16 * a).toNat), f) := by
  unfold cY jB
  simp only [Int.reduceEq, or_false, false_or, or_self, or_true, true_or, if_false, if_true, ↓reduceIte]
 rw [ed]
 clear ed
 simp only
 try rw [← hki]
 generalize cK r d = rd at *
 generalize cK r n = rn at *
 generalize cK r m = rm at *
 generalize cK r a = ra at *
 obtain ⟨a0, a3⟩ := hf.1 (by omega)
 obtain ⟨s, hs⟩ : ∃ s : Nat, s = (16 * a).toNat := ⟨_, rfl⟩
 have e16 : aQ Tryd.prog .mul 3 true (.int .i64 16) (I6 a) = some (Nn s) := by
  rw [yH, fP (by omega) (by omega)]; congr 2; omega
 rw [← hs]
 have e17 : aJ .u64 (Nn s) = some (Un s) := by rw [eW, fA (by omega) (by omega)]
 have k17 := vS Tryd.prog 43 false .u64 ki s (by omega)
 have k18 : aQ Tryd.prog .shl 43 true (.int .u64 65535) (Un s) = some (Un (65535 * 2 ^ s % 18446744073709551616)) := vS Tryd.prog 43 true .u64 65535 s (by omega)
 have k19 := aEu Tryd.prog 43 false .u64 (rd : Int) ((65535 * 2 ^ s % 18446744073709551616 : Nat) : Int)
 have k20 : aQ Tryd.prog .or 43 false (.int .u64 (bits .andNot .u64 (rd : Int) ((65535 * 2 ^ s % 18446744073709551616 : Nat) : Int))) (Un (ki * 2 ^ s % 18446744073709551616)) = some (Un (oD rd ki s)) := by
  rw [aBU]
  unfold oD
  have hb : ∀ p q : Int, 0 ≤ bits .or .u64 p q ∧ bits .or .u64 p q < 18446744073709551616 := fun p q => by
   show 0 ≤ IntKind.u64.wrap _ ∧ IntKind.u64.wrap _ < _
   rw [nG]; omega
  have := hb (bits .andNot .u64 (rd : Int) ((65535 * 2 ^ s % 18446744073709551616 : Nat) : Int)) ((ki * 2 ^ s % 18446744073709551616 : Nat) : Int)
  congr 2
  unfold u64
  omega
 clear hs
 generalize ki * 2 ^ s % 18446744073709551616 = z1' at *
 generalize 65535 * 2 ^ s % 18446744073709551616 = z2' at *
 generalize oD rd ki s = xx at *
 generalize bits .andNot .u64 (rd : Int) (z2' : Int) = z4' at *
 rw [aL.step]
 unfold aL.c
 rw [kM, jX]
 have hZ : (List.replicate 31 0 : List Nat).length = 31 := rfl
 have z1 : eZ 1 (bV (List.replicate 31 0)) [] = some (eD (List.replicate 31 0)) := rfl
 have z2 : eZ 1 [.bool false, .bool false, .bool false, .bool false] [] = some jD.a := rfl
 have b1 : fF 44 (eD (List.replicate 31 0)) [] = some (.ptr 0 1 0 0, [⟨44, 31, [eD (List.replicate 31 0)]⟩]) := lR _ rfl []
 have b2 : fF 53 (.agg [.bool false, .bool false, .bool false, .bool false]) [⟨44, 31, [eD (List.replicate 31 0)]⟩] = some (.ptr 1 1 0 0, jN (List.replicate 31 0) jD) := rfl
 generalize List.replicate 31 0 = Z at *
 have c0 : ∀ H, dP (eD r) H = some (.rp false (eD r) 0, H) := fun H => rfl
 have c1 : ∀ H, dP f.a H = some (.rp false f.a 0, H) := fun H => rfl
 have c2 : ∀ H, aC G true 31 (.rp false (eD r) 0) H = some (eD r) := fun H => by
  rw [jK, if_pos (by rw [bL, hr.len]; exact Nat.le_refl _), List.drop_zero, List.take_of_length_le (by rw [bL, hr.len]; exact Nat.le_refl _)]
 have c3 : ∀ H, aC G true 4 (.rp false f.a 0) H = some f.a := fun H => rfl
 have c4 : ∀ q : List Nat, q.length = 31 → fB (aN 31 (.ptr 0 1 0 0) (eD q) (jN Z jD)) = some (.tup [], jN q jD) := fun q hq => lU hq hZ rfl
 have c5 : ∀ (q : List Nat) (g : FL), fB (aN 4 (.ptr 1 1 0 0) g.a (jN q jD)) = some (.tup [], jN q g) := fun q g => rfl
 have st' := st xx
 have hq := iU r hr.len d xx
 generalize fT r d xx = q at *
 have c4' := c4 q hq
 have c5' := c5 q f
 refine eO ?_
 have fx := aPt r1 <| aPt g1 <| aPt g2 <| aPt g3 <| aPt g4 <| aPt k1 <| aPt k2 <| aPt k3 <| aPt b1 <| aPt b2 <| aPt c0 <| aPt c1 <| aPt c2 <| aPt c3 <| aPt z1 <| aPt z2 <| aPt e16 <| aPt e17 <| aPt k17 <| aPt k18 <| aPt k19 <| aPt k20 <| aPt st' <| aPt c4' <| c5'
 refine kN ?_
 exact oF (iI G q hq f true)
theorem aMP (G : aG) (k : Nat) (d n m a imm : Int) (hw : aU ⟨3, d, n, m, a, imm⟩ = true) (r : List Nat) (hr : RgOk r) (f : FL) :
  aL.f G (k + 7) [mV 3 d n m a imm, eD r, f.a] [] = some (pF ((cY ⟨3, d, n, m, a, imm⟩ r f).1, (cY ⟨3, d, n, m, a, imm⟩ r f).2, true), []) := by
 have r1 : ∀ H, aE (aH.f G (k + 6)) [mV 3 d n m a imm] H = _ := fun H => aD (H := H) (gR G k ⟨3, d, n, m, a, imm⟩) rfl rfl
 rw [hw] at r1
 obtain ⟨_, hd, hn, hm, ha, hf⟩ := iY hw
 have himm : 0 ≤ imm ∧ imm < 65536 := by
  unfold aU at hw
  rw [Bool.and_eq_true] at hw
  obtain ⟨_, h⟩ := hw
  simp [aO, eQ, gC, dL, gL, eU, dM] at h
  omega
 simp only at hd hn hm ha hf
 clear hw
 have ld := hr.get d
 have ln := hr.get n
 have lm := hr.get m
 have la := hr.get a
 have g : ∀ j, 0 ≤ j → j ≤ 31 → ∀ H, aE (aV.f G (k + 6)) [eD r, I6 j] H = some (Un (cK r j), H) := fun j h0 h1 H => aD (H := H) (iF G (k + 5) r hr.len j h0 h1) (by simp [eE, bC, gO]) rfl
 have g1 := g d hd.1 hd.2
 have g2 := g n hn.1 hn.2
 have g3 := g m hm.1 hm.2
 have g4 := g a ha.1 ha.2
 clear g
 have st : ∀ x H, aE (aW.f G (k + 6)) [eD r, I6 d, Un x] H = some (eD (fT r d x), H) := fun x H => aD (H := H) (iG G (k + 5) r hr.len d hd.1 hd.2 x) (by simp [eE, bC, gO]) (by simp [fS, kE])
 obtain ⟨ki, hki⟩ : ∃ z, z = u64 imm := ⟨_, rfl⟩
 have hkl : ki < 18446744073709551616 := by rw [hki]; exact iW _
 have hkv : (ki : Int) = imm := by rw [hki]; unfold u64; omega
 have k1 : aJ .u64 (I6 imm) = some (Un ki) := by rw [gX, hki]
 have k2 : aQ Tryd.prog .and 3 true (I6 imm) (.int .i64 63) = some (I6 (imm % 64)) := iQ _ _ _ (by omega) (by omega)
 obtain ⟨kj, hkj⟩ : ∃ z : Nat, (z : Int) = imm % 64 := ⟨(imm % 64).toNat, by omega⟩
 rw [← hkj] at k2
 have k3 : aJ .u64 (Nn kj) = some (Un kj) := by rw [eW, fA (by omega) (by omega)]
 have ed : cY ⟨3, d, n, m, a, imm⟩ r f = (fT r d ((cK r n + cK r m) % 18446744073709551616), f) := by
  unfold cY jB
  simp only [Int.reduceEq, or_false, false_or, or_self, or_true, true_or, if_false, if_true, ↓reduceIte]
 rw [ed]
 clear ed
 simp only
 try rw [← hki]
 generalize cK r d = rd at *
 generalize cK r n = rn at *
 generalize cK r m = rm at *
 generalize cK r a = ra at *
 have o1 := qH Tryd.prog 43 false rn rm
 generalize (rn + rm) % 18446744073709551616 = xx at *
 rw [aL.step]
 unfold aL.c
 rw [kM, jX]
 have hZ : (List.replicate 31 0 : List Nat).length = 31 := rfl
 have z1 : eZ 1 (bV (List.replicate 31 0)) [] = some (eD (List.replicate 31 0)) := rfl
 have z2 : eZ 1 [.bool false, .bool false, .bool false, .bool false] [] = some jD.a := rfl
 have b1 : fF 44 (eD (List.replicate 31 0)) [] = some (.ptr 0 1 0 0, [⟨44, 31, [eD (List.replicate 31 0)]⟩]) := lR _ rfl []
 have b2 : fF 53 (.agg [.bool false, .bool false, .bool false, .bool false]) [⟨44, 31, [eD (List.replicate 31 0)]⟩] = some (.ptr 1 1 0 0, jN (List.replicate 31 0) jD) := rfl
 generalize List.replicate 31 0 = Z at *
 have c0 : ∀ H, dP (eD r) H = some (.rp false (eD r) 0, H) := fun H => rfl
 have c1 : ∀ H, dP f.a H = some (.rp false f.a 0, H) := fun H => rfl
 have c2 : ∀ H, aC G true 31 (.rp false (eD r) 0) H = some (eD r) := fun H => by
  rw [jK, if_pos (by rw [bL, hr.len]; exact Nat.le_refl _), List.drop_zero, List.take_of_length_le (by rw [bL, hr.len]; exact Nat.le_refl _)]
 have c3 : ∀ H, aC G true 4 (.rp false f.a 0) H = some f.a := fun H => rfl
 have c4 : ∀ q : List Nat, q.length = 31 → fB (aN 31 (.ptr 0 1 0 0) (eD q) (jN Z jD)) = some (.tup [], jN q jD) := fun q hq => lU hq hZ rfl
 have c5 : ∀ (q : List Nat) (g : FL), fB (aN 4 (.ptr 1 1 0 0) g.a (jN q jD)) = some (.tup [], jN q g) := fun q g => rfl
 have st' := st xx
 have hq := iU r hr.len d xx
 generalize fT r d xx = q at *
 have c4' := c4 q hq
 have c5' := c5 q f
 refine eO ?_
 have fx := aPt r1 <| aPt g1 <| aPt g2 <| aPt g3 <| aPt g4 <| aPt k1 <| aPt k2 <| aPt k3 <| aPt b1 <| aPt b2 <| aPt c0 <| aPt c1 <| aPt c2 <| aPt c3 <| aPt z1 <| aPt z2 <| aPt o1 <| aPt st' <| aPt c4' <| c5'
 refine kN ?_
 exact oF (iI G q hq f true)
theorem aMQ (G : aG) (k : Nat) (d n m a imm : Int) (hw : aU ⟨4, d, n, m, a, imm⟩ = true) (r : List Nat) (hr : RgOk r) (f : FL) :
  aL.f G (k + 7) [mV 4 d n m a imm, eD r, f.a] [] = some (pF ((cY ⟨4, d, n, m, a, imm⟩ r f).1, (cY ⟨4, d, n, m, a, imm⟩ r f).2, true), []) := by
 have r1 : ∀ H, aE (aH.f G (k + 6)) [mV 4 d n m a imm] H = _ := fun H => aD (H := H) (gR G k ⟨4, d, n, m, a, imm⟩) rfl rfl
 rw [hw] at r1
 obtain ⟨_, hd, hn, hm, ha, hf⟩ := iY hw
 have himm : 0 ≤ imm ∧ imm < 65536 := by
  unfold aU at hw
  rw [Bool.and_eq_true] at hw
  obtain ⟨_, h⟩ := hw
  simp [aO, eQ, gC, dL, gL, eU, dM] at h
  omega
 simp only at hd hn hm ha hf
 clear hw
 have ld := hr.get d
 have ln := hr.get n
 have lm := hr.get m
 have la := hr.get a
 have g : ∀ j, 0 ≤ j → j ≤ 31 → ∀ H, aE (aV.f G (k + 6)) [eD r, I6 j] H = some (Un (cK r j), H) := fun j h0 h1 H => aD (H := H) (iF G (k + 5) r hr.len j h0 h1) (by simp [eE, bC, gO]) rfl
 have g1 := g d hd.1 hd.2
 have g2 := g n hn.1 hn.2
 have g3 := g m hm.1 hm.2
 have g4 := g a ha.1 ha.2
 clear g
 have st : ∀ x H, aE (aW.f G (k + 6)) [eD r, I6 d, Un x] H = some (eD (fT r d x), H) := fun x H => aD (H := H) (iG G (k + 5) r hr.len d hd.1 hd.2 x) (by simp [eE, bC, gO]) (by simp [fS, kE])
 obtain ⟨ki, hki⟩ : ∃ z, z = u64 imm := ⟨_, rfl⟩
 have hkl : ki < 18446744073709551616 := by rw [hki]; exact iW _
 have hkv : (ki : Int) = imm := by rw [hki]; unfold u64; omega
 have k1 : aJ .u64 (I6 imm) = some (Un ki) := by rw [gX, hki]
 have k2 : aQ Tryd.prog .and 3 true (I6 imm) (.int .i64 63) = some (I6 (imm % 64)) := iQ _ _ _ (by omega) (by omega)
 obtain ⟨kj, hkj⟩ : ∃ z : Nat, (z : Int) = imm % 64 := ⟨(imm % 64).toNat, by omega⟩
 rw [← hkj] at k2
 have k3 : aJ .u64 (Nn kj) = some (Un kj) := by rw [eW, fA (by omega) (by omega)]
 have ed : cY ⟨4, d, n, m, a, imm⟩ r f = (fT r d ((cK r n + 18446744073709551616 - cK r m) % 18446744073709551616), f) := by
  unfold cY jB
  simp only [Int.reduceEq, or_false, false_or, or_self, or_true, true_or, if_false, if_true, ↓reduceIte]
 rw [ed]
 clear ed
 simp only
 try rw [← hki]
 generalize cK r d = rd at *
 generalize cK r n = rn at *
 generalize cK r m = rm at *
 generalize cK r a = ra at *
 have o1 := yU Tryd.prog 43 false rn rm lm
 generalize (rn + 18446744073709551616 - rm) % 18446744073709551616 = xx at *
 rw [aL.step]
 unfold aL.c
 rw [kM, jX]
 have hZ : (List.replicate 31 0 : List Nat).length = 31 := rfl
 have z1 : eZ 1 (bV (List.replicate 31 0)) [] = some (eD (List.replicate 31 0)) := rfl
 have z2 : eZ 1 [.bool false, .bool false, .bool false, .bool false] [] = some jD.a := rfl
 have b1 : fF 44 (eD (List.replicate 31 0)) [] = some (.ptr 0 1 0 0, [⟨44, 31, [eD (List.replicate 31 0)]⟩]) := lR _ rfl []
 have b2 : fF 53 (.agg [.bool false, .bool false, .bool false, .bool false]) [⟨44, 31, [eD (List.replicate 31 0)]⟩] = some (.ptr 1 1 0 0, jN (List.replicate 31 0) jD) := rfl
 generalize List.replicate 31 0 = Z at *
 have c0 : ∀ H, dP (eD r) H = some (.rp false (eD r) 0, H) := fun H => rfl
 have c1 : ∀ H, dP f.a H = some (.rp false f.a 0, H) := fun H => rfl
 have c2 : ∀ H, aC G true 31 (.rp false (eD r) 0) H = some (eD r) := fun H => by
  rw [jK, if_pos (by rw [bL, hr.len]; exact Nat.le_refl _), List.drop_zero, List.take_of_length_le (by rw [bL, hr.len]; exact Nat.le_refl _)]
 have c3 : ∀ H, aC G true 4 (.rp false f.a 0) H = some f.a := fun H => rfl
 have c4 : ∀ q : List Nat, q.length = 31 → fB (aN 31 (.ptr 0 1 0 0) (eD q) (jN Z jD)) = some (.tup [], jN q jD) := fun q hq => lU hq hZ rfl
 have c5 : ∀ (q : List Nat) (g : FL), fB (aN 4 (.ptr 1 1 0 0) g.a (jN q jD)) = some (.tup [], jN q g) := fun q g => rfl
 have st' := st xx
 have hq := iU r hr.len d xx
 generalize fT r d xx = q at *
 have c4' := c4 q hq
 have c5' := c5 q f
 refine eO ?_
 have fx := aPt r1 <| aPt g1 <| aPt g2 <| aPt g3 <| aPt g4 <| aPt k1 <| aPt k2 <| aPt k3 <| aPt b1 <| aPt b2 <| aPt c0 <| aPt c1 <| aPt c2 <| aPt c3 <| aPt z1 <| aPt z2 <| aPt o1 <| aPt st' <| aPt c4' <| c5'
 refine kN ?_
 exact oF (iI G q hq f true)
theorem aMR (G : aG) (k : Nat) (d n m a imm : Int) (hw : aU ⟨5, d, n, m, a, imm⟩ = true) (r : List Nat) (hr : RgOk r) (f : FL) :
  aL.f G (k + 7) [mV 5 d n m a imm, eD r, f.a] [] = some (pF ((cY ⟨5, d, n, m, a, imm⟩ r f).1, (cY ⟨5, d, n, m, a, imm⟩ r f).2, true), []) := by
 have r1 : ∀ H, aE (aH.f G (k + 6)) [mV 5 d n m a imm] H = _ := fun H => aD (H := H) (gR G k ⟨5, d, n, m, a, imm⟩) rfl rfl
 rw [hw] at r1
 obtain ⟨_, hd, hn, hm, ha, hf⟩ := iY hw
 have himm : 0 ≤ imm ∧ imm < 65536 := by
  unfold aU at hw
  rw [Bool.and_eq_true] at hw
  obtain ⟨_, h⟩ := hw
  simp [aO, eQ, gC, dL, gL, eU, dM] at h
  omega
 simp only at hd hn hm ha hf
 clear hw
 have ld := hr.get d
 have ln := hr.get n
 have lm := hr.get m
 have la := hr.get a
 have g : ∀ j, 0 ≤ j → j ≤ 31 → ∀ H, aE (aV.f G (k + 6)) [eD r, I6 j] H = some (Un (cK r j), H) := fun j h0 h1 H => aD (H := H) (iF G (k + 5) r hr.len j h0 h1) (by simp [eE, bC, gO]) rfl
 have g1 := g d hd.1 hd.2
 have g2 := g n hn.1 hn.2
 have g3 := g m hm.1 hm.2
 have g4 := g a ha.1 ha.2
 clear g
 have st : ∀ x H, aE (aW.f G (k + 6)) [eD r, I6 d, Un x] H = some (eD (fT r d x), H) := fun x H => aD (H := H) (iG G (k + 5) r hr.len d hd.1 hd.2 x) (by simp [eE, bC, gO]) (by simp [fS, kE])
 obtain ⟨ki, hki⟩ : ∃ z, z = u64 imm := ⟨_, rfl⟩
 have hkl : ki < 18446744073709551616 := by rw [hki]; exact iW _
 have hkv : (ki : Int) = imm := by rw [hki]; unfold u64; omega
 have k1 : aJ .u64 (I6 imm) = some (Un ki) := by rw [gX, hki]
 have k2 : aQ Tryd.prog .and 3 true (I6 imm) (.int .i64 63) = some (I6 (imm % 64)) := iQ _ _ _ (by omega) (by omega)
 obtain ⟨kj, hkj⟩ : ∃ z : Nat, (z : Int) = imm % 64 := ⟨(imm % 64).toNat, by omega⟩
 rw [← hkj] at k2
 have k3 : aJ .u64 (Nn kj) = some (Un kj) := by rw [eW, fA (by omega) (by omega)]
 have ed : cY ⟨5, d, n, m, a, imm⟩ r f = (fT r d (cK r n &&& cK r m), f) := by
  unfold cY jB
  simp only [Int.reduceEq, or_false, false_or, or_self, or_true, true_or, if_false, if_true, ↓reduceIte]
 rw [ed]
 clear ed
 simp only
 try rw [← hki]
 generalize cK r d = rd at *
 generalize cK r n = rn at *
 generalize cK r m = rm at *
 generalize cK r a = ra at *
 have o1 : aQ Tryd.prog .and 43 false (Un rn) (Un rm) = some (Un (rn &&& rm)) := by rw [oR, vQ rn rm ln lm]
 generalize rn &&& rm = xx at *
 rw [aL.step]
 unfold aL.c
 rw [kM, jX]
 have hZ : (List.replicate 31 0 : List Nat).length = 31 := rfl
 have z1 : eZ 1 (bV (List.replicate 31 0)) [] = some (eD (List.replicate 31 0)) := rfl
 have z2 : eZ 1 [.bool false, .bool false, .bool false, .bool false] [] = some jD.a := rfl
 have b1 : fF 44 (eD (List.replicate 31 0)) [] = some (.ptr 0 1 0 0, [⟨44, 31, [eD (List.replicate 31 0)]⟩]) := lR _ rfl []
 have b2 : fF 53 (.agg [.bool false, .bool false, .bool false, .bool false]) [⟨44, 31, [eD (List.replicate 31 0)]⟩] = some (.ptr 1 1 0 0, jN (List.replicate 31 0) jD) := rfl
 generalize List.replicate 31 0 = Z at *
 have c0 : ∀ H, dP (eD r) H = some (.rp false (eD r) 0, H) := fun H => rfl
 have c1 : ∀ H, dP f.a H = some (.rp false f.a 0, H) := fun H => rfl
 have c2 : ∀ H, aC G true 31 (.rp false (eD r) 0) H = some (eD r) := fun H => by
  rw [jK, if_pos (by rw [bL, hr.len]; exact Nat.le_refl _), List.drop_zero, List.take_of_length_le (by rw [bL, hr.len]; exact Nat.le_refl _)]
 have c3 : ∀ H, aC G true 4 (.rp false f.a 0) H = some f.a := fun H => rfl
 have c4 : ∀ q : List Nat, q.length = 31 → fB (aN 31 (.ptr 0 1 0 0) (eD q) (jN Z jD)) = some (.tup [], jN q jD) := fun q hq => lU hq hZ rfl
 have c5 : ∀ (q : List Nat) (g : FL), fB (aN 4 (.ptr 1 1 0 0) g.a (jN q jD)) = some (.tup [], jN q g) := fun q g => rfl
 have st' := st xx
 have hq := iU r hr.len d xx
 generalize fT r d xx = q at *
 have c4' := c4 q hq
 have c5' := c5 q f
 refine eO ?_
 have fx := aPt r1 <| aPt g1 <| aPt g2 <| aPt g3 <| aPt g4 <| aPt k1 <| aPt k2 <| aPt k3 <| aPt b1 <| aPt b2 <| aPt c0 <| aPt c1 <| aPt c2 <| aPt c3 <| aPt z1 <| aPt z2 <| aPt o1 <| aPt st' <| aPt c4' <| c5'
 refine kN ?_
 exact oF (iI G q hq f true)
theorem aMS (G : aG) (k : Nat) (d n m a imm : Int) (hw : aU ⟨6, d, n, m, a, imm⟩ = true) (r : List Nat) (hr : RgOk r) (f : FL) :
  aL.f G (k + 7) [mV 6 d n m a imm, eD r, f.a] [] = some (pF ((cY ⟨6, d, n, m, a, imm⟩ r f).1, (cY ⟨6, d, n, m, a, imm⟩ r f).2, true), []) := by
 have r1 : ∀ H, aE (aH.f G (k + 6)) [mV 6 d n m a imm] H = _ := fun H => aD (H := H) (gR G k ⟨6, d, n, m, a, imm⟩) rfl rfl
 rw [hw] at r1
 obtain ⟨_, hd, hn, hm, ha, hf⟩ := iY hw
 have himm : 0 ≤ imm ∧ imm < 65536 := by
  unfold aU at hw
  rw [Bool.and_eq_true] at hw
  obtain ⟨_, h⟩ := hw
  simp [aO, eQ, gC, dL, gL, eU, dM] at h
  omega
 simp only at hd hn hm ha hf
 clear hw
 have ld := hr.get d
 have ln := hr.get n
 have lm := hr.get m
 have la := hr.get a
 have g : ∀ j, 0 ≤ j → j ≤ 31 → ∀ H, aE (aV.f G (k + 6)) [eD r, I6 j] H = some (Un (cK r j), H) := fun j h0 h1 H => aD (H := H) (iF G (k + 5) r hr.len j h0 h1) (by simp [eE, bC, gO]) rfl
 have g1 := g d hd.1 hd.2
 have g2 := g n hn.1 hn.2
 have g3 := g m hm.1 hm.2
 have g4 := g a ha.1 ha.2
 clear g
 have st : ∀ x H, aE (aW.f G (k + 6)) [eD r, I6 d, Un x] H = some (eD (fT r d x), H) := fun x H => aD (H := H) (iG G (k + 5) r hr.len d hd.1 hd.2 x) (by simp [eE, bC, gO]) (by simp [fS, kE])
 obtain ⟨ki, hki⟩ : ∃ z, z = u64 imm := ⟨_, rfl⟩
 have hkl : ki < 18446744073709551616 := by rw [hki]; exact iW _
 have hkv : (ki : Int) = imm := by rw [hki]; unfold u64; omega
 have k1 : aJ .u64 (I6 imm) = some (Un ki) := by rw [gX, hki]
 have k2 : aQ Tryd.prog .and 3 true (I6 imm) (.int .i64 63) = some (I6 (imm % 64)) := iQ _ _ _ (by omega) (by omega)
 obtain ⟨kj, hkj⟩ : ∃ z : Nat, (z : Int) = imm % 64 := ⟨(imm % 64).toNat, by omega⟩
 rw [← hkj] at k2
 have k3 : aJ .u64 (Nn kj) = some (Un kj) := by rw [eW, fA (by omega) (by omega)]
 have ed : cY ⟨6, d, n, m, a, imm⟩ r f = (fT r d (cK r n ||| cK r m), f) := by
  unfold cY jB
  simp only [Int.reduceEq, or_false, false_or, or_self, or_true, true_or, if_false, if_true, ↓reduceIte]
 rw [ed]
 clear ed
 simp only
 try rw [← hki]
 generalize cK r d = rd at *
 generalize cK r n = rn at *
 generalize cK r m = rm at *
 generalize cK r a = ra at *
 have o1 : aQ Tryd.prog .or 43 false (Un rn) (Un rm) = some (Un (rn ||| rm)) := by rw [aBU, aJj rn rm ln lm]
 generalize rn ||| rm = xx at *
 rw [aL.step]
 unfold aL.c
 rw [kM, jX]
 have hZ : (List.replicate 31 0 : List Nat).length = 31 := rfl
 have z1 : eZ 1 (bV (List.replicate 31 0)) [] = some (eD (List.replicate 31 0)) := rfl
 have z2 : eZ 1 [.bool false, .bool false, .bool false, .bool false] [] = some jD.a := rfl
 have b1 : fF 44 (eD (List.replicate 31 0)) [] = some (.ptr 0 1 0 0, [⟨44, 31, [eD (List.replicate 31 0)]⟩]) := lR _ rfl []
 have b2 : fF 53 (.agg [.bool false, .bool false, .bool false, .bool false]) [⟨44, 31, [eD (List.replicate 31 0)]⟩] = some (.ptr 1 1 0 0, jN (List.replicate 31 0) jD) := rfl
 generalize List.replicate 31 0 = Z at *
 have c0 : ∀ H, dP (eD r) H = some (.rp false (eD r) 0, H) := fun H => rfl
 have c1 : ∀ H, dP f.a H = some (.rp false f.a 0, H) := fun H => rfl
 have c2 : ∀ H, aC G true 31 (.rp false (eD r) 0) H = some (eD r) := fun H => by
  rw [jK, if_pos (by rw [bL, hr.len]; exact Nat.le_refl _), List.drop_zero, List.take_of_length_le (by rw [bL, hr.len]; exact Nat.le_refl _)]
 have c3 : ∀ H, aC G true 4 (.rp false f.a 0) H = some f.a := fun H => rfl
 have c4 : ∀ q : List Nat, q.length = 31 → fB (aN 31 (.ptr 0 1 0 0) (eD q) (jN Z jD)) = some (.tup [], jN q jD) := fun q hq => lU hq hZ rfl
 have c5 : ∀ (q : List Nat) (g : FL), fB (aN 4 (.ptr 1 1 0 0) g.a (jN q jD)) = some (.tup [], jN q g) := fun q g => rfl
 have st' := st xx
 have hq := iU r hr.len d xx
 generalize fT r d xx = q at *
 have c4' := c4 q hq
 have c5' := c5 q f
 refine eO ?_
 have fx := aPt r1 <| aPt g1 <| aPt g2 <| aPt g3 <| aPt g4 <| aPt k1 <| aPt k2 <| aPt k3 <| aPt b1 <| aPt b2 <| aPt c0 <| aPt c1 <| aPt c2 <| aPt c3 <| aPt z1 <| aPt z2 <| aPt o1 <| aPt st' <| aPt c4' <| c5'
 refine kN ?_
 exact oF (iI G q hq f true)
theorem aMT (G : aG) (k : Nat) (d n m a imm : Int) (hw : aU ⟨7, d, n, m, a, imm⟩ = true) (r : List Nat) (hr : RgOk r) (f : FL) :
  aL.f G (k + 7) [mV 7 d n m a imm, eD r, f.a] [] = some (pF ((cY ⟨7, d, n, m, a, imm⟩ r f).1, (cY ⟨7, d, n, m, a, imm⟩ r f).2, true), []) := by
 have r1 : ∀ H, aE (aH.f G (k + 6)) [mV 7 d n m a imm] H = _ := fun H => aD (H := H) (gR G k ⟨7, d, n, m, a, imm⟩) rfl rfl
 rw [hw] at r1
 obtain ⟨_, hd, hn, hm, ha, hf⟩ := iY hw
 have himm : 0 ≤ imm ∧ imm < 65536 := by
  unfold aU at hw
  rw [Bool.and_eq_true] at hw
  obtain ⟨_, h⟩ := hw
  simp [aO, eQ, gC, dL, gL, eU, dM] at h
  omega
 simp only at hd hn hm ha hf
 clear hw
 have ld := hr.get d
 have ln := hr.get n
 have lm := hr.get m
 have la := hr.get a
 have g : ∀ j, 0 ≤ j → j ≤ 31 → ∀ H, aE (aV.f G (k + 6)) [eD r, I6 j] H = some (Un (cK r j), H) := fun j h0 h1 H => aD (H := H) (iF G (k + 5) r hr.len j h0 h1) (by simp [eE, bC, gO]) rfl
 have g1 := g d hd.1 hd.2
 have g2 := g n hn.1 hn.2
 have g3 := g m hm.1 hm.2
 have g4 := g a ha.1 ha.2
 clear g
 have st : ∀ x H, aE (aW.f G (k + 6)) [eD r, I6 d, Un x] H = some (eD (fT r d x), H) := fun x H => aD (H := H) (iG G (k + 5) r hr.len d hd.1 hd.2 x) (by simp [eE, bC, gO]) (by simp [fS, kE])
 obtain ⟨ki, hki⟩ : ∃ z, z = u64 imm := ⟨_, rfl⟩
 have hkl : ki < 18446744073709551616 := by rw [hki]; exact iW _
 have hkv : (ki : Int) = imm := by rw [hki]; unfold u64; omega
 have k1 : aJ .u64 (I6 imm) = some (Un ki) := by rw [gX, hki]
 have k2 : aQ Tryd.prog .and 3 true (I6 imm) (.int .i64 63) = some (I6 (imm % 64)) := iQ _ _ _ (by omega) (by omega)
 obtain ⟨kj, hkj⟩ : ∃ z : Nat, (z : Int) = imm % 64 := ⟨(imm % 64).toNat, by omega⟩
 rw [← hkj] at k2
 have k3 : aJ .u64 (Nn kj) = some (Un kj) := by rw [eW, fA (by omega) (by omega)]
 have ed : cY ⟨7, d, n, m, a, imm⟩ r f = (fT r d (cK r n ^^^ cK r m), f) := by
  unfold cY jB
  simp only [Int.reduceEq, or_false, false_or, or_self, or_true, true_or, if_false, if_true, ↓reduceIte]
 rw [ed]
 clear ed
 simp only
 try rw [← hki]
 generalize cK r d = rd at *
 generalize cK r n = rn at *
 generalize cK r m = rm at *
 generalize cK r a = ra at *
 have o1 : aQ Tryd.prog .xor 43 false (Un rn) (Un rm) = some (Un (rn ^^^ rm)) := by rw [yK, yV rn rm ln lm]
 generalize rn ^^^ rm = xx at *
 rw [aL.step]
 unfold aL.c
 rw [kM, jX]
 have hZ : (List.replicate 31 0 : List Nat).length = 31 := rfl
 have z1 : eZ 1 (bV (List.replicate 31 0)) [] = some (eD (List.replicate 31 0)) := rfl
 have z2 : eZ 1 [.bool false, .bool false, .bool false, .bool false] [] = some jD.a := rfl
 have b1 : fF 44 (eD (List.replicate 31 0)) [] = some (.ptr 0 1 0 0, [⟨44, 31, [eD (List.replicate 31 0)]⟩]) := lR _ rfl []
 have b2 : fF 53 (.agg [.bool false, .bool false, .bool false, .bool false]) [⟨44, 31, [eD (List.replicate 31 0)]⟩] = some (.ptr 1 1 0 0, jN (List.replicate 31 0) jD) := rfl
 generalize List.replicate 31 0 = Z at *
 have c0 : ∀ H, dP (eD r) H = some (.rp false (eD r) 0, H) := fun H => rfl
 have c1 : ∀ H, dP f.a H = some (.rp false f.a 0, H) := fun H => rfl
 have c2 : ∀ H, aC G true 31 (.rp false (eD r) 0) H = some (eD r) := fun H => by
  rw [jK, if_pos (by rw [bL, hr.len]; exact Nat.le_refl _), List.drop_zero, List.take_of_length_le (by rw [bL, hr.len]; exact Nat.le_refl _)]
 have c3 : ∀ H, aC G true 4 (.rp false f.a 0) H = some f.a := fun H => rfl
 have c4 : ∀ q : List Nat, q.length = 31 → fB (aN 31 (.ptr 0 1 0 0) (eD q) (jN Z jD)) = some (.tup [], jN q jD) := fun q hq => lU hq hZ rfl
 have c5 : ∀ (q : List Nat) (g : FL), fB (aN 4 (.ptr 1 1 0 0) g.a (jN q jD)) = some (.tup [], jN q g) := fun q g => rfl
 have st' := st xx
 have hq := iU r hr.len d xx
 generalize fT r d xx = q at *
 have c4' := c4 q hq
 have c5' := c5 q f
 refine eO ?_
 have fx := aPt r1 <| aPt g1 <| aPt g2 <| aPt g3 <| aPt g4 <| aPt k1 <| aPt k2 <| aPt k3 <| aPt b1 <| aPt b2 <| aPt c0 <| aPt c1 <| aPt c2 <| aPt c3 <| aPt z1 <| aPt z2 <| aPt o1 <| aPt st' <| aPt c4' <| c5'
 refine kN ?_
 exact oF (iI G q hq f true)
theorem aMU (G : aG) (k : Nat) (d n m a imm : Int) (hw : aU ⟨8, d, n, m, a, imm⟩ = true) (r : List Nat) (hr : RgOk r) (f : FL) :
  aL.f G (k + 7) [mV 8 d n m a imm, eD r, f.a] [] = some (pF ((cY ⟨8, d, n, m, a, imm⟩ r f).1, (cY ⟨8, d, n, m, a, imm⟩ r f).2, true), []) := by
 have r1 : ∀ H, aE (aH.f G (k + 6)) [mV 8 d n m a imm] H = _ := fun H => aD (H := H) (gR G k ⟨8, d, n, m, a, imm⟩) rfl rfl
 rw [hw] at r1
 obtain ⟨_, hd, hn, hm, ha, hf⟩ := iY hw
 have himm : 0 ≤ imm ∧ imm < 65536 := by
  unfold aU at hw
  rw [Bool.and_eq_true] at hw
  obtain ⟨_, h⟩ := hw
  simp [aO, eQ, gC, dL, gL, eU, dM] at h
  omega
 simp only at hd hn hm ha hf
 clear hw
 have ld := hr.get d
 have ln := hr.get n
 have lm := hr.get m
 have la := hr.get a
 have g : ∀ j, 0 ≤ j → j ≤ 31 → ∀ H, aE (aV.f G (k + 6)) [eD r, I6 j] H = some (Un (cK r j), H) := fun j h0 h1 H => aD (H := H) (iF G (k + 5) r hr.len j h0 h1) (by simp [eE, bC, gO]) rfl
 have g1 := g d hd.1 hd.2
 have g2 := g n hn.1 hn.2
 have g3 := g m hm.1 hm.2
 have g4 := g a ha.1 ha.2
 clear g
 have st : ∀ x H, aE (aW.f G (k + 6)) [eD r, I6 d, Un x] H = some (eD (fT r d x), H) := fun x H => aD (H := H) (iG G (k + 5) r hr.len d hd.1 hd.2 x) (by simp [eE, bC, gO]) (by simp [fS, kE])
 obtain ⟨ki, hki⟩ : ∃ z, z = u64 imm := ⟨_, rfl⟩
 have hkl : ki < 18446744073709551616 := by rw [hki]; exact iW _
 have hkv : (ki : Int) = imm := by rw [hki]; unfold u64; omega
 have k1 : aJ .u64 (I6 imm) = some (Un ki) := by rw [gX, hki]
 have k2 : aQ Tryd.prog .and 3 true (I6 imm) (.int .i64 63) = some (I6 (imm % 64)) := iQ _ _ _ (by omega) (by omega)
 obtain ⟨kj, hkj⟩ : ∃ z : Nat, (z : Int) = imm % 64 := ⟨(imm % 64).toNat, by omega⟩
 rw [← hkj] at k2
 have k3 : aJ .u64 (Nn kj) = some (Un kj) := by rw [eW, fA (by omega) (by omega)]
 have ed : cY ⟨8, d, n, m, a, imm⟩ r f = (fT r d ((cK r n * cK r m % 18446744073709551616 + cK r a) % 18446744073709551616), f) := by
  unfold cY jB
  simp only [Int.reduceEq, or_false, false_or, or_self, or_true, true_or, if_false, if_true, ↓reduceIte]
 rw [ed]
 clear ed
 simp only
 try rw [← hki]
 generalize cK r d = rd at *
 generalize cK r n = rn at *
 generalize cK r m = rm at *
 generalize cK r a = ra at *
 have o1 := vR Tryd.prog 43 false rn rm
 generalize rn * rm % 18446744073709551616 = z1' at *
 have o2 := qH Tryd.prog 43 false z1' ra
 generalize (z1' + ra) % 18446744073709551616 = xx at *
 rw [aL.step]
 unfold aL.c
 rw [kM, jX]
 have hZ : (List.replicate 31 0 : List Nat).length = 31 := rfl
 have z1 : eZ 1 (bV (List.replicate 31 0)) [] = some (eD (List.replicate 31 0)) := rfl
 have z2 : eZ 1 [.bool false, .bool false, .bool false, .bool false] [] = some jD.a := rfl
 have b1 : fF 44 (eD (List.replicate 31 0)) [] = some (.ptr 0 1 0 0, [⟨44, 31, [eD (List.replicate 31 0)]⟩]) := lR _ rfl []
 have b2 : fF 53 (.agg [.bool false, .bool false, .bool false, .bool false]) [⟨44, 31, [eD (List.replicate 31 0)]⟩] = some (.ptr 1 1 0 0, jN (List.replicate 31 0) jD) := rfl
 generalize List.replicate 31 0 = Z at *
 have c0 : ∀ H, dP (eD r) H = some (.rp false (eD r) 0, H) := fun H => rfl
 have c1 : ∀ H, dP f.a H = some (.rp false f.a 0, H) := fun H => rfl
 have c2 : ∀ H, aC G true 31 (.rp false (eD r) 0) H = some (eD r) := fun H => by
  rw [jK, if_pos (by rw [bL, hr.len]; exact Nat.le_refl _), List.drop_zero, List.take_of_length_le (by rw [bL, hr.len]; exact Nat.le_refl _)]
 have c3 : ∀ H, aC G true 4 (.rp false f.a 0) H = some f.a := fun H => rfl
 have c4 : ∀ q : List Nat, q.length = 31 → fB (aN 31 (.ptr 0 1 0 0) (eD q) (jN Z jD)) = some (.tup [], jN q jD) := fun q hq => lU hq hZ rfl
 have c5 : ∀ (q : List Nat) (g : FL), fB (aN 4 (.ptr 1 1 0 0) g.a (jN q jD)) = some (.tup [], jN q g) := fun q g => rfl
 have st' := st xx
 have hq := iU r hr.len d xx
 generalize fT r d xx = q at *
 have c4' := c4 q hq
 have c5' := c5 q f
 refine eO ?_
 have fx := aPt r1 <| aPt g1 <| aPt g2 <| aPt g3 <| aPt g4 <| aPt k1 <| aPt k2 <| aPt k3 <| aPt b1 <| aPt b2 <| aPt c0 <| aPt c1 <| aPt c2 <| aPt c3 <| aPt z1 <| aPt z2 <| aPt o1 <| aPt o2 <| aPt st' <| aPt c4' <| c5'
 refine kN ?_
 exact oF (iI G q hq f true)
theorem aMV (G : aG) (k : Nat) (d n m a imm : Int) (hw : aU ⟨9, d, n, m, a, imm⟩ = true) (r : List Nat) (hr : RgOk r) (f : FL) :
  aL.f G (k + 7) [mV 9 d n m a imm, eD r, f.a] [] = some (pF ((cY ⟨9, d, n, m, a, imm⟩ r f).1, (cY ⟨9, d, n, m, a, imm⟩ r f).2, true), []) := by
 have r1 : ∀ H, aE (aH.f G (k + 6)) [mV 9 d n m a imm] H = _ := fun H => aD (H := H) (gR G k ⟨9, d, n, m, a, imm⟩) rfl rfl
 rw [hw] at r1
 obtain ⟨_, hd, hn, hm, ha, hf⟩ := iY hw
 have himm : 0 ≤ imm ∧ imm < 65536 := by
  unfold aU at hw
  rw [Bool.and_eq_true] at hw
  obtain ⟨_, h⟩ := hw
  simp [aO, eQ, gC, dL, gL, eU, dM] at h
  omega
 simp only at hd hn hm ha hf
 clear hw
 have ld := hr.get d
 have ln := hr.get n
 have lm := hr.get m
 have la := hr.get a
 have g : ∀ j, 0 ≤ j → j ≤ 31 → ∀ H, aE (aV.f G (k + 6)) [eD r, I6 j] H = some (Un (cK r j), H) := fun j h0 h1 H => aD (H := H) (iF G (k + 5) r hr.len j h0 h1) (by simp [eE, bC, gO]) rfl
 have g1 := g d hd.1 hd.2
 have g2 := g n hn.1 hn.2
 have g3 := g m hm.1 hm.2
 have g4 := g a ha.1 ha.2
 clear g
 have st : ∀ x H, aE (aW.f G (k + 6)) [eD r, I6 d, Un x] H = some (eD (fT r d x), H) := fun x H => aD (H := H) (iG G (k + 5) r hr.len d hd.1 hd.2 x) (by simp [eE, bC, gO]) (by simp [fS, kE])
 obtain ⟨ki, hki⟩ : ∃ z, z = u64 imm := ⟨_, rfl⟩
 have hkl : ki < 18446744073709551616 := by rw [hki]; exact iW _
 have hkv : (ki : Int) = imm := by rw [hki]; unfold u64; omega
 have k1 : aJ .u64 (I6 imm) = some (Un ki) := by rw [gX, hki]
 have k2 : aQ Tryd.prog .and 3 true (I6 imm) (.int .i64 63) = some (I6 (imm % 64)) := iQ _ _ _ (by omega) (by omega)
 obtain ⟨kj, hkj⟩ : ∃ z : Nat, (z : Int) = imm % 64 := ⟨(imm % 64).toNat, by omega⟩
 rw [← hkj] at k2
 have k3 : aJ .u64 (Nn kj) = some (Un kj) := by rw [eW, fA (by omega) (by omega)]
 have ed : cY ⟨9, d, n, m, a, imm⟩ r f = (fT r d (cK r n * cK r m / 18446744073709551616), f) := by
  unfold cY jB
  simp only [Int.reduceEq, or_false, false_or, or_self, or_true, true_or, if_false, if_true, ↓reduceIte]
 rw [ed]
 clear ed
 simp only
 try rw [← hki]
 generalize cK r d = rd at *
 generalize cK r n = rn at *
 generalize cK r m = rm at *
 generalize cK r a = ra at *
 have o1 : ∀ H, aE (cB.f G (k + 6)) [Un rn, Un rm] H = _ := fun H => aD (H := H) (aAa G (k + 5) rn rm ln lm) rfl rfl
 generalize rn * rm / 18446744073709551616 = xx at *
 rw [aL.step]
 unfold aL.c
 rw [kM, jX]
 have hZ : (List.replicate 31 0 : List Nat).length = 31 := rfl
 have z1 : eZ 1 (bV (List.replicate 31 0)) [] = some (eD (List.replicate 31 0)) := rfl
 have z2 : eZ 1 [.bool false, .bool false, .bool false, .bool false] [] = some jD.a := rfl
 have b1 : fF 44 (eD (List.replicate 31 0)) [] = some (.ptr 0 1 0 0, [⟨44, 31, [eD (List.replicate 31 0)]⟩]) := lR _ rfl []
 have b2 : fF 53 (.agg [.bool false, .bool false, .bool false, .bool false]) [⟨44, 31, [eD (List.replicate 31 0)]⟩] = some (.ptr 1 1 0 0, jN (List.replicate 31 0) jD) := rfl
 generalize List.replicate 31 0 = Z at *
 have c0 : ∀ H, dP (eD r) H = some (.rp false (eD r) 0, H) := fun H => rfl
 have c1 : ∀ H, dP f.a H = some (.rp false f.a 0, H) := fun H => rfl
 have c2 : ∀ H, aC G true 31 (.rp false (eD r) 0) H = some (eD r) := fun H => by
  rw [jK, if_pos (by rw [bL, hr.len]; exact Nat.le_refl _), List.drop_zero, List.take_of_length_le (by rw [bL, hr.len]; exact Nat.le_refl _)]
 have c3 : ∀ H, aC G true 4 (.rp false f.a 0) H = some f.a := fun H => rfl
 have c4 : ∀ q : List Nat, q.length = 31 → fB (aN 31 (.ptr 0 1 0 0) (eD q) (jN Z jD)) = some (.tup [], jN q jD) := fun q hq => lU hq hZ rfl
 have c5 : ∀ (q : List Nat) (g : FL), fB (aN 4 (.ptr 1 1 0 0) g.a (jN q jD)) = some (.tup [], jN q g) := fun q g => rfl
 have st' := st xx
 have hq := iU r hr.len d xx
 generalize fT r d xx = q at *
 have c4' := c4 q hq
 have c5' := c5 q f
 refine eO ?_
 have fx := aPt r1 <| aPt g1 <| aPt g2 <| aPt g3 <| aPt g4 <| aPt k1 <| aPt k2 <| aPt k3 <| aPt b1 <| aPt b2 <| aPt c0 <| aPt c1 <| aPt c2 <| aPt c3 <| aPt z1 <| aPt z2 <| aPt o1 <| aPt st' <| aPt c4' <| c5'
 refine kN ?_
 exact oF (iI G q hq f true)
theorem aKn (G : aG) (k : Nat) (d n m a imm : Int) (hw : aU ⟨10, d, n, m, a, imm⟩ = true) (r : List Nat) (hr : RgOk r) (f : FL) :
  aL.f G (k + 7) [mV 10 d n m a imm, eD r, f.a] [] = some (pF ((cY ⟨10, d, n, m, a, imm⟩ r f).1, (cY ⟨10, d, n, m, a, imm⟩ r f).2, true), []) := by
 have r1 : ∀ H, aE (aH.f G (k + 6)) [mV 10 d n m a imm] H = _ := fun H => aD (H := H) (gR G k ⟨10, d, n, m, a, imm⟩) rfl rfl
 rw [hw] at r1
 obtain ⟨_, hd, hn, hm, ha, hf⟩ := iY hw
 have himm : 0 ≤ imm ∧ imm < 65536 := by
  unfold aU at hw
  rw [Bool.and_eq_true] at hw
  obtain ⟨_, h⟩ := hw
  simp [aO, eQ, gC, dL, gL, eU, dM] at h
  omega
 simp only at hd hn hm ha hf
 clear hw
 have ld := hr.get d
 have ln := hr.get n
 have lm := hr.get m
 have la := hr.get a
 have g : ∀ j, 0 ≤ j → j ≤ 31 → ∀ H, aE (aV.f G (k + 6)) [eD r, I6 j] H = some (Un (cK r j), H) := fun j h0 h1 H => aD (H := H) (iF G (k + 5) r hr.len j h0 h1) (by simp [eE, bC, gO]) rfl
 have g1 := g d hd.1 hd.2
 have g2 := g n hn.1 hn.2
 have g3 := g m hm.1 hm.2
 have g4 := g a ha.1 ha.2
 clear g
 have st : ∀ x H, aE (aW.f G (k + 6)) [eD r, I6 d, Un x] H = some (eD (fT r d x), H) := fun x H => aD (H := H) (iG G (k + 5) r hr.len d hd.1 hd.2 x) (by simp [eE, bC, gO]) (by simp [fS, kE])
 obtain ⟨ki, hki⟩ : ∃ z, z = u64 imm := ⟨_, rfl⟩
 have hkl : ki < 18446744073709551616 := by rw [hki]; exact iW _
 have hkv : (ki : Int) = imm := by rw [hki]; unfold u64; omega
 have k1 : aJ .u64 (I6 imm) = some (Un ki) := by rw [gX, hki]
 have k2 : aQ Tryd.prog .and 3 true (I6 imm) (.int .i64 63) = some (I6 (imm % 64)) := iQ _ _ _ (by omega) (by omega)
 obtain ⟨kj, hkj⟩ : ∃ z : Nat, (z : Int) = imm % 64 := ⟨(imm % 64).toNat, by omega⟩
 rw [← hkj] at k2
 have k3 : aJ .u64 (Nn kj) = some (Un kj) := by rw [eW, fA (by omega) (by omega)]
 have ed : cY ⟨10, d, n, m, a, imm⟩ r f = (fT r d ((cK r n + u64 imm) % 18446744073709551616), f) := by
  unfold cY jB
  simp only [Int.reduceEq, or_false, false_or, or_self, or_true, true_or, if_false, if_true, ↓reduceIte]
 rw [ed]
 clear ed
 simp only
 try rw [← hki]
 generalize cK r d = rd at *
 generalize cK r n = rn at *
 generalize cK r m = rm at *
 generalize cK r a = ra at *
 have o1 := qH Tryd.prog 43 false rn ki
 generalize (rn + ki) % 18446744073709551616 = xx at *
 rw [aL.step]
 unfold aL.c
 rw [kM, jX]
 have hZ : (List.replicate 31 0 : List Nat).length = 31 := rfl
 have z1 : eZ 1 (bV (List.replicate 31 0)) [] = some (eD (List.replicate 31 0)) := rfl
 have z2 : eZ 1 [.bool false, .bool false, .bool false, .bool false] [] = some jD.a := rfl
 have b1 : fF 44 (eD (List.replicate 31 0)) [] = some (.ptr 0 1 0 0, [⟨44, 31, [eD (List.replicate 31 0)]⟩]) := lR _ rfl []
 have b2 : fF 53 (.agg [.bool false, .bool false, .bool false, .bool false]) [⟨44, 31, [eD (List.replicate 31 0)]⟩] = some (.ptr 1 1 0 0, jN (List.replicate 31 0) jD) := rfl
 generalize List.replicate 31 0 = Z at *
 have c0 : ∀ H, dP (eD r) H = some (.rp false (eD r) 0, H) := fun H => rfl
 have c1 : ∀ H, dP f.a H = some (.rp false f.a 0, H) := fun H => rfl
 have c2 : ∀ H, aC G true 31 (.rp false (eD r) 0) H = some (eD r) := fun H => by
  rw [jK, if_pos (by rw [bL, hr.len]; exact Nat.le_refl _), List.drop_zero, List.take_of_length_le (by rw [bL, hr.len]; exact Nat.le_refl _)]
 have c3 : ∀ H, aC G true 4 (.rp false f.a 0) H = some f.a := fun H => rfl
 have c4 : ∀ q : List Nat, q.length = 31 → fB (aN 31 (.ptr 0 1 0 0) (eD q) (jN Z jD)) = some (.tup [], jN q jD) := fun q hq => lU hq hZ rfl
 have c5 : ∀ (q : List Nat) (g : FL), fB (aN 4 (.ptr 1 1 0 0) g.a (jN q jD)) = some (.tup [], jN q g) := fun q g => rfl
 have st' := st xx
 have hq := iU r hr.len d xx
 generalize fT r d xx = q at *
 have c4' := c4 q hq
 have c5' := c5 q f
 refine eO ?_
 have fx := aPt r1 <| aPt g1 <| aPt g2 <| aPt g3 <| aPt g4 <| aPt k1 <| aPt k2 <| aPt k3 <| aPt b1 <| aPt b2 <| aPt c0 <| aPt c1 <| aPt c2 <| aPt c3 <| aPt z1 <| aPt z2 <| aPt o1 <| aPt st' <| aPt c4' <| c5'
 refine kN ?_
 exact oF (iI G q hq f true)
theorem aKo (G : aG) (k : Nat) (d n m a imm : Int) (hw : aU ⟨11, d, n, m, a, imm⟩ = true) (r : List Nat) (hr : RgOk r) (f : FL) :
  aL.f G (k + 7) [mV 11 d n m a imm, eD r, f.a] [] = some (pF ((cY ⟨11, d, n, m, a, imm⟩ r f).1, (cY ⟨11, d, n, m, a, imm⟩ r f).2, true), []) := by
 have r1 : ∀ H, aE (aH.f G (k + 6)) [mV 11 d n m a imm] H = _ := fun H => aD (H := H) (gR G k ⟨11, d, n, m, a, imm⟩) rfl rfl
 rw [hw] at r1
 obtain ⟨_, hd, hn, hm, ha, hf⟩ := iY hw
 have himm : 0 ≤ imm ∧ imm < 65536 := by
  unfold aU at hw
  rw [Bool.and_eq_true] at hw
  obtain ⟨_, h⟩ := hw
  simp [aO, eQ, gC, dL, gL, eU, dM] at h
  omega
 simp only at hd hn hm ha hf
 clear hw
 have ld := hr.get d
 have ln := hr.get n
 have lm := hr.get m
 have la := hr.get a
 have g : ∀ j, 0 ≤ j → j ≤ 31 → ∀ H, aE (aV.f G (k + 6)) [eD r, I6 j] H = some (Un (cK r j), H) := fun j h0 h1 H => aD (H := H) (iF G (k + 5) r hr.len j h0 h1) (by simp [eE, bC, gO]) rfl
 have g1 := g d hd.1 hd.2
 have g2 := g n hn.1 hn.2
 have g3 := g m hm.1 hm.2
 have g4 := g a ha.1 ha.2
 clear g
 have st : ∀ x H, aE (aW.f G (k + 6)) [eD r, I6 d, Un x] H = some (eD (fT r d x), H) := fun x H => aD (H := H) (iG G (k + 5) r hr.len d hd.1 hd.2 x) (by simp [eE, bC, gO]) (by simp [fS, kE])
 obtain ⟨ki, hki⟩ : ∃ z, z = u64 imm := ⟨_, rfl⟩
 have hkl : ki < 18446744073709551616 := by rw [hki]; exact iW _
 have hkv : (ki : Int) = imm := by rw [hki]; unfold u64; omega
 have k1 : aJ .u64 (I6 imm) = some (Un ki) := by rw [gX, hki]
 have k2 : aQ Tryd.prog .and 3 true (I6 imm) (.int .i64 63) = some (I6 (imm % 64)) := iQ _ _ _ (by omega) (by omega)
 obtain ⟨kj, hkj⟩ : ∃ z : Nat, (z : Int) = imm % 64 := ⟨(imm % 64).toNat, by omega⟩
 rw [← hkj] at k2
 have k3 : aJ .u64 (Nn kj) = some (Un kj) := by rw [eW, fA (by omega) (by omega)]
 have ed : cY ⟨11, d, n, m, a, imm⟩ r f = (fT r d ((cK r n + 18446744073709551616 - u64 imm) % 18446744073709551616), f) := by
  unfold cY jB
  simp only [Int.reduceEq, or_false, false_or, or_self, or_true, true_or, if_false, if_true, ↓reduceIte]
 rw [ed]
 clear ed
 simp only
 try rw [← hki]
 generalize cK r d = rd at *
 generalize cK r n = rn at *
 generalize cK r m = rm at *
 generalize cK r a = ra at *
 have o1 := yU Tryd.prog 43 false rn ki hkl
 generalize (rn + 18446744073709551616 - ki) % 18446744073709551616 = xx at *
 rw [aL.step]
 unfold aL.c
 rw [kM, jX]
 have hZ : (List.replicate 31 0 : List Nat).length = 31 := rfl
 have z1 : eZ 1 (bV (List.replicate 31 0)) [] = some (eD (List.replicate 31 0)) := rfl
 have z2 : eZ 1 [.bool false, .bool false, .bool false, .bool false] [] = some jD.a := rfl
 have b1 : fF 44 (eD (List.replicate 31 0)) [] = some (.ptr 0 1 0 0, [⟨44, 31, [eD (List.replicate 31 0)]⟩]) := lR _ rfl []
 have b2 : fF 53 (.agg [.bool false, .bool false, .bool false, .bool false]) [⟨44, 31, [eD (List.replicate 31 0)]⟩] = some (.ptr 1 1 0 0, jN (List.replicate 31 0) jD) := rfl
 generalize List.replicate 31 0 = Z at *
 have c0 : ∀ H, dP (eD r) H = some (.rp false (eD r) 0, H) := fun H => rfl
 have c1 : ∀ H, dP f.a H = some (.rp false f.a 0, H) := fun H => rfl
 have c2 : ∀ H, aC G true 31 (.rp false (eD r) 0) H = some (eD r) := fun H => by
  rw [jK, if_pos (by rw [bL, hr.len]; exact Nat.le_refl _), List.drop_zero, List.take_of_length_le (by rw [bL, hr.len]; exact Nat.le_refl _)]
 have c3 : ∀ H, aC G true 4 (.rp false f.a 0) H = some f.a := fun H => rfl
 have c4 : ∀ q : List Nat, q.length = 31 → fB (aN 31 (.ptr 0 1 0 0) (eD q) (jN Z jD)) = some (.tup [], jN q jD) := fun q hq => lU hq hZ rfl
 have c5 : ∀ (q : List Nat) (g : FL), fB (aN 4 (.ptr 1 1 0 0) g.a (jN q jD)) = some (.tup [], jN q g) := fun q g => rfl
 have st' := st xx
 have hq := iU r hr.len d xx
 generalize fT r d xx = q at *
 have c4' := c4 q hq
 have c5' := c5 q f
 refine eO ?_
 have fx := aPt r1 <| aPt g1 <| aPt g2 <| aPt g3 <| aPt g4 <| aPt k1 <| aPt k2 <| aPt k3 <| aPt b1 <| aPt b2 <| aPt c0 <| aPt c1 <| aPt c2 <| aPt c3 <| aPt z1 <| aPt z2 <| aPt o1 <| aPt st' <| aPt c4' <| c5'
 refine kN ?_
 exact oF (iI G q hq f true)
theorem aKp (G : aG) (k : Nat) (d n m a imm : Int) (hw : aU ⟨12, d, n, m, a, imm⟩ = true) (r : List Nat) (hr : RgOk r) (f : FL) :
  aL.f G (k + 7) [mV 12 d n m a imm, eD r, f.a] [] = some (pF ((cY ⟨12, d, n, m, a, imm⟩ r f).1, (cY ⟨12, d, n, m, a, imm⟩ r f).2, true), []) := by
 have r1 : ∀ H, aE (aH.f G (k + 6)) [mV 12 d n m a imm] H = _ := fun H => aD (H := H) (gR G k ⟨12, d, n, m, a, imm⟩) rfl rfl
 rw [hw] at r1
 obtain ⟨_, hd, hn, hm, ha, hf⟩ := iY hw
 have himm : 0 ≤ imm ∧ imm < 65536 := by
  unfold aU at hw
  rw [Bool.and_eq_true] at hw
  obtain ⟨_, h⟩ := hw
  simp [aO, eQ, gC, dL, gL, eU, dM] at h
  omega
 simp only at hd hn hm ha hf
 clear hw
 have ld := hr.get d
 have ln := hr.get n
 have lm := hr.get m
 have la := hr.get a
 have g : ∀ j, 0 ≤ j → j ≤ 31 → ∀ H, aE (aV.f G (k + 6)) [eD r, I6 j] H = some (Un (cK r j), H) := fun j h0 h1 H => aD (H := H) (iF G (k + 5) r hr.len j h0 h1) (by simp [eE, bC, gO]) rfl
 have g1 := g d hd.1 hd.2
 have g2 := g n hn.1 hn.2
 have g3 := g m hm.1 hm.2
 have g4 := g a ha.1 ha.2
 clear g
 have st : ∀ x H, aE (aW.f G (k + 6)) [eD r, I6 d, Un x] H = some (eD (fT r d x), H) := fun x H => aD (H := H) (iG G (k + 5) r hr.len d hd.1 hd.2 x) (by simp [eE, bC, gO]) (by simp [fS, kE])
 obtain ⟨ki, hki⟩ : ∃ z, z = u64 imm := ⟨_, rfl⟩
 have hkl : ki < 18446744073709551616 := by rw [hki]; exact iW _
 have hkv : (ki : Int) = imm := by rw [hki]; unfold u64; omega
 have k1 : aJ .u64 (I6 imm) = some (Un ki) := by rw [gX, hki]
 have k2 : aQ Tryd.prog .and 3 true (I6 imm) (.int .i64 63) = some (I6 (imm % 64)) := iQ _ _ _ (by omega) (by omega)
 obtain ⟨kj, hkj⟩ : ∃ z : Nat, (z : Int) = imm % 64 := ⟨(imm % 64).toNat, by omega⟩
 rw [← hkj] at k2
 have k3 : aJ .u64 (Nn kj) = some (Un kj) := by rw [eW, fA (by omega) (by omega)]
 have ed : cY ⟨12, d, n, m, a, imm⟩ r f = (fT r d (cK r n * 2 ^ (u64 imm) % 18446744073709551616), f) := by
  unfold cY jB
  simp only [Int.reduceEq, or_false, false_or, or_self, or_true, true_or, if_false, if_true, ↓reduceIte]
 rw [ed]
 clear ed
 simp only
 try rw [← hki]
 generalize cK r d = rd at *
 generalize cK r n = rn at *
 generalize cK r m = rm at *
 generalize cK r a = ra at *
 have hi := hf.2 (by omega) (by omega)
 have ej : kj = ki := by omega
 subst ej
 have o1 := vS Tryd.prog 43 false .u64 rn kj (by omega)
 generalize rn * 2 ^ kj % 18446744073709551616 = xx at *
 rw [aL.step]
 unfold aL.c
 rw [kM, jX]
 have hZ : (List.replicate 31 0 : List Nat).length = 31 := rfl
 have z1 : eZ 1 (bV (List.replicate 31 0)) [] = some (eD (List.replicate 31 0)) := rfl
 have z2 : eZ 1 [.bool false, .bool false, .bool false, .bool false] [] = some jD.a := rfl
 have b1 : fF 44 (eD (List.replicate 31 0)) [] = some (.ptr 0 1 0 0, [⟨44, 31, [eD (List.replicate 31 0)]⟩]) := lR _ rfl []
 have b2 : fF 53 (.agg [.bool false, .bool false, .bool false, .bool false]) [⟨44, 31, [eD (List.replicate 31 0)]⟩] = some (.ptr 1 1 0 0, jN (List.replicate 31 0) jD) := rfl
 generalize List.replicate 31 0 = Z at *
 have c0 : ∀ H, dP (eD r) H = some (.rp false (eD r) 0, H) := fun H => rfl
 have c1 : ∀ H, dP f.a H = some (.rp false f.a 0, H) := fun H => rfl
 have c2 : ∀ H, aC G true 31 (.rp false (eD r) 0) H = some (eD r) := fun H => by
  rw [jK, if_pos (by rw [bL, hr.len]; exact Nat.le_refl _), List.drop_zero, List.take_of_length_le (by rw [bL, hr.len]; exact Nat.le_refl _)]
 have c3 : ∀ H, aC G true 4 (.rp false f.a 0) H = some f.a := fun H => rfl
 have c4 : ∀ q : List Nat, q.length = 31 → fB (aN 31 (.ptr 0 1 0 0) (eD q) (jN Z jD)) = some (.tup [], jN q jD) := fun q hq => lU hq hZ rfl
 have c5 : ∀ (q : List Nat) (g : FL), fB (aN 4 (.ptr 1 1 0 0) g.a (jN q jD)) = some (.tup [], jN q g) := fun q g => rfl
 have st' := st xx
 have hq := iU r hr.len d xx
 generalize fT r d xx = q at *
 have c4' := c4 q hq
 have c5' := c5 q f
 refine eO ?_
 have fx := aPt r1 <| aPt g1 <| aPt g2 <| aPt g3 <| aPt g4 <| aPt k1 <| aPt k2 <| aPt k3 <| aPt b1 <| aPt b2 <| aPt c0 <| aPt c1 <| aPt c2 <| aPt c3 <| aPt z1 <| aPt z2 <| aPt o1 <| aPt st' <| aPt c4' <| c5'
 refine kN ?_
 exact oF (iI G q hq f true)
theorem aKq (G : aG) (k : Nat) (d n m a imm : Int) (hw : aU ⟨13, d, n, m, a, imm⟩ = true) (r : List Nat) (hr : RgOk r) (f : FL) :
  aL.f G (k + 7) [mV 13 d n m a imm, eD r, f.a] [] = some (pF ((cY ⟨13, d, n, m, a, imm⟩ r f).1, (cY ⟨13, d, n, m, a, imm⟩ r f).2, true), []) := by
 have r1 : ∀ H, aE (aH.f G (k + 6)) [mV 13 d n m a imm] H = _ := fun H => aD (H := H) (gR G k ⟨13, d, n, m, a, imm⟩) rfl rfl
 rw [hw] at r1
 obtain ⟨_, hd, hn, hm, ha, hf⟩ := iY hw
 have himm : 0 ≤ imm ∧ imm < 65536 := by
  unfold aU at hw
  rw [Bool.and_eq_true] at hw
  obtain ⟨_, h⟩ := hw
  simp [aO, eQ, gC, dL, gL, eU, dM] at h
  omega
 simp only at hd hn hm ha hf
 clear hw
 have ld := hr.get d
 have ln := hr.get n
 have lm := hr.get m
 have la := hr.get a
 have g : ∀ j, 0 ≤ j → j ≤ 31 → ∀ H, aE (aV.f G (k + 6)) [eD r, I6 j] H = some (Un (cK r j), H) := fun j h0 h1 H => aD (H := H) (iF G (k + 5) r hr.len j h0 h1) (by simp [eE, bC, gO]) rfl
 have g1 := g d hd.1 hd.2
 have g2 := g n hn.1 hn.2
 have g3 := g m hm.1 hm.2
 have g4 := g a ha.1 ha.2
 clear g
 have st : ∀ x H, aE (aW.f G (k + 6)) [eD r, I6 d, Un x] H = some (eD (fT r d x), H) := fun x H => aD (H := H) (iG G (k + 5) r hr.len d hd.1 hd.2 x) (by simp [eE, bC, gO]) (by simp [fS, kE])
 obtain ⟨ki, hki⟩ : ∃ z, z = u64 imm := ⟨_, rfl⟩
 have hkl : ki < 18446744073709551616 := by rw [hki]; exact iW _
 have hkv : (ki : Int) = imm := by rw [hki]; unfold u64; omega
 have k1 : aJ .u64 (I6 imm) = some (Un ki) := by rw [gX, hki]
 have k2 : aQ Tryd.prog .and 3 true (I6 imm) (.int .i64 63) = some (I6 (imm % 64)) := iQ _ _ _ (by omega) (by omega)
 obtain ⟨kj, hkj⟩ : ∃ z : Nat, (z : Int) = imm % 64 := ⟨(imm % 64).toNat, by omega⟩
 rw [← hkj] at k2
 have k3 : aJ .u64 (Nn kj) = some (Un kj) := by rw [eW, fA (by omega) (by omega)]
 have ed : cY ⟨13, d, n, m, a, imm⟩ r f = (fT r d (cK r n / 2 ^ (u64 imm)), f) := by
  unfold cY jB
  simp only [Int.reduceEq, or_false, false_or, or_self, or_true, true_or, if_false, if_true, ↓reduceIte]
 rw [ed]
 clear ed
 simp only
 try rw [← hki]
 generalize cK r d = rd at *
 generalize cK r n = rn at *
 generalize cK r m = rm at *
 generalize cK r a = ra at *
 have hi := hf.2 (by omega) (by omega)
 have ej : kj = ki := by omega
 subst ej
 have o1 := sH Tryd.prog 43 false .u64 rn kj (by omega)
 generalize rn / 2 ^ kj = xx at *
 rw [aL.step]
 unfold aL.c
 rw [kM, jX]
 have hZ : (List.replicate 31 0 : List Nat).length = 31 := rfl
 have z1 : eZ 1 (bV (List.replicate 31 0)) [] = some (eD (List.replicate 31 0)) := rfl
 have z2 : eZ 1 [.bool false, .bool false, .bool false, .bool false] [] = some jD.a := rfl
 have b1 : fF 44 (eD (List.replicate 31 0)) [] = some (.ptr 0 1 0 0, [⟨44, 31, [eD (List.replicate 31 0)]⟩]) := lR _ rfl []
 have b2 : fF 53 (.agg [.bool false, .bool false, .bool false, .bool false]) [⟨44, 31, [eD (List.replicate 31 0)]⟩] = some (.ptr 1 1 0 0, jN (List.replicate 31 0) jD) := rfl
 generalize List.replicate 31 0 = Z at *
 have c0 : ∀ H, dP (eD r) H = some (.rp false (eD r) 0, H) := fun H => rfl
 have c1 : ∀ H, dP f.a H = some (.rp false f.a 0, H) := fun H => rfl
 have c2 : ∀ H, aC G true 31 (.rp false (eD r) 0) H = some (eD r) := fun H => by
  rw [jK, if_pos (by rw [bL, hr.len]; exact Nat.le_refl _), List.drop_zero, List.take_of_length_le (by rw [bL, hr.len]; exact Nat.le_refl _)]
 have c3 : ∀ H, aC G true 4 (.rp false f.a 0) H = some f.a := fun H => rfl
 have c4 : ∀ q : List Nat, q.length = 31 → fB (aN 31 (.ptr 0 1 0 0) (eD q) (jN Z jD)) = some (.tup [], jN q jD) := fun q hq => lU hq hZ rfl
 have c5 : ∀ (q : List Nat) (g : FL), fB (aN 4 (.ptr 1 1 0 0) g.a (jN q jD)) = some (.tup [], jN q g) := fun q g => rfl
 have st' := st xx
 have hq := iU r hr.len d xx
 generalize fT r d xx = q at *
 have c4' := c4 q hq
 have c5' := c5 q f
 refine eO ?_
 have fx := aPt r1 <| aPt g1 <| aPt g2 <| aPt g3 <| aPt g4 <| aPt k1 <| aPt k2 <| aPt k3 <| aPt b1 <| aPt b2 <| aPt c0 <| aPt c1 <| aPt c2 <| aPt c3 <| aPt z1 <| aPt z2 <| aPt o1 <| aPt st' <| aPt c4' <| c5'
 refine kN ?_
 exact oF (iI G q hq f true)
theorem aKr (G : aG) (k : Nat) (d n m a imm : Int) (hw : aU ⟨14, d, n, m, a, imm⟩ = true) (r : List Nat) (hr : RgOk r) (f : FL) :
  aL.f G (k + 7) [mV 14 d n m a imm, eD r, f.a] [] = some (pF ((cY ⟨14, d, n, m, a, imm⟩ r f).1, (cY ⟨14, d, n, m, a, imm⟩ r f).2, true), []) := by
 have r1 : ∀ H, aE (aH.f G (k + 6)) [mV 14 d n m a imm] H = _ := fun H => aD (H := H) (gR G k ⟨14, d, n, m, a, imm⟩) rfl rfl
 rw [hw] at r1
 obtain ⟨_, hd, hn, hm, ha, hf⟩ := iY hw
 have himm : 0 ≤ imm ∧ imm < 65536 := by
  unfold aU at hw
  rw [Bool.and_eq_true] at hw
  obtain ⟨_, h⟩ := hw
  simp [aO, eQ, gC, dL, gL, eU, dM] at h
  omega
 simp only at hd hn hm ha hf
 clear hw
 have ld := hr.get d
 have ln := hr.get n
 have lm := hr.get m
 have la := hr.get a
 have g : ∀ j, 0 ≤ j → j ≤ 31 → ∀ H, aE (aV.f G (k + 6)) [eD r, I6 j] H = some (Un (cK r j), H) := fun j h0 h1 H => aD (H := H) (iF G (k + 5) r hr.len j h0 h1) (by simp [eE, bC, gO]) rfl
 have g1 := g d hd.1 hd.2
 have g2 := g n hn.1 hn.2
 have g3 := g m hm.1 hm.2
 have g4 := g a ha.1 ha.2
 clear g
 have st : ∀ x H, aE (aW.f G (k + 6)) [eD r, I6 d, Un x] H = some (eD (fT r d x), H) := fun x H => aD (H := H) (iG G (k + 5) r hr.len d hd.1 hd.2 x) (by simp [eE, bC, gO]) (by simp [fS, kE])
 obtain ⟨ki, hki⟩ : ∃ z, z = u64 imm := ⟨_, rfl⟩
 have hkl : ki < 18446744073709551616 := by rw [hki]; exact iW _
 have hkv : (ki : Int) = imm := by rw [hki]; unfold u64; omega
 have k1 : aJ .u64 (I6 imm) = some (Un ki) := by rw [gX, hki]
 have k2 : aQ Tryd.prog .and 3 true (I6 imm) (.int .i64 63) = some (I6 (imm % 64)) := iQ _ _ _ (by omega) (by omega)
 obtain ⟨kj, hkj⟩ : ∃ z : Nat, (z : Int) = imm % 64 := ⟨(imm % 64).toNat, by omega⟩
 rw [← hkj] at k2
 have k3 : aJ .u64 (Nn kj) = some (Un kj) := by rw [eW, fA (by omega) (by omega)]
 have ed : cY ⟨14, d, n, m, a, imm⟩ r f = (fT r d (aCA (cK r n) (u64 imm)), f) := by
  unfold cY jB
  simp only [Int.reduceEq, or_false, false_or, or_self, or_true, true_or, if_false, if_true, ↓reduceIte]
 rw [ed]
 clear ed
 simp only
 try rw [← hki]
 generalize cK r d = rd at *
 generalize cK r n = rn at *
 generalize cK r m = rm at *
 generalize cK r a = ra at *
 have hi := hf.2 (by omega) (by omega)
 have ej : kj = ki := by omega
 subst ej
 have o1 := uD rn ln
 have o2 : aQ Tryd.prog .shr 2 false (I6 (mI rn)) (Un kj) = some (I6 ((mI rn).fdiv (2 ^ kj))) := by
  rw [yI _ _ _ _ _ _ _ (Int.natCast_nonneg kj)]
  have e : min ((kj : Int)).toNat IntKind.i64.bits = kj := by rw [Int.toNat_natCast]; exact Nat.min_eq_left (by have : IntKind.i64.bits = 64 := rfl; omega)
  rw [e]
 have o3 := gX .i64 ((mI rn).fdiv (2 ^ kj))
 have hq : u64 ((mI rn).fdiv (2 ^ kj)) = aCA rn kj := rfl
 rw [hq] at o3
 clear hq
 generalize aCA rn kj = xx at *
 generalize (mI rn).fdiv (2 ^ kj) = yy at *
 rw [aL.step]
 unfold aL.c
 rw [kM, jX]
 have hZ : (List.replicate 31 0 : List Nat).length = 31 := rfl
 have z1 : eZ 1 (bV (List.replicate 31 0)) [] = some (eD (List.replicate 31 0)) := rfl
 have z2 : eZ 1 [.bool false, .bool false, .bool false, .bool false] [] = some jD.a := rfl
 have b1 : fF 44 (eD (List.replicate 31 0)) [] = some (.ptr 0 1 0 0, [⟨44, 31, [eD (List.replicate 31 0)]⟩]) := lR _ rfl []
 have b2 : fF 53 (.agg [.bool false, .bool false, .bool false, .bool false]) [⟨44, 31, [eD (List.replicate 31 0)]⟩] = some (.ptr 1 1 0 0, jN (List.replicate 31 0) jD) := rfl
 generalize List.replicate 31 0 = Z at *
 have c0 : ∀ H, dP (eD r) H = some (.rp false (eD r) 0, H) := fun H => rfl
 have c1 : ∀ H, dP f.a H = some (.rp false f.a 0, H) := fun H => rfl
 have c2 : ∀ H, aC G true 31 (.rp false (eD r) 0) H = some (eD r) := fun H => by
  rw [jK, if_pos (by rw [bL, hr.len]; exact Nat.le_refl _), List.drop_zero, List.take_of_length_le (by rw [bL, hr.len]; exact Nat.le_refl _)]
 have c3 : ∀ H, aC G true 4 (.rp false f.a 0) H = some f.a := fun H => rfl
 have c4 : ∀ q : List Nat, q.length = 31 → fB (aN 31 (.ptr 0 1 0 0) (eD q) (jN Z jD)) = some (.tup [], jN q jD) := fun q hq => lU hq hZ rfl
 have c5 : ∀ (q : List Nat) (g : FL), fB (aN 4 (.ptr 1 1 0 0) g.a (jN q jD)) = some (.tup [], jN q g) := fun q g => rfl
 have st' := st xx
 have hq := iU r hr.len d xx
 generalize fT r d xx = q at *
 have c4' := c4 q hq
 have c5' := c5 q f
 refine eO ?_
 have fx := aPt r1 <| aPt g1 <| aPt g2 <| aPt g3 <| aPt g4 <| aPt k1 <| aPt k2 <| aPt k3 <| aPt b1 <| aPt b2 <| aPt c0 <| aPt c1 <| aPt c2 <| aPt c3 <| aPt z1 <| aPt z2 <| aPt o1 <| aPt o2 <| aPt o3 <| aPt st' <| aPt c4' <| c5'
 refine kN ?_
 exact oF (iI G q hq f true)
theorem aKs (G : aG) (k : Nat) (d n m a imm : Int) (hw : aU ⟨15, d, n, m, a, imm⟩ = true) (r : List Nat) (hr : RgOk r) (f : FL) :
  aL.f G (k + 7) [mV 15 d n m a imm, eD r, f.a] [] = some (pF ((cY ⟨15, d, n, m, a, imm⟩ r f).1, (cY ⟨15, d, n, m, a, imm⟩ r f).2, true), []) := by
 have r1 : ∀ H, aE (aH.f G (k + 6)) [mV 15 d n m a imm] H = _ := fun H => aD (H := H) (gR G k ⟨15, d, n, m, a, imm⟩) rfl rfl
 rw [hw] at r1
 obtain ⟨_, hd, hn, hm, ha, hf⟩ := iY hw
 have himm : 0 ≤ imm ∧ imm < 65536 := by
  unfold aU at hw
  rw [Bool.and_eq_true] at hw
  obtain ⟨_, h⟩ := hw
  simp [aO, eQ, gC, dL, gL, eU, dM] at h
  omega
 simp only at hd hn hm ha hf
 clear hw
 have ld := hr.get d
 have ln := hr.get n
 have lm := hr.get m
 have la := hr.get a
 have g : ∀ j, 0 ≤ j → j ≤ 31 → ∀ H, aE (aV.f G (k + 6)) [eD r, I6 j] H = some (Un (cK r j), H) := fun j h0 h1 H => aD (H := H) (iF G (k + 5) r hr.len j h0 h1) (by simp [eE, bC, gO]) rfl
 have g1 := g d hd.1 hd.2
 have g2 := g n hn.1 hn.2
 have g3 := g m hm.1 hm.2
 have g4 := g a ha.1 ha.2
 clear g
 have st : ∀ x H, aE (aW.f G (k + 6)) [eD r, I6 d, Un x] H = some (eD (fT r d x), H) := fun x H => aD (H := H) (iG G (k + 5) r hr.len d hd.1 hd.2 x) (by simp [eE, bC, gO]) (by simp [fS, kE])
 obtain ⟨ki, hki⟩ : ∃ z, z = u64 imm := ⟨_, rfl⟩
 have hkl : ki < 18446744073709551616 := by rw [hki]; exact iW _
 have hkv : (ki : Int) = imm := by rw [hki]; unfold u64; omega
 have k1 : aJ .u64 (I6 imm) = some (Un ki) := by rw [gX, hki]
 have k2 : aQ Tryd.prog .and 3 true (I6 imm) (.int .i64 63) = some (I6 (imm % 64)) := iQ _ _ _ (by omega) (by omega)
 obtain ⟨kj, hkj⟩ : ∃ z : Nat, (z : Int) = imm % 64 := ⟨(imm % 64).toNat, by omega⟩
 rw [← hkj] at k2
 have k3 : aJ .u64 (Nn kj) = some (Un kj) := by rw [eW, fA (by omega) (by omega)]
 have ed : cY ⟨15, d, n, m, a, imm⟩ r f = (r, sU (cK r n) (cK r m)) := rfl
 rw [ed]
 clear ed
 simp only
 generalize cK r d = rd at *
 generalize cK r n = rn at *
 generalize cK r m = rm at *
 generalize cK r a = ra at *
 unfold sU
 have k1' := yU Tryd.prog 43 false rn rm lm
 obtain ⟨x, hx⟩ : ∃ x, x = (rn + 18446744073709551616 - rm) % 18446744073709551616 := ⟨_, rfl⟩
 have hxl : x < 18446744073709551616 := by omega
 rw [← hx] at k1' ⊢
 unfold aFT
 have k2' : aQ Tryd.prog .shr 43 true (Un x) (.int .u64 63) = some (Un (x / 2 ^ 63)) := sH Tryd.prog 43 true .u64 x 63 (by omega)
 have k3' : aQ Tryd.prog .eql 43 true (Un (x / 2 ^ 63)) (.int .u64 1) = some (.bool (decide (x / 2 ^ 63 = 1))) := by rw [jV]; congr 2; simp only [decide_eq_decide]; omega
 have k4' : aQ Tryd.prog .eql 43 true (Un x) (.int .u64 0) = some (.bool (decide (x = 0))) := by rw [jV]; congr 2; simp only [decide_eq_decide]; omega
 have k5' : aQ Tryd.prog .geq 43 false (Un rn) (Un rm) = some (.bool (decide (rm ≤ rn))) := by rw [lV]; congr 2; simp only [decide_eq_decide]; omega
 have k6' : aQ Tryd.prog .xor 43 false (Un rn) (Un rm) = some (Un (rn ^^^ rm)) := by rw [yK, yV rn rm ln lm]
 have k7' : aQ Tryd.prog .xor 43 false (Un rn) (Un x) = some (Un (rn ^^^ x)) := by rw [yK, yV rn x ln hxl]
 have l6 : rn ^^^ rm < 2 ^ 64 := Nat.xor_lt_two_pow ln lm
 have l7 : rn ^^^ x < 2 ^ 64 := Nat.xor_lt_two_pow ln hxl
 obtain ⟨y, hy⟩ : ∃ y, y = (rn ^^^ rm) &&& (rn ^^^ x) := ⟨_, rfl⟩
 have k8' : aQ Tryd.prog .and 43 false (Un (rn ^^^ rm)) (Un (rn ^^^ x)) = some (Un y) := by rw [oR, vQ _ _ (by omega) (by omega), hy]
 rw [← hy]
 have k9' : aQ Tryd.prog .shr 43 true (Un y) (.int .u64 63) = some (Un (y / 2 ^ 63)) := sH Tryd.prog 43 true .u64 y 63 (by omega)
 have k10' : aQ Tryd.prog .eql 43 true (Un (y / 2 ^ 63)) (.int .u64 1) = some (.bool (decide (y / 2 ^ 63 = 1))) := by rw [jV]; congr 2; simp only [decide_eq_decide]; omega
 have x2 : ∀ p q r s, eZ 1 [.bool false, .bool false, .bool false, .bool false] [(0, .bool p), (1, .bool q), (2, .bool r), (3, .bool s)] = some (FL.a ⟨p, q, r, s⟩) := fun p q r s => rfl
 clear hx hy l6 l7 hxl
 generalize rn ^^^ rm = z1' at *
 generalize rn ^^^ x = z2' at *
 generalize decide (x / 2 ^ 63 = 1) = t1 at *
 generalize decide (x = 0) = t2 at *
 generalize decide (rm ≤ rn) = t3 at *
 generalize decide (y / 2 ^ 63 = 1) = t4 at *
 generalize x / 2 ^ 63 = z3' at *
 generalize y / 2 ^ 63 = z4' at *
 obtain ⟨ff, hff⟩ : ∃ ff : FL, ff = ⟨t1, t2, t3, t4⟩ := ⟨_, rfl⟩
 have x3 := x2 t1 t2 t3 t4
 rw [← hff] at x3 ⊢
 clear x2 hff
 rw [aL.step]
 unfold aL.c
 rw [kM, jX]
 have hZ : (List.replicate 31 0 : List Nat).length = 31 := rfl
 have z1 : eZ 1 (bV (List.replicate 31 0)) [] = some (eD (List.replicate 31 0)) := rfl
 have z2 : eZ 1 [.bool false, .bool false, .bool false, .bool false] [] = some jD.a := rfl
 have b1 : fF 44 (eD (List.replicate 31 0)) [] = some (.ptr 0 1 0 0, [⟨44, 31, [eD (List.replicate 31 0)]⟩]) := lR _ rfl []
 have b2 : fF 53 (.agg [.bool false, .bool false, .bool false, .bool false]) [⟨44, 31, [eD (List.replicate 31 0)]⟩] = some (.ptr 1 1 0 0, jN (List.replicate 31 0) jD) := rfl
 generalize List.replicate 31 0 = Z at *
 have c0 : ∀ H, dP (eD r) H = some (.rp false (eD r) 0, H) := fun H => rfl
 have c1 : ∀ H, dP f.a H = some (.rp false f.a 0, H) := fun H => rfl
 have c2 : ∀ H, aC G true 31 (.rp false (eD r) 0) H = some (eD r) := fun H => by
  rw [jK, if_pos (by rw [bL, hr.len]; exact Nat.le_refl _), List.drop_zero, List.take_of_length_le (by rw [bL, hr.len]; exact Nat.le_refl _)]
 have c3 : ∀ H, aC G true 4 (.rp false f.a 0) H = some f.a := fun H => rfl
 have c4 : ∀ q : List Nat, q.length = 31 → fB (aN 31 (.ptr 0 1 0 0) (eD q) (jN Z jD)) = some (.tup [], jN q jD) := fun q hq => lU hq hZ rfl
 have c5 : ∀ (q : List Nat) (g : FL), fB (aN 4 (.ptr 1 1 0 0) g.a (jN q jD)) = some (.tup [], jN q g) := fun q g => rfl
 have c4' := c4 r hr.len
 have c5' := c5 r ff
 refine eO ?_
 have fx := aPt r1 <| aPt g1 <| aPt g2 <| aPt g3 <| aPt g4 <| aPt k1 <| aPt k2 <| aPt k3 <| aPt b1 <| aPt b2 <| aPt c0 <| aPt c1 <| aPt c2 <| aPt c3 <| aPt z1 <| aPt z2 <| aPt k1' <| aPt k2' <| aPt k3' <| aPt k4' <| aPt k5' <| aPt k6' <| aPt k7' <| aPt k8' <| aPt k9' <| aPt k10' <| aPt x3 <| aPt c4' <| c5'
 refine kN ?_
 exact oF (iI G r hr.len ff true)
theorem aKt (G : aG) (k : Nat) (d n m a imm : Int) (hw : aU ⟨16, d, n, m, a, imm⟩ = true) (r : List Nat) (hr : RgOk r) (f : FL) :
  aL.f G (k + 7) [mV 16 d n m a imm, eD r, f.a] [] = some (pF ((cY ⟨16, d, n, m, a, imm⟩ r f).1, (cY ⟨16, d, n, m, a, imm⟩ r f).2, true), []) := by
 have r1 : ∀ H, aE (aH.f G (k + 6)) [mV 16 d n m a imm] H = _ := fun H => aD (H := H) (gR G k ⟨16, d, n, m, a, imm⟩) rfl rfl
 rw [hw] at r1
 obtain ⟨_, hd, hn, hm, ha, hf⟩ := iY hw
 have himm : 0 ≤ imm ∧ imm < 65536 := by
  unfold aU at hw
  rw [Bool.and_eq_true] at hw
  obtain ⟨_, h⟩ := hw
  simp [aO, eQ, gC, dL, gL, eU, dM] at h
  omega
 simp only at hd hn hm ha hf
 clear hw
 have ld := hr.get d
 have ln := hr.get n
 have lm := hr.get m
 have la := hr.get a
 have g : ∀ j, 0 ≤ j → j ≤ 31 → ∀ H, aE (aV.f G (k + 6)) [eD r, I6 j] H = some (Un (cK r j), H) := fun j h0 h1 H => aD (H := H) (iF G (k + 5) r hr.len j h0 h1) (by simp [eE, bC, gO]) rfl
 have g1 := g d hd.1 hd.2
 have g2 := g n hn.1 hn.2
 have g3 := g m hm.1 hm.2
 have g4 := g a ha.1 ha.2
 clear g
 have st : ∀ x H, aE (aW.f G (k + 6)) [eD r, I6 d, Un x] H = some (eD (fT r d x), H) := fun x H => aD (H := H) (iG G (k + 5) r hr.len d hd.1 hd.2 x) (by simp [eE, bC, gO]) (by simp [fS, kE])
 obtain ⟨ki, hki⟩ : ∃ z, z = u64 imm := ⟨_, rfl⟩
 have hkl : ki < 18446744073709551616 := by rw [hki]; exact iW _
 have hkv : (ki : Int) = imm := by rw [hki]; unfold u64; omega
 have k1 : aJ .u64 (I6 imm) = some (Un ki) := by rw [gX, hki]
 have k2 : aQ Tryd.prog .and 3 true (I6 imm) (.int .i64 63) = some (I6 (imm % 64)) := iQ _ _ _ (by omega) (by omega)
 obtain ⟨kj, hkj⟩ : ∃ z : Nat, (z : Int) = imm % 64 := ⟨(imm % 64).toNat, by omega⟩
 rw [← hkj] at k2
 have k3 : aJ .u64 (Nn kj) = some (Un kj) := by rw [eW, fA (by omega) (by omega)]
 have ed : cY ⟨16, d, n, m, a, imm⟩ r f = (fT r d ((if jF a f = true then cK r n else cK r m)), f) := by
  unfold cY jB
  simp only [Int.reduceEq, or_false, false_or, or_self, or_true, true_or, if_false, if_true, ↓reduceIte]
 rw [ed]
 clear ed
 simp only
 try rw [← hki]
 generalize cK r d = rd at *
 generalize cK r n = rn at *
 generalize cK r m = rm at *
 generalize cK r a = ra at *
 have o1 : ∀ H, aE (bJ.f G (k + 6)) [I6 a, f.a] H = _ := fun H => aD (H := H) (rJ G (k + 5) a f) rfl rfl
 generalize jF a f = hh at *
 rw [aL.step]
 unfold aL.c
 rw [kM, jX]
 have hZ : (List.replicate 31 0 : List Nat).length = 31 := rfl
 have z1 : eZ 1 (bV (List.replicate 31 0)) [] = some (eD (List.replicate 31 0)) := rfl
 have z2 : eZ 1 [.bool false, .bool false, .bool false, .bool false] [] = some jD.a := rfl
 have b1 : fF 44 (eD (List.replicate 31 0)) [] = some (.ptr 0 1 0 0, [⟨44, 31, [eD (List.replicate 31 0)]⟩]) := lR _ rfl []
 have b2 : fF 53 (.agg [.bool false, .bool false, .bool false, .bool false]) [⟨44, 31, [eD (List.replicate 31 0)]⟩] = some (.ptr 1 1 0 0, jN (List.replicate 31 0) jD) := rfl
 generalize List.replicate 31 0 = Z at *
 have c0 : ∀ H, dP (eD r) H = some (.rp false (eD r) 0, H) := fun H => rfl
 have c1 : ∀ H, dP f.a H = some (.rp false f.a 0, H) := fun H => rfl
 have c2 : ∀ H, aC G true 31 (.rp false (eD r) 0) H = some (eD r) := fun H => by
  rw [jK, if_pos (by rw [bL, hr.len]; exact Nat.le_refl _), List.drop_zero, List.take_of_length_le (by rw [bL, hr.len]; exact Nat.le_refl _)]
 have c3 : ∀ H, aC G true 4 (.rp false f.a 0) H = some f.a := fun H => rfl
 have c4 : ∀ q : List Nat, q.length = 31 → fB (aN 31 (.ptr 0 1 0 0) (eD q) (jN Z jD)) = some (.tup [], jN q jD) := fun q hq => lU hq hZ rfl
 have c5 : ∀ (q : List Nat) (g : FL), fB (aN 4 (.ptr 1 1 0 0) g.a (jN q jD)) = some (.tup [], jN q g) := fun q g => rfl
 refine eO ?_
 cases hh
 ·simp only [Bool.false_eq_true, if_false, if_true]
  have st' : ∀ H, aE (aW.f G (k + 6)) [eD r, I6 d, Un rm] H = some (eD (fT r d rm), H) := st rm
  have hq := iU r hr.len d rm
  generalize fT r d rm = q at *
  have c4' := c4 q hq
  have c5' := c5 q f
  have fx := aPt r1 <| aPt g1 <| aPt g2 <| aPt g3 <| aPt g4 <| aPt k1 <| aPt k2 <| aPt k3 <| aPt b1 <| aPt b2 <| aPt c0 <| aPt c1 <| aPt c2 <| aPt c3 <| aPt z1 <| aPt z2 <| aPt o1 <| aPt st' <| aPt c4' <| c5'
  refine kN ?_
  exact oF (iI G q hq f true)
 ·simp only [Bool.false_eq_true, if_false, if_true]
  have st' : ∀ H, aE (aW.f G (k + 6)) [eD r, I6 d, Un rn] H = some (eD (fT r d rn), H) := st rn
  have hq := iU r hr.len d rn
  generalize fT r d rn = q at *
  have c4' := c4 q hq
  have c5' := c5 q f
  have fx := aPt r1 <| aPt g1 <| aPt g2 <| aPt g3 <| aPt g4 <| aPt k1 <| aPt k2 <| aPt k3 <| aPt b1 <| aPt b2 <| aPt c0 <| aPt c1 <| aPt c2 <| aPt c3 <| aPt z1 <| aPt z2 <| aPt o1 <| aPt st' <| aPt c4' <| c5'
  refine kN ?_
  exact oF (iI G q hq f true)
theorem aKu (G : aG) (k : Nat) (d n m a imm : Int) (hw : aU ⟨17, d, n, m, a, imm⟩ = true) (r : List Nat) (hr : RgOk r) (f : FL) :
  aL.f G (k + 7) [mV 17 d n m a imm, eD r, f.a] [] = some (pF ((cY ⟨17, d, n, m, a, imm⟩ r f).1, (cY ⟨17, d, n, m, a, imm⟩ r f).2, true), []) := by
 have r1 : ∀ H, aE (aH.f G (k + 6)) [mV 17 d n m a imm] H = _ := fun H => aD (H := H) (gR G k ⟨17, d, n, m, a, imm⟩) rfl rfl
 rw [hw] at r1
 obtain ⟨_, hd, hn, hm, ha, hf⟩ := iY hw
 have himm : 0 ≤ imm ∧ imm < 65536 := by
  unfold aU at hw
  rw [Bool.and_eq_true] at hw
  obtain ⟨_, h⟩ := hw
  simp [aO, eQ, gC, dL, gL, eU, dM] at h
  omega
 simp only at hd hn hm ha hf
 clear hw
 have ld := hr.get d
 have ln := hr.get n
 have lm := hr.get m
 have la := hr.get a
 have g : ∀ j, 0 ≤ j → j ≤ 31 → ∀ H, aE (aV.f G (k + 6)) [eD r, I6 j] H = some (Un (cK r j), H) := fun j h0 h1 H => aD (H := H) (iF G (k + 5) r hr.len j h0 h1) (by simp [eE, bC, gO]) rfl
 have g1 := g d hd.1 hd.2
 have g2 := g n hn.1 hn.2
 have g3 := g m hm.1 hm.2
 have g4 := g a ha.1 ha.2
 clear g
 have st : ∀ x H, aE (aW.f G (k + 6)) [eD r, I6 d, Un x] H = some (eD (fT r d x), H) := fun x H => aD (H := H) (iG G (k + 5) r hr.len d hd.1 hd.2 x) (by simp [eE, bC, gO]) (by simp [fS, kE])
 obtain ⟨ki, hki⟩ : ∃ z, z = u64 imm := ⟨_, rfl⟩
 have hkl : ki < 18446744073709551616 := by rw [hki]; exact iW _
 have hkv : (ki : Int) = imm := by rw [hki]; unfold u64; omega
 have k1 : aJ .u64 (I6 imm) = some (Un ki) := by rw [gX, hki]
 have k2 : aQ Tryd.prog .and 3 true (I6 imm) (.int .i64 63) = some (I6 (imm % 64)) := iQ _ _ _ (by omega) (by omega)
 obtain ⟨kj, hkj⟩ : ∃ z : Nat, (z : Int) = imm % 64 := ⟨(imm % 64).toNat, by omega⟩
 rw [← hkj] at k2
 have k3 : aJ .u64 (Nn kj) = some (Un kj) := by rw [eW, fA (by omega) (by omega)]
 have ed : cY ⟨17, d, n, m, a, imm⟩ r f = (fT r d ((if jF a f = true then 1 else 0)), f) := by
  unfold cY jB
  simp only [Int.reduceEq, or_false, false_or, or_self, or_true, true_or, if_false, if_true, ↓reduceIte]
 rw [ed]
 clear ed
 simp only
 try rw [← hki]
 generalize cK r d = rd at *
 generalize cK r n = rn at *
 generalize cK r m = rm at *
 generalize cK r a = ra at *
 have o1 : ∀ H, aE (bJ.f G (k + 6)) [I6 a, f.a] H = _ := fun H => aD (H := H) (rJ G (k + 5) a f) rfl rfl
 generalize jF a f = hh at *
 rw [aL.step]
 unfold aL.c
 rw [kM, jX]
 have hZ : (List.replicate 31 0 : List Nat).length = 31 := rfl
 have z1 : eZ 1 (bV (List.replicate 31 0)) [] = some (eD (List.replicate 31 0)) := rfl
 have z2 : eZ 1 [.bool false, .bool false, .bool false, .bool false] [] = some jD.a := rfl
 have b1 : fF 44 (eD (List.replicate 31 0)) [] = some (.ptr 0 1 0 0, [⟨44, 31, [eD (List.replicate 31 0)]⟩]) := lR _ rfl []
 have b2 : fF 53 (.agg [.bool false, .bool false, .bool false, .bool false]) [⟨44, 31, [eD (List.replicate 31 0)]⟩] = some (.ptr 1 1 0 0, jN (List.replicate 31 0) jD) := rfl
 generalize List.replicate 31 0 = Z at *
 have c0 : ∀ H, dP (eD r) H = some (.rp false (eD r) 0, H) := fun H => rfl
 have c1 : ∀ H, dP f.a H = some (.rp false f.a 0, H) := fun H => rfl
 have c2 : ∀ H, aC G true 31 (.rp false (eD r) 0) H = some (eD r) := fun H => by
  rw [jK, if_pos (by rw [bL, hr.len]; exact Nat.le_refl _), List.drop_zero, List.take_of_length_le (by rw [bL, hr.len]; exact Nat.le_refl _)]
 have c3 : ∀ H, aC G true 4 (.rp false f.a 0) H = some f.a := fun H => rfl
 have c4 : ∀ q : List Nat, q.length = 31 → fB (aN 31 (.ptr 0 1 0 0) (eD q) (jN Z jD)) = some (.tup [], jN q jD) := fun q hq => lU hq hZ rfl
 have c5 : ∀ (q : List Nat) (g : FL), fB (aN 4 (.ptr 1 1 0 0) g.a (jN q jD)) = some (.tup [], jN q g) := fun q g => rfl
 refine eO ?_
 cases hh
 ·simp only [Bool.false_eq_true, if_false, if_true]
  have st' : ∀ H, aE (aW.f G (k + 6)) [eD r, I6 d, .int .u64 0] H = some (eD (fT r d 0), H) := st 0
  have hq := iU r hr.len d 0
  generalize fT r d 0 = q at *
  have c4' := c4 q hq
  have c5' := c5 q f
  have fx := aPt r1 <| aPt g1 <| aPt g2 <| aPt g3 <| aPt g4 <| aPt k1 <| aPt k2 <| aPt k3 <| aPt b1 <| aPt b2 <| aPt c0 <| aPt c1 <| aPt c2 <| aPt c3 <| aPt z1 <| aPt z2 <| aPt o1 <| aPt st' <| aPt c4' <| c5'
  refine kN ?_
  exact oF (iI G q hq f true)
 ·simp only [Bool.false_eq_true, if_false, if_true]
  have st' : ∀ H, aE (aW.f G (k + 6)) [eD r, I6 d, .int .u64 1] H = some (eD (fT r d 1), H) := st 1
  have hq := iU r hr.len d 1
  generalize fT r d 1 = q at *
  have c4' := c4 q hq
  have c5' := c5 q f
  have fx := aPt r1 <| aPt g1 <| aPt g2 <| aPt g3 <| aPt g4 <| aPt k1 <| aPt k2 <| aPt k3 <| aPt b1 <| aPt b2 <| aPt c0 <| aPt c1 <| aPt c2 <| aPt c3 <| aPt z1 <| aPt z2 <| aPt o1 <| aPt st' <| aPt c4' <| c5'
  refine kN ?_
  exact oF (iI G q hq f true)
theorem aHb (G : aG) (k : Nat) (i : MI) (r : List Nat) (hr : RgOk r) (f : FL) : aL.f G (k + 7) [i.v, eD r, f.a] [] = some (pF (aHZ i r f), []) := by
 unfold aHZ
 by_cases h : aU i = true ∧ i.op ≤ 17
 ·rw [if_pos h]
  have h24 := qF h.1
  obtain ⟨op, d, n, m, a, imm⟩ := i
  obtain ⟨hw, h17⟩ := h
  simp only at h17 h24
  show aL.f G (k + 7) [mV op d n m a imm, eD r, f.a] [] = _
  have h17' : op = 1 ∨ op = 2 ∨ op = 3 ∨ op = 4 ∨ op = 5 ∨ op = 6 ∨ op = 7 ∨ op = 8 ∨ op = 9 ∨ op = 10 ∨ op = 11 ∨ op = 12 ∨ op = 13 ∨ op = 14 ∨ op = 15 ∨ op = 16 ∨ op = 17 := by omega
  rcases h17' with rfl | rfl | rfl | rfl | rfl | rfl | rfl | rfl | rfl | rfl | rfl | rfl | rfl | rfl | rfl | rfl | rfl
  ·exact aMN G k d n m a imm hw r hr f
  ·exact aMO G k d n m a imm hw r hr f
  ·exact aMP G k d n m a imm hw r hr f
  ·exact aMQ G k d n m a imm hw r hr f
  ·exact aMR G k d n m a imm hw r hr f
  ·exact aMS G k d n m a imm hw r hr f
  ·exact aMT G k d n m a imm hw r hr f
  ·exact aMU G k d n m a imm hw r hr f
  ·exact aMV G k d n m a imm hw r hr f
  ·exact aKn G k d n m a imm hw r hr f
  ·exact aKo G k d n m a imm hw r hr f
  ·exact aKp G k d n m a imm hw r hr f
  ·exact aKq G k d n m a imm hw r hr f
  ·exact aKr G k d n m a imm hw r hr f
  ·exact aKs G k d n m a imm hw r hr f
  ·exact aKt G k d n m a imm hw r hr f
  ·exact aKu G k d n m a imm hw r hr f
 ·rw [if_neg h]
  have r1 : ∀ H, aE (aH.f G (k + 6)) [i.v] H = _ := fun H => aD (H := H) (gR G k i) rfl rfl
  rw [aL.step]
  unfold aL.c
  rw [kM, jX]
  have hZ : (List.replicate 31 0 : List Nat).length = 31 := rfl
  have z1 : eZ 1 (bV (List.replicate 31 0)) [] = some (eD (List.replicate 31 0)) := rfl
  have z2 : eZ 1 [.bool false, .bool false, .bool false, .bool false] [] = some jD.a := rfl
  have b1 : fF 44 (eD (List.replicate 31 0)) [] = some (.ptr 0 1 0 0, [⟨44, 31, [eD (List.replicate 31 0)]⟩]) := lR _ rfl []
  have b2 : fF 53 (.agg [.bool false, .bool false, .bool false, .bool false]) [⟨44, 31, [eD (List.replicate 31 0)]⟩] = some (.ptr 1 1 0 0, jN (List.replicate 31 0) jD) := rfl
  have c0 : ∀ H, dP (eD r) H = some (.rp false (eD r) 0, H) := fun H => rfl
  have c1 : ∀ H, dP f.a H = some (.rp false f.a 0, H) := fun H => rfl
  have c4 : fB (aN 31 (.ptr 0 1 0 0) (eD (List.replicate 31 0)) (jN (List.replicate 31 0) jD)) = some (.tup [], jN (List.replicate 31 0) jD) := lU hZ hZ rfl
  have c5 : ∀ (q : List Nat) (g : FL), fB (aN 4 (.ptr 1 1 0 0) g.a (jN q jD)) = some (.tup [], jN q g) := fun q g => rfl
  generalize List.replicate 31 0 = Z at *
  obtain ⟨op, d, n, m, a, imm⟩ := i
  simp only at h
  generalize aU ⟨op, d, n, m, a, imm⟩ = b at *
  unfold MI.v at *
  simp only at *
  refine eO ?_
  cases b
  ·have fx := aPt r1 <| aPt b1 <| aPt b2 <| aPt c0 <| aPt c1 <| aPt z1 <| aPt z2 <| aPt c4 <| c5
   refine kN ?_
   exact oF (iI G Z hZ jD false)
  ·have h17 : ¬ op ≤ 17 := fun h2 => h ⟨rfl, h2⟩
   have fx := aPt r1 <| aPt b1 <| aPt b2 <| aPt c0 <| aPt c1 <| aPt z1 <| aPt z2 <| aPt c4 <| c5
   refine kN ?_
   exact oF (iI G Z hZ jD false)
def QS.tailR (s : QS) : List AV := [.sl 6 s.leaks.length 0 s.leaks.length 2, Nn s.steps]
def QS.cellsR (s : QS) : List AV := I6 s.code :: .sl 2 s.mem.length 0 s.mem.length 1 :: (bV s.regs ++ s.tailR)
def jY (b0 : ABlk) (T : aF) (s : QS) : aF :=
 b0 :: ⟨43, 1, []⟩ :: ⟨43, 1, bV s.mem⟩ :: ⟨46, 35, [.agg s.cellsR]⟩ :: ⟨53, 4, [s.flags.a]⟩ :: ⟨107, 2, []⟩ :: ⟨107, 2, dK s.leaks⟩ :: T
abbrev RX : AV := .ptr 3 1 0 0
section
variable (G : aG) (b0 : ABlk) (T : aF) (s : QS)
theorem aOO (o : Nat) : aC G false 1 (.ptr 3 1 0 o) (jY b0 T s) = s.cellsR[o]? := rfl
theorem aLG (o z : Nat) : aC G true z (.ptr 3 1 0 o) (jY b0 T s) = if o + z ≤ s.cellsR.length then some (.agg ((s.cellsR.drop o).take z)) else none := rfl
variable (hr : s.regs.length = 31)
theorem aHd (j : Nat) (hr : s.regs.length = 31) : s.cellsR[33 + j]? = s.tailR[j]? := by
 unfold QS.cellsR
 have e : 33 + j = 31 + j + 1 + 1 := by omega
 rw [e, List.getElem?_cons_succ, List.getElem?_cons_succ, List.getElem?_append_right (by rw [bL]; omega), bL, hr]
 congr 1; omega
theorem kI (hr : s.regs.length = 31) : s.cellsR.length = 35 := by
 simp [QS.cellsR, QS.tailR, bL, hr]
include hr in
theorem aGm (j : Nat) : aC G false 1 (.ptr 3 1 0 (33 + j)) (jY b0 T s) = s.tailR[j]? := by
 rw [aOO, aHd _ _ hr]
include hr in
theorem aIG : aC G false 1 (.ptr 3 1 0 33) (jY b0 T s) = some (.sl 6 s.leaks.length 0 s.leaks.length 2) := aGm G b0 T s hr 0
include hr in
theorem aLE : aC G false 1 (.ptr 3 1 0 34) (jY b0 T s) = some (Nn s.steps) := aGm G b0 T s hr 1
theorem aOM : aC G false 1 (.ptr 3 1 0 1) (jY b0 T s) = some (.sl 2 s.mem.length 0 s.mem.length 1) := rfl
include hr in
theorem aGl : aC G true 31 (.ptr 3 1 0 2) (jY b0 T s) = some (eD s.regs) := by
 rw [aLG, kI _ hr, if_pos (by omega)]
 have hl : (bV s.regs).length = 31 := by rw [bL, hr]
 have e : (s.cellsR.drop 2).take 31 = bV s.regs := by
  unfold QS.cellsR
  rw [show 2 = 0 + 1 + 1 from rfl, List.drop_succ_cons, List.drop_succ_cons, List.drop_zero, List.take_append, hl, List.take_of_length_le (by omega)]
  simp
 rw [e]
theorem aLF : aC G true 4 (.ptr 4 1 0 0) (jY b0 T s) = some s.flags.a := rfl
include hr in
theorem aEY : aC G true 35 RX (jY b0 T s) = some (.agg s.cellsR) := by
 rw [aLG, kI _ hr, if_pos (by omega), List.drop_zero, List.take_of_length_le (by rw [kI _ hr]; exact Nat.le_refl _)]
theorem aOg (o : Nat) (v : AV) (hv : fH v = true) (h1 : v.cells = [v]) (ho : o < 35) (hr : s.regs.length = 31) : fB (aN 1 (.ptr 3 1 0 o) v (jY b0 T s)) =
  some (.tup [], (jY b0 T s).set 3 ⟨46, 35, [.agg (jP s.cellsR o [v])]⟩) := by
 have e : (jY b0 T s)[3]? = some ⟨46, 35, [.agg s.cellsR]⟩ := rfl
 have e2 : (AV.agg s.cellsR).cells = s.cellsR := rfl
 unfold aN
 simp only [e, List.length_singleton, hv, List.getElem?_cons_zero, h1]
 rw [if_pos (by simp), e2, if_pos (by rw [kI _ hr]; omega)]
 rfl
theorem aBx (j : Nat) (v : AV) (hr : s.regs.length = 31) : jP s.cellsR (33 + j) [v] = I6 s.code :: .sl 2 s.mem.length 0 s.mem.length 1 :: (bV s.regs ++ jP s.tailR j [v]) := by
 have hl : (bV s.regs).length = 31 := by rw [bL, hr]
 unfold QS.cellsR jP
 rw [show 33 + j = 31 + j + 1 + 1 by omega, List.take_succ_cons, List.take_succ_cons, show 31 + j + 1 + 1 + [v].length = 31 + (j + [v].length) + 1 + 1 by omega, List.drop_succ_cons, List.drop_succ_cons,
  List.take_append, hl, List.take_of_length_le (by omega), List.drop_append, hl, List.drop_of_length_le (by omega)]
 simp only [Nat.add_sub_cancel_left, List.nil_append, List.cons_append, List.append_assoc]
theorem aOd (n : Int) (hr : s.regs.length = 31) : fB (aN 1 (.ptr 3 1 0 0) (I6 n) (jY b0 T s)) = some (.tup [], jY b0 T { s with code := n }) := aOg b0 T s 0 (I6 n) rfl rfl (by decide) hr
theorem aOe (n : Nat) (hr : s.regs.length = 31) : fB (aN 1 (.ptr 3 1 0 34) (Nn n) (jY b0 T s)) = some (.tup [], jY b0 T { s with steps := n }) := by
 rw [aOg b0 T s 34 (Nn n) rfl rfl (by decide) hr, aBx s 1 (Nn n) hr]; rfl
theorem aOf (f : FL) : fB (aN 4 (.ptr 4 1 0 0) f.a (jY b0 T s)) = some (.tup [], jY b0 T { s with flags := f }) := rfl
theorem aLH (q : List Nat) (hq : q.length = 31) (hr : s.regs.length = 31) : fB (aN 31 (.ptr 3 1 0 2) (eD q) (jY b0 T s)) = some (.tup [], jY b0 T { s with regs := q }) := by
 have e : (jY b0 T s)[3]? = some ⟨46, 35, [.agg s.cellsR]⟩ := rfl
 have e2 : (AV.agg s.cellsR).cells = s.cellsR := rfl
 have e3 : (eD q).cells = bV q := rfl
 have hs : fH (eD q) = true := rfl
 have hl : (bV s.regs).length = 31 := by rw [bL, hr]
 have hlq : (bV q).length = 31 := by rw [bL, hq]
 have e4 : jP s.cellsR 2 (bV q) = QS.cellsR { s with regs := q } := by
  show jP (I6 s.code :: .sl 2 s.mem.length 0 s.mem.length 1 :: (bV s.regs ++ s.tailR)) 2 _ = I6 s.code :: .sl 2 s.mem.length 0 s.mem.length 1 :: (bV q ++ s.tailR)
  unfold jP
  rw [hlq, show 2 = 0 + 1 + 1 from rfl, List.take_succ_cons, List.take_succ_cons, List.take_zero, show 0 + 1 + 1 + 31 = 31 + 1 + 1 from rfl, List.drop_succ_cons, List.drop_succ_cons, List.drop_append, hl, List.drop_of_length_le (by omega)]
  simp
 unfold aN
 simp only [e, List.length_singleton, hs, List.getElem?_cons_zero, e3]
 rw [if_pos (by refine ⟨?_, ?_, ?_⟩ <;> first | trivial | exact hlq), e2, if_pos (by rw [kI _ hr]; decide), e4]
 rfl
theorem aML (n : Nat) : cF 1 (.sl 2 s.mem.length 0 s.mem.length 1) (Un n) = if n < s.mem.length then some (.ptr 2 s.mem.length n 0) else none := by
 have h0 : (0 : Int) ≤ (n : Int) := by omega
 by_cases h : n < s.mem.length
 ·have h' : (n : Int) < (s.mem.length : Int) := by omega
  rw [if_pos h]
  simp [cF, h0, h']
 ·have h' : ¬ (n : Int) < (s.mem.length : Int) := by omega
  rw [if_neg h]
  simp [cF, h0, h']
theorem aON (j : Nat) (h : j < s.mem.length) : aC G false 1 (.ptr 2 s.mem.length j 0) (jY b0 T s) = some (Un (s.mem.getD j 0)) := by
 have e : (jY b0 T s)[2]? = some ⟨43, 1, bV s.mem⟩ := rfl
 unfold aC
 simp only [e, bL, lQ _ _ h, if_true]
 rfl
theorem aOP (j x : Nat) (h : j < s.mem.length) : fB (aN 1 (.ptr 2 s.mem.length j 0) (Un x) (jY b0 T s)) = some (.tup [], jY b0 T { s with mem := s.mem.set j x }) := by
 have e : (jY b0 T s)[2]? = some ⟨43, 1, bV s.mem⟩ := rfl
 have e2 : QS.cellsR { s with mem := s.mem.set j x } = s.cellsR := by
  unfold QS.cellsR QS.tailR
  simp only [List.length_set]
 unfold aN
 simp only [e, bL, lQ _ _ h]
 unfold jY
 rw [e2]
 simp only [rV]
 rfl
theorem aKk (p : Int × Int) (hl : s.leaks.length ≤ 1000000) : fI 107 2 (.sl 6 s.leaks.length 0 s.leaks.length 2) (.ro false [iD p]) (jY b0 T s) =
  some (.sl 6 (s.leaks.length + 1) 0 (s.leaks.length + 1) 2, (jY b0 T s).set 6 ⟨107, 2, dK (s.leaks ++ [p])⟩) := by
 have e : (jY b0 T s)[6]? = some ⟨107, 2, dK s.leaks⟩ := rfl
 unfold fI
 simp only [e, iX, iB, List.length_singleton]
 rw [if_pos (by refine ⟨?_, ?_, ?_, ?_, ?_⟩ <;> first | trivial | rfl | omega)]
 have e2 : (dK s.leaks).take s.leaks.length = dK s.leaks := List.take_of_length_le (by rw [iB]; exact Nat.le_refl _)
 have e3 : (dK s.leaks).drop (s.leaks.length + 1) = [] := List.drop_of_length_le (by rw [iB]; omega)
 rw [e2, e3, List.append_nil]
 have e4 : dK s.leaks ++ [iD p] = dK (s.leaks ++ [p]) := by simp [dK]
 rw [e4, iB]; simp
theorem aKv (p : Int × Int) (hr : s.regs.length = 31) : fB (aN 1 (.ptr 3 1 0 33) (.sl 6 (s.leaks.length + 1) 0 (s.leaks.length + 1) 2) ((jY b0 T s).set 6 ⟨107, 2, dK (s.leaks ++ [p])⟩)) =
  some (.tup [], jY b0 T (s.leak p.1 p.2)) := by
 have e : ((jY b0 T s).set 6 ⟨107, 2, dK (s.leaks ++ [p])⟩)[3]? = some ⟨46, 35, [.agg s.cellsR]⟩ := rfl
 have e2 : (AV.agg s.cellsR).cells = s.cellsR := rfl
 have e3 : QS.cellsR (s.leak p.1 p.2) = I6 s.code :: .sl 2 s.mem.length 0 s.mem.length 1 :: (bV s.regs ++ jP s.tailR 0 [.sl 6 (s.leaks.length + 1) 0 (s.leaks.length + 1) 2]) := by
  unfold QS.cellsR QS.tailR QS.leak
  simp only [List.length_append, List.length_singleton]
  rfl
 have e4 := aBx s 0 (.sl 6 (s.leaks.length + 1) 0 (s.leaks.length + 1) 2) hr
 unfold aN
 simp only [e, List.length_singleton, List.getElem?_cons_zero]
 rw [if_pos (by refine ⟨?_, ?_, ?_⟩ <;> first | trivial | rfl), e2, if_pos (by rw [kI _ hr]; decide)]
 have e5 : (AV.sl 6 (s.leaks.length + 1) 0 (s.leaks.length + 1) 2).cells = [.sl 6 (s.leaks.length + 1) 0 (s.leaks.length + 1) 2] := rfl
 have e4' : jP s.cellsR 33 [.sl 6 (s.leaks.length + 1) 0 (s.leaks.length + 1) 2] = _ := e4
 rw [e5, e4', ← e3]
 rfl
theorem nW (n : Nat) : ∀ xs ys : List AV, dE n xs = true → dE n ys = true → dE n (xs ++ ys) = true
 | [], ys, _, h => h
 | x :: xs, ys, h1, h2 => by
  simp only [dE, Bool.and_eq_true] at h1
  simp [dE, h1.1, nW n xs ys h1.2 h2]
theorem aLC (hb : dE 7 b0.elems = true) (xs : List AV) (hx : dE 7 xs = true) : iL 7 xs (jY b0 T s) = some (jY b0 [] s) := by
 have e : (jY b0 T s).take 7 = jY b0 [] s := rfl
 have h1 : dE 7 s.cellsR = true := by
  unfold QS.cellsR
  simp [dE, cG, nW, iE, QS.tailR]
 have h2 : dS 7 (jY b0 [] s) = true := by
  simp [jY, dS, dE, cG, hb, iE, kB, h1, FL.a]
 unfold iL
 rw [e, hx, h2]; rfl
theorem aFc (T' : Nat) (z cs : List AV) (hz : z.length = 35) (hc : cs.length = 35) : fB (aN 35 (.ptr 0 1 0 0) (.agg cs) (jY (bR T' z) T s)) = some (.tup [], jY (bR T' cs) T s) := by
 have e : (jY (bR T' z) T s)[0]? = some ⟨T', 35, [.agg z]⟩ := rfl
 have e2 : jP z 0 cs = cs := by
  unfold jP
  rw [List.take_zero, List.nil_append, List.drop_of_length_le (by omega), List.append_nil]
 have e3 : (AV.agg cs).cells = cs := rfl
 have e4 : (AV.agg z).cells = z := rfl
 have hs : fH (.agg cs) = true := rfl
 unfold aN
 simp only [e, List.length_singleton, hs, List.getElem?_cons_zero, e3]
 rw [if_pos (by refine ⟨?_, ?_, ?_⟩ <;> first | trivial | exact hc), e4, if_pos (by omega), e2]
 rfl
end
theorem aNL {b : Bool} {xs : List AV} {j : Nat} {k : IntKind} {n : Int} (h : xs[j]? = some (.int k n)) : cF 1 (.ro b xs) (Nn j) = some (.rp b (.int k n) 0) := by
 have h0 : (0 : Int) ≤ (j : Int) := by omega
 unfold cF
 simp only [Int.toNat_natCast, h]
 rw [if_pos h0]
 rfl
abbrev bZ : ABlk := ⟨46, 35, [.agg (I6 0 :: .nils :: (bV (List.replicate 31 0) ++ [.nils, .int .i64 0]))]⟩
theorem aCU (n : Nat) : dE n bZ.elems = true := by simp [bZ, dE, cG, nW, iE]
def yD (l : List Nat) : aF := [bZ, ⟨43, 1, []⟩, ⟨43, 1, bV l⟩]
theorem aAE (G : aG) (k : Nat) (self : dA) (b : Bool) (mem : List Nat) (hml : mem.length ≤ 1000000) : ∀ (suf pre : List Nat) (f : Nat), mem = pre ++ suf → suf.length < f →
  gP (aY.l3 G k 3 self) f [.ro b (bV mem), .sl 2 pre.length 0 pre.length 1, Nn pre.length] (yD pre) = some (.exit 0, [.ro b (bV mem), .sl 2 mem.length 0 mem.length 1, Nn mem.length], yD mem)
 | suf, pre, 0, hm, hf => by omega
 | [], pre, f + 1, hm, hf => by
  rw [fD, aY.l3]
  have hl : mem = pre := by rw [hm]; simp
  have hc : iL 3 [.ro b (bV mem), .sl 2 pre.length 0 pre.length 1, Nn pre.length] (yD pre) = some (yD pre) := by
   have hz := aCU 3; simp only [bZ] at hz; simp [iL, yD, dE, cG, dS, iE, nW]
  have lc : dH (.ro b (bV mem)) = some (I6 mem.length) := by simp [dH, bL]
  have q : aQ Tryd.prog .lss 3 false (Nn pre.length) (Nn mem.length) = some (.bool false) := by rw [kU, decide_eq_false (by rw [hl]; omega)]
  refine jQ ?_
  refine eC hc ?_
  have fx := aPt lc <| q
  refine gI ?_
  rw [hl]
  refine gY ?_; rfl
 | a :: suf, pre, f + 1, hm, hf => by
  rw [fD, aY.l3]
  have hl : mem.length = pre.length + (suf.length + 1) := by rw [hm]; simp
  have hc : iL 3 [.ro b (bV mem), .sl 2 pre.length 0 pre.length 1, Nn pre.length] (yD pre) = some (yD pre) := by
   have hz := aCU 3; simp only [bZ] at hz; simp [iL, yD, dE, cG, dS, iE, nW]
  have lc : dH (.ro b (bV mem)) = some (I6 mem.length) := by simp [dH, bL]
  have q : aQ Tryd.prog .lss 3 false (Nn pre.length) (Nn mem.length) = some (.bool true) := by rw [kU, decide_eq_true (by omega)]
  have ha : mem.getD pre.length 0 = a := by rw [hm]; simp [List.getD]
  have d1 : cF 1 (.ro b (bV mem)) (Nn pre.length) = some (.rp b (Un a) 0) := by
   have := lQ mem pre.length (by omega)
   rw [ha] at this
   exact aNL this
  have d2 : ∀ H, aC G false 1 (.rp b (Un a) 0) H = some (Un a) := fun H => rfl
  have d3 : fI 43 1 (.sl 2 pre.length 0 pre.length 1) (.ro false [Un a]) (yD pre) = some (.sl 2 (pre ++ [a]).length 0 (pre ++ [a]).length 1, yD (pre ++ [a])) := by
   have e : (yD pre)[2]? = some ⟨43, 1, bV pre⟩ := rfl
   unfold fI
   simp only [e, iX, bL, List.length_singleton]
   rw [if_pos (by refine ⟨?_, ?_, ?_, ?_, ?_⟩ <;> first | trivial | rfl | omega)]
   have e2 : (bV pre).take pre.length = bV pre := List.take_of_length_le (by rw [bL]; exact Nat.le_refl _)
   have e3 : (bV pre).drop (pre.length + 1) = [] := List.drop_of_length_le (by rw [bL]; omega)
   rw [e2, e3, List.append_nil]
   have e4 : bV pre ++ [Un a] = bV (pre ++ [a]) := by simp [bV]
   rw [e4, bL]; simp [yD]
  have d4 : aQ Tryd.prog .add 3 true (Nn pre.length) (.int .i64 1) = some (Nn (pre ++ [a]).length) := by
   rw [kA, fP (by omega) (by omega)]; congr 2; simp
  have ih := aAE G k self b mem hml suf (pre ++ [a]) f (by rw [hm]; simp) (by simp at hf; omega)
  refine jQ ?_
  refine eC hc ?_
  have fx := aPt lc <| aPt q <| aPt d1 <| aPt d2 <| aPt d3 <| d4
  refine gI ?_
  exact ih
theorem aFq (G : aG) (k : Nat) (b : Bool) (mem : List Nat) (hml : mem.length ≤ 1000000) (hk : mem.length < k) : aY.f G (k + 1) [.ro b (bV mem)] [bZ] = some (.sl 2 mem.length 0 mem.length 1, yD mem) := by
 rw [aY.step]
 unfold aY.c
 have lc : dH (.ro b (bV mem)) = some (I6 mem.length) := by simp [dH, bL]
 have ms : jH 43 1 (.int .u64 0) (.int .i64 0) (I6 mem.length) [bZ, ⟨43, 1, []⟩] = some (.sl 2 0 0 0 1, yD []) := by
  unfold jH
  simp only
  rw [if_pos (by omega)]
  rfl
 have lp : gP (aY.l3 G k 3 (aY.f G k)) k [.ro b (bV mem), .sl 2 0 0 0 1, .int .i64 0] (yD []) = _ := aAE G k (aY.f G k) b mem hml mem [] k rfl hk
 refine eO ?_
 have fx := aPt lc <| ms
 have lx1 := lp
 refine gI ?_
 refine gY ?_; rfl
theorem aHf (G : aG) (k : Nat) (b : Bool) : bT.f G (k + 1) [.bool b] [] = some (I6 (if b = true then 1 else 0), []) := by
 rw [bT.step]
 unfold bT.c
 refine eO ?_
 cases b
 ·have fx := True.intro
  refine gI ?_
  exact tP rfl
 ·have fx := True.intro
  refine gI ?_
  exact tP rfl
def xsR (fuel : Int) (bor : Bool) (cs : List Int) (pc : Int) : List AV := [.ro bor (iP cs), I6 fuel, .ptr 0 1 0 0, RX, .ptr 4 1 0 0, I6 pc]
theorem aBK (fuel : Int) (bor : Bool) (cs : List Int) (pc : Int) : dE 7 (xsR fuel bor cs pc) = true := by simp [xsR, dE, cG, qW]
section
variable (G : aG) (k : Nat) (self : dA) (z : List AV) (hz : z.length = 35) (hzb : dE 7 z = true) (bor : Bool) (cs : List Int) (fuel : Int) (lp : iV)
theorem t7v (b0 : ABlk) (i : MI) (l : aF) (t : QS) : aC G true 6 (.ptr 7 1 0 0) (jY b0 (⟨57, 6, [i.v]⟩ :: l) t) = some i.v := rfl
theorem t70 (b0 : ABlk) (i : MI) (l : aF) (t : QS) : aC G false 1 (.ptr 7 1 0 0) (jY b0 (⟨57, 6, [i.v]⟩ :: l) t) = some (I6 i.op) := rfl
theorem t71 (b0 : ABlk) (i : MI) (l : aF) (t : QS) : aC G false 1 (.ptr 7 1 0 1) (jY b0 (⟨57, 6, [i.v]⟩ :: l) t) = some (I6 i.d) := rfl
theorem t72 (b0 : ABlk) (i : MI) (l : aF) (t : QS) : aC G false 1 (.ptr 7 1 0 2) (jY b0 (⟨57, 6, [i.v]⟩ :: l) t) = some (I6 i.n) := rfl
theorem t74 (b0 : ABlk) (i : MI) (l : aF) (t : QS) : aC G false 1 (.ptr 7 1 0 4) (jY b0 (⟨57, 6, [i.v]⟩ :: l) t) = some (I6 i.a) := rfl
theorem t75 (b0 : ABlk) (i : MI) (l : aF) (t : QS) : aC G false 1 (.ptr 7 1 0 5) (jY b0 (⟨57, 6, [i.v]⟩ :: l) t) = some (I6 i.imm) := rfl
def aEZ (lp : iV) (z : List AV) (fuel : Int) (bor : Bool) (cs : List Int) (q : QS × Bool) (m : Option fZ) : Prop :=
 if q.2 = true then ∃ T, m = lp (xsR fuel bor cs q.1.at_) (jY (bR 46 z) T q.1)
 else ∃ T xs, m = some (.ret, xs, jY (bR 46 q.1.cellsR) T q.1) ∧ aI xs 2 = .ptr 0 1 0 0
include hz hzb in
theorem aFa (T0 : aF) (s : QS) (hs : s.Ok) (hc : s.code = 3) (h1 : 0 ≤ s.at_) (h2 : s.at_ < cs.length) (h3 : (s.steps : Int) < fuel) (hf : fuel ≤ 99999) (hcl : cs.length ≤ 100000) (w0 : 0 ≤ cs.getD s.at_.toNat 0 ∧ cs.getD s.at_.toNat 0 < 4294967296) :
  aEZ lp z fuel bor cs (s.tick.step (cs.getD s.at_.toNat 0)) (aX.l4 G (k + 41) 7 self lp (xsR fuel bor cs s.at_) (jY (bR 46 z) T0 s)) := by
 have few := hs.few
 have lks := hs.leaks
 have hr := hs.rg.len
 have hb : dE 7 (bR 46 z).elems = true := by simp [bR, dE, cG, hzb]
 have hcut := aLC (bR 46 z) T0 s hb _ (aBK fuel bor cs s.at_)
 rw [aX.l4, kM]
 have hZ : (List.replicate 31 0 : List Nat).length = 31 := rfl
 generalize List.replicate 31 0 = Z at *
 have c2 : dH (.ro bor (iP cs)) = some (Nn cs.length) := by simp [dH, vZ]
 have n0 : aQ Tryd.prog .lss 3 true (I6 s.at_) (.int .i64 0) = some (.bool false) := yR (by omega)
 have n1 : aQ Tryd.prog .geq 3 false (I6 s.at_) (Nn cs.length) = some (.bool false) := vD (by omega)
 have n2 : aQ Tryd.prog .geq 2 false (Nn s.steps) (I6 fuel) = some (.bool false) := vD (by omega)
 have n3 : aQ Tryd.prog .add 2 true (Nn s.steps) (.int .i64 1) = some (Nn (s.steps + 1)) := by
  rw [kA, fP (by omega) (by omega)]; congr 2
 have f0 : aA 0 RX = some RX := rfl
 have f1 : aA 1 RX = some (.ptr 3 1 0 1) := rfl
 have f2 : aA 2 RX = some (.ptr 3 1 0 2) := rfl
 have f33 : aA 33 RX = some (.ptr 3 1 0 33) := rfl
 have f34 : aA 34 RX = some (.ptr 3 1 0 34) := rfl
 have c3 := aLE G (bR 46 z) [] s hr
 have c4 := aOe (bR 46 z) [] s (s.steps + 1) hr
 have c5 := aIG G (bR 46 z) [] { s with steps := s.steps + 1 } hr
 have ll : s.leaks.length ≤ 999990 := by omega
 have c6 := aKk (bR 46 z) [] { s with steps := s.steps + 1 } (1, s.at_) (by simp only; omega)
 have c7 := aKv (bR 46 z) [] { s with steps := s.steps + 1 } (1, s.at_) hr
 have bl : ∀ a b : Int, bA [(0, 1), (1, 1)] [(.int .i64 0), (.int .i64 0)] [(0, I6 a), (1, I6 b)] = some (iD (a, b)) := fun a b => rfl
 have br : ∀ (a b : Int) H, fK 2 1 (.agg [(.int .i64 0), (.int .i64 0)]) [(0, iD (a, b))] H = some (.ro false [iD (a, b)], H) := fun a b H => rfl
 have bl1 : bA [(0, 1), (1, 1)] [(.int .i64 0), (.int .i64 0)] [(0, (.int .i64 1)), (1, I6 s.at_)] = some (iD (1, s.at_)) := rfl
 have br1 := br 1 s.at_
 have et : (({ s with steps := s.steps + 1 } : QS).leak 1 s.at_) = s.tick := rfl
 simp only at c5 c6 c7
 rw [et] at c7
 have c8 := wAt bor cs s.at_ h1 h2
 have c9 : ∀ w H, aC G false 1 (.rp bor (dF w) 0) H = some (dF w) := fun w H => rfl
 have okt : s.tick.Ok := ⟨hs.rg, hs.mem, by simp [QS.tick, QS.leak]; omega, hs.big, by simp [QS.tick, QS.leak]; omega⟩
 have tll : s.tick.leaks.length ≤ 999995 := by simp [QS.tick, QS.leak]; omega
 have tc : s.tick.code = 3 := hc
 have tat : s.tick.at_ = s.at_ := rfl
 generalize cs.getD s.at_.toNat 0 = w at *
 obtain ⟨t, ht⟩ : ∃ t, t = s.tick := ⟨_, rfl⟩
 rw [← ht] at c7 okt tll tc tat ⊢
 have tr := okt.rg.len
 have of : ∀ H, aE (bY.f G (k + 41)) [dF w] H = some (ofV (ofF w), H) := fun H => aD (H := H) (aIC G (k + 1) w w0.1 w0.2) rfl (by unfold ofV; split <;> rfl)
 have bx0 : fF 57 (.agg [.int .i64 0, .int .i64 0, .int .i64 0, .int .i64 0, .int .i64 0, .int .i64 0]) (jY (bR 46 z) [] t) = some (.ptr 7 1 0 0, jY (bR 46 z) (TB ⟨0, 0, 0, 0, 0, 0⟩) t) := rfl
 have s7 : ∀ y : MI, fB (aN 6 (.ptr 7 1 0 0) y.v (jY (bR 46 z) (TB ⟨0, 0, 0, 0, 0, 0⟩) t)) = some (.tup [], jY (bR 46 z) (TB y) t) := fun y => rfl
 have rH : ∀ (T : aF) (q : QS), q.regs.length = 31 → aC G true 35 RX (jY (bR 46 z) T q) = some (.agg q.cellsR) := fun T q hq => aEY G (bR 46 z) T q hq
 have sAll : ∀ (T : aF) (q : QS), q.regs.length = 31 → fB (aN 35 (.ptr 0 1 0 0) (.agg q.cellsR) (jY (bR 46 z) T q)) = some (.tup [], jY (bR 46 q.cellsR) T q) := fun T q hq => aFc T q 46 z _ hz (kI q hq)
 unfold aEZ QS.step
 cases ho : ofF w with
 | none =>
  have e3 : ({ t with code := 3 } : QS) = t := by rw [← tc]
  simp only
  rw [if_neg (by simp), e3]
  rw [ho] at of
  unfold ofV at of
  simp only at of
  have s7' := s7 ⟨0, 0, 0, 0, 0, 0⟩
  have z2 : (⟨0, 0, 0, 0, 0, 0⟩ : MI).v = mV 0 0 0 0 0 0 := rfl
  rw [z2] at s7'
  have l1 := rH (TB ⟨0, 0, 0, 0, 0, 0⟩) t tr
  have l2 := sAll (TB ⟨0, 0, 0, 0, 0, 0⟩) t tr
  clear s7 rH sAll z2
  refine ⟨TB ⟨0, 0, 0, 0, 0, 0⟩, [.ro bor (iP cs), I6 fuel, .ptr 0 1 0 0, RX, .ptr 4 1 0 0, I6 s.at_], ?_, rfl⟩
  refine jQ ?_
  refine eC hcut ?_
  unfold xsR
  generalize TB ⟨0, 0, 0, 0, 0, 0⟩ = tb at *
  generalize t.cellsR = tcs at *
  generalize iD (1, s.at_) = lv at *
  have fx := aPt f0 <| aPt f1 <| aPt f2 <| aPt f33 <| aPt f34 <| aPt c2 <| aPt n0 <| aPt n1 <| aPt c3 <| aPt n2 <| aPt n3 <| aPt c4 <| aPt c5 <| aPt bl1 <| aPt br1 <| aPt c6 <| aPt c7 <| aPt c8 <| aPt c9 <| aPt of <| aPt bx0 <| aPt s7' <| aPt l1 <| l2
  refine kN ?_
  refine gY ?_; rfl
 | some i =>
  have hri := (aCo ho).1
  have h24 := qF hri
  have hok := (iY hri).2
  have him := aGQ hri
  rw [ho] at of
  unfold ofV at of
  simp only at of ⊢
  have s7' := s7 i
  have a70 : aA 0 (.ptr 7 1 0 0) = some (.ptr 7 1 0 0) := rfl
  have a71 : aA 1 (.ptr 7 1 0 0) = some (.ptr 7 1 0 1) := rfl
  have a72 : aA 2 (.ptr 7 1 0 0) = some (.ptr 7 1 0 2) := rfl
  have a74 : aA 4 (.ptr 7 1 0 0) = some (.ptr 7 1 0 4) := rfl
  have a75 : aA 5 (.ptr 7 1 0 0) = some (.ptr 7 1 0 5) := rfl
  have l70 := fun l t => t70 G (bR 46 z) i l t
  have l71 := fun l t => t71 G (bR 46 z) i l t
  have l72 := fun l t => t72 G (bR 46 z) i l t
  have l74 := fun l t => t74 G (bR 46 z) i l t
  have l75 := fun l t => t75 G (bR 46 z) i l t
  have l7v := fun l t => t7v G (bR 46 z) i l t
  have pc1 : aQ Tryd.prog .add 3 true (I6 s.at_) (.int .i64 1) = some (I6 (s.at_ + 1)) := aDP (by omega) (by omega)
  have g : ∀ j, 0 ≤ j → j ≤ 31 → ∀ H, aE (aV.f G (k + 41)) [eD t.regs, I6 j] H = some (Un (cK t.regs j), H) := fun j h0 h1 H => aD (H := H) (iF G (k + 40) t.regs tr j h0 h1) (by simp [eE, bC, gO]) rfl
  have gn := g i.n hok.n.1 hok.n.2
  have gd_ := g i.d hok.d.1 hok.d.2
  clear g s7
  have atn : t.next.at_ = s.at_ + 1 := by rw [← tat]; rfl
  unfold QS.act
  by_cases t1 : i.op = 18 ∨ i.op = 19
  ·rw [if_pos t1]
   have rg := aGl G (bR 46 z) (TB i) t tr
   have d10 : aJ .u64 (I6 i.imm) = some (Un (u64 i.imm)) := gX ..
   have d11 : aQ Tryd.prog .mul 43 true (.int .u64 8) (Un (u64 i.imm)) = some (Un (8 * u64 i.imm % 18446744073709551616)) := vR Tryd.prog 43 true 8 (u64 i.imm)
   have ea : t.next.addr i = t.addr i := rfl
   have d12 : aQ Tryd.prog .add 43 false (Un (cK t.regs i.n)) (Un (8 * u64 i.imm % 18446744073709551616)) = some (Un (t.addr i)) := qH ..
   have hal : t.addr i < 18446744073709551616 := by unfold QS.addr; exact Nat.mod_lt _ (by decide)
   unfold QS.touch
   rw [ea]
   generalize t.addr i = ad at *
   have d13 := uD ad hal
   have x33 := aIG G (bR 46 z) (TB i) t tr
   have x6 := aKk (bR 46 z) (TB i) t (3, mI ad) (by omega)
   have x7 := aKv (bR 46 z) (TB i) t (3, mI ad) tr
   have bl3 : bA [(0, 1), (1, 1)] [(.int .i64 0), (.int .i64 0)] [(0, (.int .i64 3)), (1, I6 (mI ad))] = some (iD (3, mI ad)) := rfl
   have br3 := br 3 (mI ad)
   obtain ⟨t2, ht2⟩ : ∃ t2, t2 = t.leak 3 (mI ad) := ⟨_, rfl⟩
   simp only at x7
   rw [← ht2] at x7
   have hm1 : t2.mem = t.mem := by rw [ht2]; rfl
   have hr1 : t2.regs = t.regs := by rw [ht2]; rfl
   have tr2 : t2.regs.length = 31 := by rw [hr1]; exact tr
   have d15 := aJl Tryd.prog 43 true ad
   have d16 := aJk Tryd.prog 43 true ad hal
   have d17 := aOM G (bR 46 z) (TB i) t2
   have d18 : dH (.sl 2 t2.mem.length 0 t2.mem.length 1) = some (Nn t2.mem.length) := rfl
   have tb := okt.big
   have d19 : aJ .u64 (Nn t2.mem.length) = some (Un t2.mem.length) := by rw [eW, fA (by omega) (by rw [hm1]; omega)]
   have d20 : aQ Tryd.prog .neq 43 true (Un (ad % 8)) (.int .u64 0) = some (.bool (decide (ad % 8 ≠ 0))) := by rw [tY]; congr 2; simp only [decide_eq_decide]; omega
   have d21 : aQ Tryd.prog .geq 43 false (Un (ad / 8)) (Un t2.mem.length) = some (.bool (decide (t.mem.length ≤ ad / 8))) := by rw [lV, hm1]; congr 2; simp only [decide_eq_decide]; omega
   have nm : t.next.mem = t.mem := rfl
   have nr : t.next.regs = t.regs := rfl
   by_cases hbad : ad % 8 ≠ 0 ∨ t.mem.length ≤ ad / 8
   ·rw [nm, if_pos hbad]
    simp only [Bool.false_eq_true, if_false]
    have e4 : ({ t.next.leak 3 (mI ad) with code := 3 } : QS) = { t2 with at_ := s.at_ + 1 } := by
     rw [ht2, ← tc, ← tat]; rfl
    rw [e4]
    have l1 := rH (TB i) t2 tr2
    have l2 := sAll (TB i) t2 tr2
    have e5 : ({ t2 with at_ := s.at_ + 1 } : QS).cellsR = t2.cellsR := rfl
    rw [e5]
    clear ht2 e4 e5 ea rH sAll hm1 hr1 atn
    refine ⟨TB i, [.ro bor (iP cs), I6 fuel, .ptr 0 1 0 0, RX, .ptr 4 1 0 0, I6 s.at_], ?_, rfl⟩
    show _ = some (Ex.ret, _, jY (bR 46 t2.cellsR) (TB i) t2)
    refine jQ ?_
    refine eC hcut ?_
    unfold xsR
    generalize t2.cellsR = tcs at *
    generalize iD (1, s.at_) = lv at *
    generalize iD (3, mI ad) = lv3 at *
    generalize 8 * u64 i.imm % 18446744073709551616 = u8i at *
    by_cases hx : ad % 8 ≠ 0
    ·rw [decide_eq_true hx] at d20
     have fx := aPt f0 <| aPt f1 <| aPt f2 <| aPt f33 <| aPt f34 <| aPt c2 <| aPt n0 <| aPt n1 <| aPt c3 <| aPt n2 <| aPt n3 <| aPt c4 <| aPt c5 <| aPt bl1 <| aPt br1 <| aPt c6 <| aPt c7 <| aPt c8 <| aPt c9 <| aPt of <| aPt bx0 <| aPt s7' <| aPt a70 <| aPt a71 <| aPt a72 <| aPt a74 <| aPt a75 <| aPt l70 <| aPt pc1 <| aPt l72 <| aPt l75 <| aPt rg <| aPt gn <| aPt d10 <| aPt d11 <| aPt d12 <| aPt d13 <| aPt x33 <| aPt x6 <| aPt x7 <| aPt bl3 <| aPt br3 <| aPt d15 <| aPt d16 <| aPt d17 <| aPt d18 <| aPt d19 <| aPt d20 <| aPt d21 <| aPt l1 <| l2
     refine gI ?_
     all_goals first | omega | (refine gY ?_; rfl)
    ·rw [decide_eq_false hx] at d20
     rw [decide_eq_true (by rcases hbad with h | h; exact absurd h hx; exact h)] at d21
     have fx := aPt f0 <| aPt f1 <| aPt f2 <| aPt f33 <| aPt f34 <| aPt c2 <| aPt n0 <| aPt n1 <| aPt c3 <| aPt n2 <| aPt n3 <| aPt c4 <| aPt c5 <| aPt bl1 <| aPt br1 <| aPt c6 <| aPt c7 <| aPt c8 <| aPt c9 <| aPt of <| aPt bx0 <| aPt s7' <| aPt a70 <| aPt a71 <| aPt a72 <| aPt a74 <| aPt a75 <| aPt l70 <| aPt pc1 <| aPt l72 <| aPt l75 <| aPt rg <| aPt gn <| aPt d10 <| aPt d11 <| aPt d12 <| aPt d13 <| aPt x33 <| aPt x6 <| aPt x7 <| aPt bl3 <| aPt br3 <| aPt d15 <| aPt d16 <| aPt d17 <| aPt d18 <| aPt d19 <| aPt d20 <| aPt d21 <| aPt l1 <| l2
     refine gI ?_
     all_goals first | omega | (refine gY ?_; rfl)
   rw [nm, if_neg hbad]
   have hb1 : ¬ (ad % 8 ≠ 0) := fun h => hbad (.inl h)
   have hb2 : ¬ (t.mem.length ≤ ad / 8) := fun h => hbad (.inr h)
   rw [decide_eq_false hb1] at d20
   rw [decide_eq_false hb2] at d21
   have d37 := aML t2 (ad / 8)
   rw [if_pos (by rw [hm1]; omega)] at d37
   have rg2 := aGl G (bR 46 z) (TB i) t2 tr2
   rw [hr1] at rg2
   by_cases h18 : i.op = 18
   ·rw [if_pos h18]
    simp only [if_true]
    have d38 := aON G (bR 46 z) (TB i) t2 (ad / 8) (by rw [hm1]; omega)
    have em : t2.mem.getD (ad / 8) 0 = t.mem.getD (ad / 8) 0 := by rw [hm1]
    rw [em] at d38
    have st : ∀ H, aE (aW.f G (k + 41)) [eD t.regs, I6 i.d, Un (t.mem.getD (ad / 8) 0)] H = some (eD (fT t.regs i.d (t.mem.getD (ad / 8) 0)), H) := fun H => aD (H := H) (iG G (k + 40) t.regs tr i.d hok.d.1 hok.d.2 _) (by simp [eE, bC, gO]) (by simp [fS, kE])
    have d40 := aLH (bR 46 z) (TB i) t2 (fT t.regs i.d (t.mem.getD (ad / 8) 0)) (iU _ tr _ _) tr2
    refine ⟨TB i, ?_⟩
    have e6 : jY (bR 46 z) (TB i) { t.next.leak 3 (mI ad) with regs := fT t.next.regs i.d (t.mem.getD (ad / 8) 0) } = jY (bR 46 z) (TB i) { t2 with regs := fT t.regs i.d (t.mem.getD (ad / 8) 0) } := by
     rw [ht2]; rfl
    have e7 : (t.next.leak 3 (mI ad)).at_ = s.at_ + 1 := atn
    rw [e6, e7]
    clear ht2 e6 e7 ea rH sAll hm1 hr1 atn em
    refine jQ ?_
    refine eC hcut ?_
    unfold xsR
    generalize iD (1, s.at_) = lv at *
    generalize iD (3, mI ad) = lv3 at *
    generalize 8 * u64 i.imm % 18446744073709551616 = u8i at *
    generalize t.mem.getD (ad / 8) 0 = mv at *
    generalize fT t.regs i.d mv = rq at *
    have fx := aPt f0 <| aPt f1 <| aPt f2 <| aPt f33 <| aPt f34 <| aPt c2 <| aPt n0 <| aPt n1 <| aPt c3 <| aPt n2 <| aPt n3 <| aPt c4 <| aPt c5 <| aPt bl1 <| aPt br1 <| aPt c6 <| aPt c7 <| aPt c8 <| aPt c9 <| aPt of <| aPt bx0 <| aPt s7' <| aPt a70 <| aPt a71 <| aPt a72 <| aPt a74 <| aPt a75 <| aPt l70 <| aPt pc1 <| aPt l71 <| aPt l72 <| aPt l75 <| aPt rg <| aPt rg2 <| aPt gn <| aPt d10 <| aPt d11 <| aPt d12 <| aPt d13 <| aPt x33 <| aPt x6 <| aPt x7 <| aPt bl3 <| aPt br3 <| aPt d15 <| aPt d16 <| aPt d17 <| aPt d18 <| aPt d19 <| aPt d20 <| aPt d21 <| aPt d37 <| aPt d38 <| aPt st <| d40
    refine gI ?_
    all_goals first | omega | (refine gY ?_; rfl)
   ·rw [if_neg h18]
    simp only [if_true]
    have d40 := aOP (bR 46 z) (TB i) t2 (ad / 8) (cK t.regs i.d) (by rw [hm1]; omega)
    refine ⟨TB i, ?_⟩
    have e6 : jY (bR 46 z) (TB i) { t.next.leak 3 (mI ad) with mem := t.mem.set (ad / 8) (cK t.next.regs i.d) } = jY (bR 46 z) (TB i) { t2 with mem := t2.mem.set (ad / 8) (cK t.regs i.d) } := by
     rw [ht2]; rfl
    have e7 : (t.next.leak 3 (mI ad)).at_ = s.at_ + 1 := atn
    rw [e6, e7]
    clear ht2 e6 e7 ea rH sAll hm1 hr1 atn
    refine jQ ?_
    refine eC hcut ?_
    unfold xsR
    generalize iD (1, s.at_) = lv at *
    generalize iD (3, mI ad) = lv3 at *
    generalize 8 * u64 i.imm % 18446744073709551616 = u8i at *
    generalize cK t.regs i.d = rd at *
    have fx := aPt f0 <| aPt f1 <| aPt f2 <| aPt f33 <| aPt f34 <| aPt c2 <| aPt n0 <| aPt n1 <| aPt c3 <| aPt n2 <| aPt n3 <| aPt c4 <| aPt c5 <| aPt bl1 <| aPt br1 <| aPt c6 <| aPt c7 <| aPt c8 <| aPt c9 <| aPt of <| aPt bx0 <| aPt s7' <| aPt a70 <| aPt a71 <| aPt a72 <| aPt a74 <| aPt a75 <| aPt l70 <| aPt pc1 <| aPt l71 <| aPt l72 <| aPt l75 <| aPt rg <| aPt rg2 <| aPt gn <| aPt gd_ <| aPt d10 <| aPt d11 <| aPt d12 <| aPt d13 <| aPt x33 <| aPt x6 <| aPt x7 <| aPt bl3 <| aPt br3 <| aPt d15 <| aPt d16 <| aPt d17 <| aPt d18 <| aPt d19 <| aPt d20 <| aPt d21 <| aPt d37 <| d40
    refine gI ?_
    all_goals first | omega | (refine gY ?_; rfl)
  rw [if_neg t1]
  by_cases t2 : i.op = 20 ∨ i.op = 21 ∨ i.op = 22 ∨ i.op = 23
  ·rw [if_pos t2]
   simp only [if_true]
   unfold QS.branch
   have jp : aQ Tryd.prog .add 3 false (I6 s.at_) (I6 i.imm) = some (I6 (s.at_ + i.imm)) := aDP (by omega) (by omega)
   have eat : t.next.at_ + (i.imm - 1) = s.at_ + i.imm := by rw [atn]; omega
   by_cases h20 : i.op = 20
   ·rw [if_pos h20]
    refine ⟨TB i, ?_⟩
    simp only
    rw [eat]
    show _ = lp _ (jY (bR 46 z) (TB i) t)
    clear rH sAll ht
    refine jQ ?_
    refine eC hcut ?_
    unfold xsR
    generalize iD (1, s.at_) = lv at *
    generalize s.at_ + i.imm = at2 at *
    have fx := aPt f0 <| aPt f1 <| aPt f2 <| aPt f33 <| aPt f34 <| aPt c2 <| aPt n0 <| aPt n1 <| aPt c3 <| aPt n2 <| aPt n3 <| aPt c4 <| aPt c5 <| aPt bl1 <| aPt br1 <| aPt c6 <| aPt c7 <| aPt c8 <| aPt c9 <| aPt of <| aPt bx0 <| aPt s7' <| aPt a70 <| aPt a71 <| aPt a72 <| aPt a74 <| aPt a75 <| aPt l70 <| aPt pc1 <| aPt l75 <| jp
    refine gI ?_
    all_goals first | omega | (refine gY ?_; rfl)
   rw [if_neg h20]
   have fl := aLF G (bR 46 z) (TB i) t
   have rg := aGl G (bR 46 z) (TB i) t tr
   have hh : ∀ H, aE (bJ.f G (k + 41)) [I6 i.a, t.flags.a] H = _ := fun H => aD (H := H) (rJ G (k + 40) i.a t.flags) (by simp [eE, bC, FL.a]) rfl
   have e1 : aQ Tryd.prog .eql 43 true (Un (cK t.regs i.d)) (.int .u64 0) = some (.bool (decide (cK t.regs i.d = 0))) := by rw [jV]; congr 2; simp only [decide_eq_decide]; omega
   have e22 : aQ Tryd.prog .eql 3 true (I6 i.op) (.int .i64 22) = some (.bool (decide (i.op = 22))) := jV ..
   have eb : aQ Tryd.prog .eql 4 false (.bool (decide (cK t.regs i.d = 0))) (.bool (decide (i.op = 22))) = some (.bool (decide (cK t.regs i.d = 0) == decide (i.op = 22))) := tX Tryd.underlying4 ..
   have n21 : aQ Tryd.prog .neq 3 true (I6 i.op) (.int .i64 21) = some (.bool (decide (i.op ≠ 21))) := tY ..
   have gg : t.next.goes i = if i.op = 21 then jF i.a t.flags else (decide (cK t.regs i.d = 0) == decide (i.op = 22)) := by
    unfold QS.goes
    have q1 : t.next.flags = t.flags := rfl
    have q2 : t.next.regs = t.regs := rfl
    rw [q1, q2]
    by_cases h21 : i.op = 21
    ·rw [if_pos h21, if_pos h21]
    rw [if_neg h21, if_neg h21]
    by_cases h22 : i.op = 22
    ·rw [if_pos h22, decide_eq_true h22]; simp
    ·rw [if_neg h22, decide_eq_false h22]; by_cases h : cK t.regs i.d = 0 <;> simp [h]
   have x33 := aIG G (bR 46 z) (TB i) t tr
   have one : ∀ b H, aE (bT.f G (k + 41)) [.bool b] H = some (I6 (if b = true then 1 else 0), H) := fun b H => aD (H := H) (aHf G (k + 40) b) rfl rfl
   cases hg : t.next.goes i
   ·have x6 := aKk (bR 46 z) (TB i) t (2, 0) (by omega)
    have x7 := aKv (bR 46 z) (TB i) t (2, 0) tr
    have bl3 : bA [(0, 1), (1, 1)] [(.int .i64 0), (.int .i64 0)] [(0, (.int .i64 2)), (1, .int .i64 0)] = some (iD (2, 0)) := rfl
    have br3 := br 2 0
    have ob : ∀ H, aE (bT.f G (k + 41)) [.bool false] H = some (.int .i64 0, H) := fun H => one false H
    simp only at x7
    simp only [Bool.false_eq_true, if_false]
    rw [hg] at gg
    refine ⟨TB i, ?_⟩
    have ez : (t.next.leak 2 0).at_ = s.at_ + 1 := atn
    rw [ez]
    show _ = lp _ (jY (bR 46 z) (TB i) (t.leak 2 0))
    clear rH sAll ht one br bl hg
    refine jQ ?_
    refine eC hcut ?_
    unfold xsR
    generalize iD (1, s.at_) = lv at *
    generalize t.leak 2 0 = tl at *
    generalize iD (2, 0) = lv2 at *
    skip
    generalize jF i.a t.flags = hhh at *
    generalize decide (cK t.regs i.d = 0) = gz1 at *
    generalize cK t.regs i.d = rd at *
    by_cases h21 : i.op = 21
    ·rw [if_pos h21] at gg
     rw [← gg] at hh
     rw [decide_eq_false (fun h => h h21)] at n21
     have fx := aPt f0 <| aPt f1 <| aPt f2 <| aPt f33 <| aPt f34 <| aPt c2 <| aPt n0 <| aPt n1 <| aPt c3 <| aPt n2 <| aPt n3 <| aPt c4 <| aPt c5 <| aPt bl1 <| aPt br1 <| aPt c6 <| aPt c7 <| aPt c8 <| aPt c9 <| aPt of <| aPt bx0 <| aPt s7' <| aPt a70 <| aPt a71 <| aPt a72 <| aPt a74 <| aPt a75 <| aPt l70 <| aPt pc1 <| aPt l71 <| aPt l74 <| aPt l75 <| aPt fl <| aPt rg <| aPt hh <| aPt gd_ <| aPt e1 <| aPt e22 <| aPt eb <| aPt n21 <| aPt x33 <| aPt ob <| aPt x6 <| aPt x7 <| aPt bl3 <| aPt br3 <| jp
     refine gI ?_
     all_goals first | omega | (refine gY ?_; rfl)
    ·rw [if_neg h21] at gg
     rw [← gg] at eb
     rw [decide_eq_true h21] at n21
     by_cases h22 : i.op = 22
     ·rw [decide_eq_true h22] at e22 eb
      have fx := aPt f0 <| aPt f1 <| aPt f2 <| aPt f33 <| aPt f34 <| aPt c2 <| aPt n0 <| aPt n1 <| aPt c3 <| aPt n2 <| aPt n3 <| aPt c4 <| aPt c5 <| aPt bl1 <| aPt br1 <| aPt c6 <| aPt c7 <| aPt c8 <| aPt c9 <| aPt of <| aPt bx0 <| aPt s7' <| aPt a70 <| aPt a71 <| aPt a72 <| aPt a74 <| aPt a75 <| aPt l70 <| aPt pc1 <| aPt l71 <| aPt l74 <| aPt l75 <| aPt fl <| aPt rg <| aPt hh <| aPt gd_ <| aPt e1 <| aPt e22 <| aPt eb <| aPt n21 <| aPt x33 <| aPt ob <| aPt x6 <| aPt x7 <| aPt bl3 <| aPt br3 <| jp
      refine gI ?_
      all_goals first | omega | (refine gY ?_; rfl)
     ·rw [decide_eq_false h22] at e22 eb
      have fx := aPt f0 <| aPt f1 <| aPt f2 <| aPt f33 <| aPt f34 <| aPt c2 <| aPt n0 <| aPt n1 <| aPt c3 <| aPt n2 <| aPt n3 <| aPt c4 <| aPt c5 <| aPt bl1 <| aPt br1 <| aPt c6 <| aPt c7 <| aPt c8 <| aPt c9 <| aPt of <| aPt bx0 <| aPt s7' <| aPt a70 <| aPt a71 <| aPt a72 <| aPt a74 <| aPt a75 <| aPt l70 <| aPt pc1 <| aPt l71 <| aPt l74 <| aPt l75 <| aPt fl <| aPt rg <| aPt hh <| aPt gd_ <| aPt e1 <| aPt e22 <| aPt eb <| aPt n21 <| aPt x33 <| aPt ob <| aPt x6 <| aPt x7 <| aPt bl3 <| aPt br3 <| jp
      refine gI ?_
      all_goals first | omega | (refine gY ?_; rfl)
   ·have x6 := aKk (bR 46 z) (TB i) t (2, 1) (by omega)
    have x7 := aKv (bR 46 z) (TB i) t (2, 1) tr
    have bl3 : bA [(0, 1), (1, 1)] [(.int .i64 0), (.int .i64 0)] [(0, (.int .i64 2)), (1, .int .i64 1)] = some (iD (2, 1)) := rfl
    have br3 := br 2 1
    have ob : ∀ H, aE (bT.f G (k + 41)) [.bool true] H = some (.int .i64 1, H) := fun H => one true H
    simp only at x7
    simp only [if_true]
    rw [hg] at gg
    refine ⟨TB i, ?_⟩
    rw [eat]
    show _ = lp _ (jY (bR 46 z) (TB i) (t.leak 2 1))
    skip
    clear rH sAll ht one br bl hg
    refine jQ ?_
    refine eC hcut ?_
    unfold xsR
    generalize iD (1, s.at_) = lv at *
    generalize t.leak 2 1 = tl at *
    generalize iD (2, 1) = lv2 at *
    generalize s.at_ + i.imm = at2 at *
    generalize jF i.a t.flags = hhh at *
    generalize decide (cK t.regs i.d = 0) = gz1 at *
    generalize cK t.regs i.d = rd at *
    by_cases h21 : i.op = 21
    ·rw [if_pos h21] at gg
     rw [← gg] at hh
     rw [decide_eq_false (fun h => h h21)] at n21
     have fx := aPt f0 <| aPt f1 <| aPt f2 <| aPt f33 <| aPt f34 <| aPt c2 <| aPt n0 <| aPt n1 <| aPt c3 <| aPt n2 <| aPt n3 <| aPt c4 <| aPt c5 <| aPt bl1 <| aPt br1 <| aPt c6 <| aPt c7 <| aPt c8 <| aPt c9 <| aPt of <| aPt bx0 <| aPt s7' <| aPt a70 <| aPt a71 <| aPt a72 <| aPt a74 <| aPt a75 <| aPt l70 <| aPt pc1 <| aPt l71 <| aPt l74 <| aPt l75 <| aPt fl <| aPt rg <| aPt hh <| aPt gd_ <| aPt e1 <| aPt e22 <| aPt eb <| aPt n21 <| aPt x33 <| aPt ob <| aPt x6 <| aPt x7 <| aPt bl3 <| aPt br3 <| jp
     refine gI ?_
     all_goals first | omega | (refine gY ?_; rfl)
    ·rw [if_neg h21] at gg
     rw [← gg] at eb
     rw [decide_eq_true h21] at n21
     by_cases h22 : i.op = 22
     ·rw [decide_eq_true h22] at e22 eb
      have fx := aPt f0 <| aPt f1 <| aPt f2 <| aPt f33 <| aPt f34 <| aPt c2 <| aPt n0 <| aPt n1 <| aPt c3 <| aPt n2 <| aPt n3 <| aPt c4 <| aPt c5 <| aPt bl1 <| aPt br1 <| aPt c6 <| aPt c7 <| aPt c8 <| aPt c9 <| aPt of <| aPt bx0 <| aPt s7' <| aPt a70 <| aPt a71 <| aPt a72 <| aPt a74 <| aPt a75 <| aPt l70 <| aPt pc1 <| aPt l71 <| aPt l74 <| aPt l75 <| aPt fl <| aPt rg <| aPt hh <| aPt gd_ <| aPt e1 <| aPt e22 <| aPt eb <| aPt n21 <| aPt x33 <| aPt ob <| aPt x6 <| aPt x7 <| aPt bl3 <| aPt br3 <| jp
      refine gI ?_
      all_goals first | omega | (refine gY ?_; rfl)
     ·rw [decide_eq_false h22] at e22 eb
      have fx := aPt f0 <| aPt f1 <| aPt f2 <| aPt f33 <| aPt f34 <| aPt c2 <| aPt n0 <| aPt n1 <| aPt c3 <| aPt n2 <| aPt n3 <| aPt c4 <| aPt c5 <| aPt bl1 <| aPt br1 <| aPt c6 <| aPt c7 <| aPt c8 <| aPt c9 <| aPt of <| aPt bx0 <| aPt s7' <| aPt a70 <| aPt a71 <| aPt a72 <| aPt a74 <| aPt a75 <| aPt l70 <| aPt pc1 <| aPt l71 <| aPt l74 <| aPt l75 <| aPt fl <| aPt rg <| aPt hh <| aPt gd_ <| aPt e1 <| aPt e22 <| aPt eb <| aPt n21 <| aPt x33 <| aPt ob <| aPt x6 <| aPt x7 <| aPt bl3 <| aPt br3 <| jp
      refine gI ?_
      all_goals first | omega | (refine gY ?_; rfl)
  rw [if_neg t2]
  by_cases t3 : i.op = 24
  ·rw [if_pos t3]
   simp only [Bool.false_eq_true, if_false]
   by_cases t4 : i.imm ≤ 2
   ·rw [if_pos t4]
    have q4 : aQ Tryd.prog .leq 3 true (I6 i.imm) (.int .i64 2) = some (.bool true) := vF t4
    have x0 := aOd (bR 46 z) (TB i) t i.imm tr
    have l1 := rH (TB i) { t with code := i.imm } tr
    have l2 := sAll (TB i) { t with code := i.imm } tr
    refine ⟨TB i, [.ro bor (iP cs), I6 fuel, .ptr 0 1 0 0, RX, .ptr 4 1 0 0, I6 s.at_], ?_, rfl⟩
    show _ = some (Ex.ret, _, jY (bR 46 (QS.cellsR { t with code := i.imm })) (TB i) { t with code := i.imm })
    clear rH sAll ht br bl
    refine jQ ?_
    refine eC hcut ?_
    unfold xsR
    generalize iD (1, s.at_) = lv at *
    generalize (QS.cellsR { t with code := i.imm }) = tcs at *
    have fx := aPt f0 <| aPt f1 <| aPt f2 <| aPt f33 <| aPt f34 <| aPt c2 <| aPt n0 <| aPt n1 <| aPt c3 <| aPt n2 <| aPt n3 <| aPt c4 <| aPt c5 <| aPt bl1 <| aPt br1 <| aPt c6 <| aPt c7 <| aPt c8 <| aPt c9 <| aPt of <| aPt bx0 <| aPt s7' <| aPt a70 <| aPt a71 <| aPt a72 <| aPt a74 <| aPt a75 <| aPt l70 <| aPt pc1 <| aPt l75 <| aPt q4 <| aPt x0 <| aPt l1 <| l2
    refine gI ?_
    all_goals first | omega | (refine gY ?_; rfl)
   ·rw [if_neg t4]
    have q4 : aQ Tryd.prog .leq 3 true (I6 i.imm) (.int .i64 2) = some (.bool false) := yQ (by omega)
    have l1 := rH (TB i) t tr
    have l2 := sAll (TB i) t tr
    have e5 : ({ t.next with code := 3 } : QS) = { t with at_ := s.at_ + 1 } := by rw [← tc, ← tat]; rfl
    rw [e5]
    refine ⟨TB i, [.ro bor (iP cs), I6 fuel, .ptr 0 1 0 0, RX, .ptr 4 1 0 0, I6 s.at_], ?_, rfl⟩
    show _ = some (Ex.ret, _, jY (bR 46 t.cellsR) (TB i) t)
    clear rH sAll ht br bl e5
    refine jQ ?_
    refine eC hcut ?_
    unfold xsR
    generalize iD (1, s.at_) = lv at *
    generalize t.cellsR = tcs at *
    have fx := aPt f0 <| aPt f1 <| aPt f2 <| aPt f33 <| aPt f34 <| aPt c2 <| aPt n0 <| aPt n1 <| aPt c3 <| aPt n2 <| aPt n3 <| aPt c4 <| aPt c5 <| aPt bl1 <| aPt br1 <| aPt c6 <| aPt c7 <| aPt c8 <| aPt c9 <| aPt of <| aPt bx0 <| aPt s7' <| aPt a70 <| aPt a71 <| aPt a72 <| aPt a74 <| aPt a75 <| aPt l70 <| aPt pc1 <| aPt l75 <| aPt q4 <| aPt l1 <| l2
    refine gI ?_
    all_goals first | omega | (refine gY ?_; rfl)
  rw [if_neg t3]
  simp only [if_true]
  have h17 : i.op ≤ 17 := by omega
  have rg := aGl G (bR 46 z) (TB i) t tr
  have fl := aLF G (bR 46 z) (TB i) t
  have pl : eE [i.v, eD t.regs, t.flags.a] = true := by simp [eE, bC, gO, MI.v, FL.a]
  have cl : fS (pF (aHZ i t.regs t.flags)) = true := by simp [fS, iZ, kE, FL.a]
  have on : ∀ H, aE (aL.f G (k + 41)) [i.v, eD t.regs, t.flags.a] H = _ := fun H => aD (H := H) (aHb G (k + 34) i t.regs okt.rg t.flags) pl cl
  have eo : aHZ i t.regs t.flags = ((cY i t.regs t.flags).1, (cY i t.regs t.flags).2, true) := by
   unfold aHZ; rw [if_pos ⟨hri, h17⟩]
  have hq := (aDd i okt.rg t.flags).len
  have nr : t.next.regs = t.regs := rfl
  have nf : t.next.flags = t.flags := rfl
  rw [nr, nf]
  rw [eo] at on
  unfold pF at on
  simp only at on
  generalize cY i t.regs t.flags = dd at *
  obtain ⟨q, f⟩ := dd
  simp only at hq on ⊢
  have b44 : fF 44 (eD Z) (jY (bR 46 z) (TB i) t) = some (.ptr 8 1 0 0, jY (bR 46 z) [⟨57, 6, [i.v]⟩, ⟨44, 31, [eD Z]⟩] t) := lR Z hZ _
  have b53 : fF 53 (.agg [.bool false, .bool false, .bool false, .bool false]) (jY (bR 46 z) [⟨57, 6, [i.v]⟩, ⟨44, 31, [eD Z]⟩] t) = some (.ptr 9 1 0 0, jY (bR 46 z) [⟨57, 6, [i.v]⟩, ⟨44, 31, [eD Z]⟩, ⟨53, 4, [jD.a]⟩] t) := rfl
  have s44 : fB (aN 31 (.ptr 8 1 0 0) (eD q) (jY (bR 46 z) [⟨57, 6, [i.v]⟩, ⟨44, 31, [eD Z]⟩, ⟨53, 4, [jD.a]⟩] t)) = some (.tup [], jY (bR 46 z) [⟨57, 6, [i.v]⟩, ⟨44, 31, [eD q]⟩, ⟨53, 4, [jD.a]⟩] t) := lU hq hZ rfl
  have s53 : fB (aN 4 (.ptr 9 1 0 0) f.a (jY (bR 46 z) [⟨57, 6, [i.v]⟩, ⟨44, 31, [eD q]⟩, ⟨53, 4, [jD.a]⟩] t)) = some (.tup [], jY (bR 46 z) [⟨57, 6, [i.v]⟩, ⟨44, 31, [eD q]⟩, ⟨53, 4, [f.a]⟩] t) := rfl
  have l44 : aC G true 31 (.ptr 8 1 0 0) (jY (bR 46 z) [⟨57, 6, [i.v]⟩, ⟨44, 31, [eD q]⟩, ⟨53, 4, [f.a]⟩] t) = some (eD q) := aGU G hq rfl
  have w44 := aLH (bR 46 z) [⟨57, 6, [i.v]⟩, ⟨44, 31, [eD q]⟩, ⟨53, 4, [f.a]⟩] t q hq tr
  have l53 : aC G true 4 (.ptr 9 1 0 0) (jY (bR 46 z) [⟨57, 6, [i.v]⟩, ⟨44, 31, [eD q]⟩, ⟨53, 4, [f.a]⟩] { t with regs := q }) = some f.a := rfl
  have w53 := aOf (bR 46 z) [⟨57, 6, [i.v]⟩, ⟨44, 31, [eD q]⟩, ⟨53, 4, [f.a]⟩] { t with regs := q } f
  refine ⟨[⟨57, 6, [i.v]⟩, ⟨44, 31, [eD q]⟩, ⟨53, 4, [f.a]⟩], ?_⟩
  show _ = lp (xsR fuel bor cs t.next.at_) (jY (bR 46 z) [⟨57, 6, [i.v]⟩, ⟨44, 31, [eD q]⟩, ⟨53, 4, [f.a]⟩] { t with regs := q, flags := f })
  rw [atn]
  clear rH sAll ht br bl nr nf eo
  refine jQ ?_
  refine eC hcut ?_
  unfold xsR
  generalize iD (1, s.at_) = lv at *
  have fx := aPt f0 <| aPt f1 <| aPt f2 <| aPt f33 <| aPt f34 <| aPt c2 <| aPt n0 <| aPt n1 <| aPt c3 <| aPt n2 <| aPt n3 <| aPt c4 <| aPt c5 <| aPt bl1 <| aPt br1 <| aPt c6 <| aPt c7 <| aPt c8 <| aPt c9 <| aPt of <| aPt bx0 <| aPt s7' <| aPt a70 <| aPt a71 <| aPt a72 <| aPt a74 <| aPt a75 <| aPt l70 <| aPt pc1 <| aPt l7v <| aPt rg <| aPt fl <| aPt on <| aPt b44 <| aPt b53 <| aPt s44 <| aPt s53 <| aPt l44 <| aPt w44 <| aPt l53 <| w53
  refine gI ?_
  all_goals first | omega | (refine gY ?_; rfl)
end
end Go.Proofs.YtdfglgnflldkpaaDoor.Mir
