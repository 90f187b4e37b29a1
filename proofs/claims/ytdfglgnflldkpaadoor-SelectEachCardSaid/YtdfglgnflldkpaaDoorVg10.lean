/- Part 10 of the proof: what these functions do. -/
import Derived.Test.YtdfglgnflldkpaaDoorVg9
namespace Go.Proofs.YtdfglgnflldkpaaDoor.Mir
open Go
set_option linter.unusedSimpArgs false
set_option linter.unusedVariables false
set_option maxHeartbeats 8000000
set_option maxRecDepth 20000
theorem gW (G : aI) (k : Nat) (r : List Nat) (hr : r.length = 31) (j : Int) (h0 : 0 ≤ j) (h1 : j ≤ 31) : aU.f G (k + 1) [dK r, I6 j] [] = some (Un (cC r j), []) := by
 rw [aU.step]
 unfold aU.c cC
 have b1 : ∀ H, dH (dK r) H = some (.rp false (dK r) 0, H) := fun H => rfl
 refine dX ?_
 by_cases h : j = 31
 ·rw [if_pos h]
  have fx := b1
  refine gC ?_
  exact sN rfl
 ·rw [if_neg h]
  have i1 : iZ 31 1 (.rp false (dK r) 0) (I6 j) = some (.rp false (dK r) j.toNat) := by
   unfold iZ
   simp only
   rw [if_pos ⟨h0, by omega⟩, Nat.zero_add, Nat.mul_one]
  have l1 : ∀ H, aC G false 1 (.rp false (dK r) j.toNat) H = some (Un (r.getD j.toNat 0)) := fun H => by
   rw [aEz, kN _ _ (by omega)]
  have fx := aOO b1 <| aOO i1 <| l1
  refine gC ?_
  exact sN rfl
theorem kB : (AV.agg [(.int .u64 0), (.int .u64 0), (.int .u64 0), (.int .u64 0), (.int .u64 0), (.int .u64 0), (.int .u64 0), (.int .u64 0), (.int .u64 0), (.int .u64 0), (.int .u64 0), (.int .u64 0), (.int .u64 0), (.int .u64 0), (.int .u64 0), (.int .u64 0), (.int .u64 0), (.int .u64 0), (.int .u64 0), (.int .u64 0), (.int .u64 0), (.int .u64 0), (.int .u64 0), (.int .u64 0), (.int .u64 0), (.int .u64 0), (.int .u64 0), (.int .u64 0), (.int .u64 0), (.int .u64 0), (.int .u64 0)]) = dK (List.replicate 31 0) := rfl
theorem jI : [(AV.int .u64 0), (.int .u64 0), (.int .u64 0), (.int .u64 0), (.int .u64 0), (.int .u64 0), (.int .u64 0), (.int .u64 0), (.int .u64 0), (.int .u64 0), (.int .u64 0), (.int .u64 0), (.int .u64 0), (.int .u64 0), (.int .u64 0), (.int .u64 0), (.int .u64 0), (.int .u64 0), (.int .u64 0), (.int .u64 0), (.int .u64 0), (.int .u64 0), (.int .u64 0), (.int .u64 0), (.int .u64 0), (.int .u64 0), (.int .u64 0), (.int .u64 0), (.int .u64 0), (.int .u64 0), (.int .u64 0)] = bY (List.replicate 31 0) := rfl
theorem kY (r : List Nat) (hr : r.length = 31) (H : aF) : eY 44 (dK r) H = some (.ptr H.length 1 0 0, H ++ [⟨44, 31, [dK r]⟩]) := by
 simp [eY, fF, AV.cells, bJ, hr]
theorem aNH {j i : Nat} {H : aF} {r : List Nat} (hr : r.length = 31) (hi : i < 31) (x : Nat) (e : H[j]? = some ⟨44, 31, [dK r]⟩) : eH (aO 1 (.ptr j 1 0 i) (Un x) H) = some (.tup [], H.set j ⟨44, 31, [dK (r.set i x)]⟩) := by
 have e2 : jM (bY r) i [Un x] = bY (r.set i x) := by
  rw [rK, List.set_eq_take_append_cons_drop, if_pos (by rw [bJ]; omega)]
  rfl
 unfold aO
 simp only [e, AV.cells, bJ, hr, List.length_singleton, fF, List.getElem?_cons_zero]
 rw [if_pos (by simp), if_pos (by omega), e2]
 rfl
theorem lD {j : Nat} {H : aF} {q r : List Nat} (hq : q.length = 31) (hr : r.length = 31) (e : H[j]? = some ⟨44, 31, [dK r]⟩) : eH (aO 31 (.ptr j 1 0 0) (dK q) H) = some (.tup [], H.set j ⟨44, 31, [dK q]⟩) := by
 have e2 : jM (bY r) 0 (bY q) = bY q := by
  unfold jM
  rw [List.take_zero, List.nil_append, List.drop_of_length_le (by rw [bJ, bJ]; omega), List.append_nil]
 unfold aO
 simp only [e, AV.cells, bJ, hq, List.length_singleton, fF, List.getElem?_cons_zero]
 rw [if_pos (by simp), if_pos (by omega), e2]
 rfl
theorem gX (G : aI) (k : Nat) (r : List Nat) (hr : r.length = 31) (j : Int) (h0 : 0 ≤ j) (h1 : j ≤ 31) (x : Nat) : aV.f G (k + 1) [dK r, I6 j, Un x] [] = some (dK (fE r j x), []) := by
 rw [aV.step]
 unfold aV.c fE
 rw [kB]
 have hZ : (List.replicate 31 0 : List Nat).length = 31 := rfl
 obtain ⟨Z, hz⟩ : ∃ Z : List Nat, Z = List.replicate 31 0 := ⟨_, rfl⟩
 rw [← hz] at hZ ⊢
 clear hz
 have b1 : eY 44 (dK r) [] = some (.ptr 0 1 0 0, [⟨44, 31, [dK r]⟩]) := kY r hr []
 have b2 : eY 44 (dK Z) [⟨44, 31, [dK r]⟩] = some (.ptr 1 1 0 0, [⟨44, 31, [dK r]⟩, ⟨44, 31, [dK Z]⟩]) := kY Z hZ _
 refine dX ?_
 by_cases h : j = 31
 ·rw [if_pos h]
  have l1 : aC G true 31 (.ptr 0 1 0 0) [⟨44, 31, [dK r]⟩, ⟨44, 31, [dK Z]⟩] = some (dK r) := aGp G hr rfl
  have s1 : eH (aO 31 (.ptr 1 1 0 0) (dK r) [⟨44, 31, [dK r]⟩, ⟨44, 31, [dK Z]⟩]) = some (.tup [], [⟨44, 31, [dK r]⟩, ⟨44, 31, [dK r]⟩]) := lD hr hZ rfl
  have fx := aOO b1 <| aOO b2 <| aOO l1 <| s1
  refine gC ?_
  exact oF (yN (by simp [cK, gT]) (aGp G hr rfl))
 ·rw [if_neg h]
  have i1 : iZ 31 1 (.ptr 0 1 0 0) (I6 j) = some (.ptr 0 1 0 j.toNat) := by
   unfold iZ
   simp only
   rw [if_pos ⟨h0, by omega⟩, Nat.zero_add, Nat.mul_one]
  have hr' : (r.set j.toNat x).length = 31 := by rw [List.length_set]; exact hr
  have s0 : eH (aO 1 (.ptr 0 1 0 j.toNat) (Un x) [⟨44, 31, [dK r]⟩, ⟨44, 31, [dK Z]⟩]) = some (.tup [], [⟨44, 31, [dK (r.set j.toNat x)]⟩, ⟨44, 31, [dK Z]⟩]) := aNH hr (by omega) x rfl
  generalize r.set j.toNat x = q at *
  have l1 : aC G true 31 (.ptr 0 1 0 0) [⟨44, 31, [dK q]⟩, ⟨44, 31, [dK Z]⟩] = some (dK q) := aGp G hr' rfl
  have s1 : eH (aO 31 (.ptr 1 1 0 0) (dK q) [⟨44, 31, [dK q]⟩, ⟨44, 31, [dK Z]⟩]) = some (.tup [], [⟨44, 31, [dK q]⟩, ⟨44, 31, [dK q]⟩]) := lD hr' hZ rfl
  have fx := aOO b1 <| aOO b2 <| aOO i1 <| aOO s0 <| aOO l1 <| s1
  refine gC ?_
  exact oF (yN (by simp [cK, gT]) (aGp G hr' rfl))
theorem qX (G : aI) (k : Nat) (c : Int) (f : FL) : bE.f G (k + 1) [I6 c, f.a] [] = some (.bool (iY c f), []) := by
 obtain ⟨n, z, cc, v⟩ := f
 rw [bE.step]
 unfold bE.c iY FL.a
 have i1 : iZ 4 1 (.rp false (.agg [.bool n, .bool z, .bool cc, .bool v]) 0) (.int .i64 1) = some (.rp false (.agg [.bool n, .bool z, .bool cc, .bool v]) 1) := rfl
 have i2 : iZ 4 1 (.rp false (.agg [.bool n, .bool z, .bool cc, .bool v]) 0) (.int .i64 2) = some (.rp false (.agg [.bool n, .bool z, .bool cc, .bool v]) 2) := rfl
 refine dX ?_
 simp only
 cases z <;> cases cc
 all_goals (
  repeat' first
   | (with_reducible first | refine eT ?_ | refine eN ?_ | refine eS ?_ | refine eXn ?_ | refine eXr ?_ | refine eX ?_ | refine eI ?_ | refine eK ?_ | refine eV0 ?_ | refine wX ?_ | refine xA ?_ | refine wU ?_ | refine wZ ?_ | refine wV ?_ | refine wW ?_)
   | ((with_reducible apply eCn); (simp only [eG, eF]; first | done | (with_reducible exact rfl)))
   | ((with_reducible apply eJ); (rfl))
   | ((with_reducible apply wY); (first | rfl | (simp only [eG, eF]; rfl)))
   | ((with_reducible apply eB); (first | (with_reducible exact rfl) | (simp (disch := omega) only [qf, i1, i2]; first | done | (with_reducible exact rfl) | (with_reducible exact ⟨rfl, rfl⟩)) | (simp (disch := omega) only [qa, jM, AV.cells, fF, aZ, kZ, eP, fN, kS, Nat.reduceLeDiff, Nat.reduceLT, Nat.reduceAdd, ↓reduceIte, i1, i2]; first | done | (with_reducible exact rfl) | (with_reducible exact ⟨rfl, rfl⟩))))
   | ((with_reducible apply eR); (simp only [eG, eF]; (with_reducible exact rfl)))
   | ((with_reducible first | refine zS ?_ ?_ | refine zX ?_ ?_ | refine zW ?_ ?_ | refine zV ?_ ?_ | refine zU ?_ ?_ | refine zT ?_ ?_ | refine zY ?_ ?_ | refine qZ ?_ ?_ | refine sGd ?_ ?_ | refine qK ?_ ?_) <;> intro hq <;> try subst hq)
  all_goals (refine xG ?_; simp (disch := omega) only [if_pos, if_neg, if_true, Bool.false_eq_true, if_false, ↓reduceIte]; try rfl))
theorem iD (P : Program) (t : Nat) (c : Bool) {x : Int} (h0 : 0 ≤ x) (h1 : x < 9223372036854775808) : aQ P .and t c (I6 x) (.int .i64 63) = some (I6 (x % 64)) := by
 obtain ⟨X, rfl⟩ : ∃ X : Nat, x = X := ⟨x.toNat, by omega⟩
 rw [nC]
 show some (AV.int .i64 (IntKind.i64.wrap ((BitVec.ofInt 64 (X : Int) &&& BitVec.ofInt 64 (63 : Int)).toNat : Int))) = _
 have e1 : (BitVec.ofInt 64 (X : Int)).toNat = X := lM X (by omega)
 have e2 : (BitVec.ofInt 64 (63 : Int)).toNat = 2 ^ 6 - 1 := by decide
 rw [BitVec.toNat_and, e1, e2, Nat.and_two_pow_sub_one_eq_mod, fD (by omega) (by omega)]
 rfl
def jE (r : List Nat) (f : FL) : aF := [⟨44, 31, [dK r]⟩, ⟨53, 4, [f.a]⟩]
theorem gZ (G : aI) (r : List Nat) (hr : r.length = 31) (f : FL) (b : Bool) : fX [aC G true 31 (.ptr 0 1 0 0) (jE r f), aC G true 4 (.ptr 1 1 0 0) (jE r f), some (.bool b)] 0 (jE r f) = some (.ret, [oQ (r, f, b)], []) := by
 have e1 := aGp G (j := 0) (H := jE r f) hr rfl
 have e2 : aC G true 4 (.ptr 1 1 0 0) (jE r f) = some f.a := rfl
 unfold fX
 rw [e1, e2]
 exact aEj (by simp [cK, gT]) rfl rfl _
theorem iG (r : List Nat) (hr : r.length = 31) (j : Int) (x : Nat) : (fE r j x).length = 31 := by
 unfold fE; split
 ·exact hr
 ·rw [List.length_set]; exact hr
theorem aMh (G : aI) (k : Nat) (d n m a imm : Int) (hw : aT ⟨1, d, n, m, a, imm⟩ = true) (r : List Nat) (hr : RgOk r) (f : FL) :
  aL.f G (k + 7) [mV 1 d n m a imm, dK r, f.a] [] = some (oQ ((cP ⟨1, d, n, m, a, imm⟩ r f).1, (cP ⟨1, d, n, m, a, imm⟩ r f).2, true), []) := by
 have r1 : ∀ H, aE (aG.f G (k + 6)) [mV 1 d n m a imm] H = _ := fun H => aD (H := H) (gF G k ⟨1, d, n, m, a, imm⟩) rfl rfl
 rw [hw] at r1
 obtain ⟨_, hd, hn, hm, ha, hf⟩ := iM hw
 have himm : 0 ≤ imm ∧ imm < 65536 := by
  unfold aT at hw
  rw [Bool.and_eq_true] at hw
  obtain ⟨_, h⟩ := hw
  simp [aN, dS, fP, dA, fW, dU, dB] at h
  omega
 simp only at hd hn hm ha hf
 clear hw
 have ld := hr.get d
 have ln := hr.get n
 have lm := hr.get m
 have la := hr.get a
 have g : ∀ j, 0 ≤ j → j ≤ 31 → ∀ H, aE (aU.f G (k + 6)) [dK r, I6 j] H = some (Un (cC r j), H) := fun j h0 h1 H => aD (H := H) (gW G (k + 5) r hr.len j h0 h1) (by simp [dQ, bG, gE]) rfl
 have g1 := g d hd.1 hd.2
 have g2 := g n hn.1 hn.2
 have g3 := g m hm.1 hm.2
 have g4 := g a ha.1 ha.2
 clear g
 have st : ∀ x H, aE (aV.f G (k + 6)) [dK r, I6 d, Un x] H = some (dK (fE r d x), H) := fun x H => aD (H := H) (gX G (k + 5) r hr.len d hd.1 hd.2 x) (by simp [dQ, bG, gE]) (by simp [fM, jO])
 obtain ⟨ki, hki⟩ : ∃ z, z = u64 imm := ⟨_, rfl⟩
 have hkl : ki < 18446744073709551616 := by rw [hki]; exact iJ _
 have hkv : (ki : Int) = imm := by rw [hki]; unfold u64; omega
 have k1 : aJ .u64 (I6 imm) = some (Un ki) := by rw [gL, hki]
 have k2 : aQ Tryd.prog .and 3 true (I6 imm) (.int .i64 63) = some (I6 (imm % 64)) := iD _ _ _ (by omega) (by omega)
 obtain ⟨kj, hkj⟩ : ∃ z : Nat, (z : Int) = imm % 64 := ⟨(imm % 64).toNat, by omega⟩
 rw [← hkj] at k2
 have k3 : aJ .u64 (Nn kj) = some (Un kj) := by rw [dW, eD (by omega) (by omega)]
 have ed : cP ⟨1, d, n, m, a, imm⟩ r f = (fE r d (u64 imm * 2 ^ (16 * a).toNat % 18446744073709551616), f) := by
  unfold cP iR
  simp only [Int.reduceEq, or_false, false_or, or_self, or_true, true_or, if_false, if_true, ↓reduceIte]
 rw [ed]
 clear ed
 simp only
 try rw [← hki]
 generalize cC r d = rd at *
 generalize cC r n = rn at *
 generalize cC r m = rm at *
 generalize cC r a = ra at *
 obtain ⟨a0, a3⟩ := hf.1 (by omega)
 obtain ⟨s, hs⟩ : ∃ s : Nat, s = (16 * a).toNat := ⟨_, rfl⟩
 have e16 : aQ Tryd.prog .mul 3 true (.int .i64 16) (I6 a) = some (Nn s) := by
  rw [xJ, fD (by omega) (by omega)]; congr 2; omega
 rw [← hs]
 have e17 : aJ .u64 (Nn s) = some (Un s) := by rw [dW, eD (by omega) (by omega)]
 have k17 := uK Tryd.prog 43 false .u64 ki s (by omega)
 clear hs
 generalize ki * 2 ^ s % 18446744073709551616 = xx at *
 rw [aL.step]
 unfold aL.c
 rw [kB, jI]
 have hZ : (List.replicate 31 0 : List Nat).length = 31 := rfl
 have z1 : dZ 1 (bY (List.replicate 31 0)) [] = some (dK (List.replicate 31 0)) := rfl
 have z2 : dZ 1 [.bool false, .bool false, .bool false, .bool false] [] = some iV.a := rfl
 have b1 : eY 44 (dK (List.replicate 31 0)) [] = some (.ptr 0 1 0 0, [⟨44, 31, [dK (List.replicate 31 0)]⟩]) := kY _ rfl []
 have b2 : eY 53 (.agg [.bool false, .bool false, .bool false, .bool false]) [⟨44, 31, [dK (List.replicate 31 0)]⟩] = some (.ptr 1 1 0 0, jE (List.replicate 31 0) iV) := rfl
 generalize List.replicate 31 0 = Z at *
 have c0 : ∀ H, dH (dK r) H = some (.rp false (dK r) 0, H) := fun H => rfl
 have c1 : ∀ H, dH f.a H = some (.rp false f.a 0, H) := fun H => rfl
 have c2 : ∀ H, aC G true 31 (.rp false (dK r) 0) H = some (dK r) := fun H => by
  rw [jC, if_pos (by rw [bJ, hr.len]; exact Nat.le_refl _), List.drop_zero, List.take_of_length_le (by rw [bJ, hr.len]; exact Nat.le_refl _)]
 have c3 : ∀ H, aC G true 4 (.rp false f.a 0) H = some f.a := fun H => rfl
 have c4 : ∀ q : List Nat, q.length = 31 → eH (aO 31 (.ptr 0 1 0 0) (dK q) (jE Z iV)) = some (.tup [], jE q iV) := fun q hq => lD hq hZ rfl
 have c5 : ∀ (q : List Nat) (g : FL), eH (aO 4 (.ptr 1 1 0 0) g.a (jE q iV)) = some (.tup [], jE q g) := fun q g => rfl
 have st' := st xx
 have hq := iG r hr.len d xx
 generalize fE r d xx = q at *
 have c4' := c4 q hq
 have c5' := c5 q f
 refine dX ?_
 have fx := aOO r1 <| aOO g1 <| aOO g2 <| aOO g3 <| aOO g4 <| aOO k1 <| aOO k2 <| aOO k3 <| aOO b1 <| aOO b2 <| aOO c0 <| aOO c1 <| aOO c2 <| aOO c3 <| aOO z1 <| aOO z2 <| aOO e16 <| aOO e17 <| aOO k17 <| aOO st' <| aOO c4' <| c5'
 refine jL ?_
 exact oF (gZ G q hq f true)
theorem aMi (G : aI) (k : Nat) (d n m a imm : Int) (hw : aT ⟨2, d, n, m, a, imm⟩ = true) (r : List Nat) (hr : RgOk r) (f : FL) :
  aL.f G (k + 7) [mV 2 d n m a imm, dK r, f.a] [] = some (oQ ((cP ⟨2, d, n, m, a, imm⟩ r f).1, (cP ⟨2, d, n, m, a, imm⟩ r f).2, true), []) := by
 have r1 : ∀ H, aE (aG.f G (k + 6)) [mV 2 d n m a imm] H = _ := fun H => aD (H := H) (gF G k ⟨2, d, n, m, a, imm⟩) rfl rfl
 rw [hw] at r1
 obtain ⟨_, hd, hn, hm, ha, hf⟩ := iM hw
 have himm : 0 ≤ imm ∧ imm < 65536 := by
  unfold aT at hw
  rw [Bool.and_eq_true] at hw
  obtain ⟨_, h⟩ := hw
  simp [aN, dS, fP, dA, fW, dU, dB] at h
  omega
 simp only at hd hn hm ha hf
 clear hw
 have ld := hr.get d
 have ln := hr.get n
 have lm := hr.get m
 have la := hr.get a
 have g : ∀ j, 0 ≤ j → j ≤ 31 → ∀ H, aE (aU.f G (k + 6)) [dK r, I6 j] H = some (Un (cC r j), H) := fun j h0 h1 H => aD (H := H) (gW G (k + 5) r hr.len j h0 h1) (by simp [dQ, bG, gE]) rfl
 have g1 := g d hd.1 hd.2
 have g2 := g n hn.1 hn.2
 have g3 := g m hm.1 hm.2
 have g4 := g a ha.1 ha.2
 clear g
 have st : ∀ x H, aE (aV.f G (k + 6)) [dK r, I6 d, Un x] H = some (dK (fE r d x), H) := fun x H => aD (H := H) (gX G (k + 5) r hr.len d hd.1 hd.2 x) (by simp [dQ, bG, gE]) (by simp [fM, jO])
 obtain ⟨ki, hki⟩ : ∃ z, z = u64 imm := ⟨_, rfl⟩
 have hkl : ki < 18446744073709551616 := by rw [hki]; exact iJ _
 have hkv : (ki : Int) = imm := by rw [hki]; unfold u64; omega
 have k1 : aJ .u64 (I6 imm) = some (Un ki) := by rw [gL, hki]
 have k2 : aQ Tryd.prog .and 3 true (I6 imm) (.int .i64 63) = some (I6 (imm % 64)) := iD _ _ _ (by omega) (by omega)
 obtain ⟨kj, hkj⟩ : ∃ z : Nat, (z : Int) = imm % 64 := ⟨(imm % 64).toNat, by omega⟩
 rw [← hkj] at k2
 have k3 : aJ .u64 (Nn kj) = some (Un kj) := by rw [dW, eD (by omega) (by omega)]
 have ed : cP ⟨2, d, n, m, a, imm⟩ r f = (fE r d (nP (cC r d) (u64 imm) (16 * a).toNat), f) := by
  unfold cP iR
  simp only [Int.reduceEq, or_false, false_or, or_self, or_true, true_or, if_false, if_true, ↓reduceIte]
 rw [ed]
 clear ed
 simp only
 try rw [← hki]
 generalize cC r d = rd at *
 generalize cC r n = rn at *
 generalize cC r m = rm at *
 generalize cC r a = ra at *
 obtain ⟨a0, a3⟩ := hf.1 (by omega)
 obtain ⟨s, hs⟩ : ∃ s : Nat, s = (16 * a).toNat := ⟨_, rfl⟩
 have e16 : aQ Tryd.prog .mul 3 true (.int .i64 16) (I6 a) = some (Nn s) := by
  rw [xJ, fD (by omega) (by omega)]; congr 2; omega
 rw [← hs]
 have e17 : aJ .u64 (Nn s) = some (Un s) := by rw [dW, eD (by omega) (by omega)]
 have k17 := uK Tryd.prog 43 false .u64 ki s (by omega)
 have k18 : aQ Tryd.prog .shl 43 true (.int .u64 65535) (Un s) = some (Un (65535 * 2 ^ s % 18446744073709551616)) := uK Tryd.prog 43 true .u64 65535 s (by omega)
 have k19 := aDZ Tryd.prog 43 false .u64 (rd : Int) ((65535 * 2 ^ s % 18446744073709551616 : Nat) : Int)
 have k20 : aQ Tryd.prog .or 43 false (.int .u64 (bits .andNot .u64 (rd : Int) ((65535 * 2 ^ s % 18446744073709551616 : Nat) : Int))) (Un (ki * 2 ^ s % 18446744073709551616)) = some (Un (nP rd ki s)) := by
  rw [aBy]
  unfold nP
  have hb : ∀ p q : Int, 0 ≤ bits .or .u64 p q ∧ bits .or .u64 p q < 18446744073709551616 := fun p q => by
   show 0 ≤ IntKind.u64.wrap _ ∧ IntKind.u64.wrap _ < _
   rw [mS]; omega
  have := hb (bits .andNot .u64 (rd : Int) ((65535 * 2 ^ s % 18446744073709551616 : Nat) : Int)) ((ki * 2 ^ s % 18446744073709551616 : Nat) : Int)
  congr 2
  unfold u64
  omega
 clear hs
 generalize ki * 2 ^ s % 18446744073709551616 = z1' at *
 generalize 65535 * 2 ^ s % 18446744073709551616 = z2' at *
 generalize nP rd ki s = xx at *
 generalize bits .andNot .u64 (rd : Int) (z2' : Int) = z4' at *
 rw [aL.step]
 unfold aL.c
 rw [kB, jI]
 have hZ : (List.replicate 31 0 : List Nat).length = 31 := rfl
 have z1 : dZ 1 (bY (List.replicate 31 0)) [] = some (dK (List.replicate 31 0)) := rfl
 have z2 : dZ 1 [.bool false, .bool false, .bool false, .bool false] [] = some iV.a := rfl
 have b1 : eY 44 (dK (List.replicate 31 0)) [] = some (.ptr 0 1 0 0, [⟨44, 31, [dK (List.replicate 31 0)]⟩]) := kY _ rfl []
 have b2 : eY 53 (.agg [.bool false, .bool false, .bool false, .bool false]) [⟨44, 31, [dK (List.replicate 31 0)]⟩] = some (.ptr 1 1 0 0, jE (List.replicate 31 0) iV) := rfl
 generalize List.replicate 31 0 = Z at *
 have c0 : ∀ H, dH (dK r) H = some (.rp false (dK r) 0, H) := fun H => rfl
 have c1 : ∀ H, dH f.a H = some (.rp false f.a 0, H) := fun H => rfl
 have c2 : ∀ H, aC G true 31 (.rp false (dK r) 0) H = some (dK r) := fun H => by
  rw [jC, if_pos (by rw [bJ, hr.len]; exact Nat.le_refl _), List.drop_zero, List.take_of_length_le (by rw [bJ, hr.len]; exact Nat.le_refl _)]
 have c3 : ∀ H, aC G true 4 (.rp false f.a 0) H = some f.a := fun H => rfl
 have c4 : ∀ q : List Nat, q.length = 31 → eH (aO 31 (.ptr 0 1 0 0) (dK q) (jE Z iV)) = some (.tup [], jE q iV) := fun q hq => lD hq hZ rfl
 have c5 : ∀ (q : List Nat) (g : FL), eH (aO 4 (.ptr 1 1 0 0) g.a (jE q iV)) = some (.tup [], jE q g) := fun q g => rfl
 have st' := st xx
 have hq := iG r hr.len d xx
 generalize fE r d xx = q at *
 have c4' := c4 q hq
 have c5' := c5 q f
 refine dX ?_
 have fx := aOO r1 <| aOO g1 <| aOO g2 <| aOO g3 <| aOO g4 <| aOO k1 <| aOO k2 <| aOO k3 <| aOO b1 <| aOO b2 <| aOO c0 <| aOO c1 <| aOO c2 <| aOO c3 <| aOO z1 <| aOO z2 <| aOO e16 <| aOO e17 <| aOO k17 <| aOO k18 <| aOO k19 <| aOO k20 <| aOO st' <| aOO c4' <| c5'
 refine jL ?_
 exact oF (gZ G q hq f true)
theorem aMj (G : aI) (k : Nat) (d n m a imm : Int) (hw : aT ⟨3, d, n, m, a, imm⟩ = true) (r : List Nat) (hr : RgOk r) (f : FL) :
  aL.f G (k + 7) [mV 3 d n m a imm, dK r, f.a] [] = some (oQ ((cP ⟨3, d, n, m, a, imm⟩ r f).1, (cP ⟨3, d, n, m, a, imm⟩ r f).2, true), []) := by
 have r1 : ∀ H, aE (aG.f G (k + 6)) [mV 3 d n m a imm] H = _ := fun H => aD (H := H) (gF G k ⟨3, d, n, m, a, imm⟩) rfl rfl
 rw [hw] at r1
 obtain ⟨_, hd, hn, hm, ha, hf⟩ := iM hw
 have himm : 0 ≤ imm ∧ imm < 65536 := by
  unfold aT at hw
  rw [Bool.and_eq_true] at hw
  obtain ⟨_, h⟩ := hw
  simp [aN, dS, fP, dA, fW, dU, dB] at h
  omega
 simp only at hd hn hm ha hf
 clear hw
 have ld := hr.get d
 have ln := hr.get n
 have lm := hr.get m
 have la := hr.get a
 have g : ∀ j, 0 ≤ j → j ≤ 31 → ∀ H, aE (aU.f G (k + 6)) [dK r, I6 j] H = some (Un (cC r j), H) := fun j h0 h1 H => aD (H := H) (gW G (k + 5) r hr.len j h0 h1) (by simp [dQ, bG, gE]) rfl
 have g1 := g d hd.1 hd.2
 have g2 := g n hn.1 hn.2
 have g3 := g m hm.1 hm.2
 have g4 := g a ha.1 ha.2
 clear g
 have st : ∀ x H, aE (aV.f G (k + 6)) [dK r, I6 d, Un x] H = some (dK (fE r d x), H) := fun x H => aD (H := H) (gX G (k + 5) r hr.len d hd.1 hd.2 x) (by simp [dQ, bG, gE]) (by simp [fM, jO])
 obtain ⟨ki, hki⟩ : ∃ z, z = u64 imm := ⟨_, rfl⟩
 have hkl : ki < 18446744073709551616 := by rw [hki]; exact iJ _
 have hkv : (ki : Int) = imm := by rw [hki]; unfold u64; omega
 have k1 : aJ .u64 (I6 imm) = some (Un ki) := by rw [gL, hki]
 have k2 : aQ Tryd.prog .and 3 true (I6 imm) (.int .i64 63) = some (I6 (imm % 64)) := iD _ _ _ (by omega) (by omega)
 obtain ⟨kj, hkj⟩ : ∃ z : Nat, (z : Int) = imm % 64 := ⟨(imm % 64).toNat, by omega⟩
 rw [← hkj] at k2
 have k3 : aJ .u64 (Nn kj) = some (Un kj) := by rw [dW, eD (by omega) (by omega)]
 have ed : cP ⟨3, d, n, m, a, imm⟩ r f = (fE r d ((cC r n + cC r m) % 18446744073709551616), f) := by
  unfold cP iR
  simp only [Int.reduceEq, or_false, false_or, or_self, or_true, true_or, if_false, if_true, ↓reduceIte]
 rw [ed]
 clear ed
 simp only
 try rw [← hki]
 generalize cC r d = rd at *
 generalize cC r n = rn at *
 generalize cC r m = rm at *
 generalize cC r a = ra at *
 have o1 := pV Tryd.prog 43 false rn rm
 generalize (rn + rm) % 18446744073709551616 = xx at *
 rw [aL.step]
 unfold aL.c
 rw [kB, jI]
 have hZ : (List.replicate 31 0 : List Nat).length = 31 := rfl
 have z1 : dZ 1 (bY (List.replicate 31 0)) [] = some (dK (List.replicate 31 0)) := rfl
 have z2 : dZ 1 [.bool false, .bool false, .bool false, .bool false] [] = some iV.a := rfl
 have b1 : eY 44 (dK (List.replicate 31 0)) [] = some (.ptr 0 1 0 0, [⟨44, 31, [dK (List.replicate 31 0)]⟩]) := kY _ rfl []
 have b2 : eY 53 (.agg [.bool false, .bool false, .bool false, .bool false]) [⟨44, 31, [dK (List.replicate 31 0)]⟩] = some (.ptr 1 1 0 0, jE (List.replicate 31 0) iV) := rfl
 generalize List.replicate 31 0 = Z at *
 have c0 : ∀ H, dH (dK r) H = some (.rp false (dK r) 0, H) := fun H => rfl
 have c1 : ∀ H, dH f.a H = some (.rp false f.a 0, H) := fun H => rfl
 have c2 : ∀ H, aC G true 31 (.rp false (dK r) 0) H = some (dK r) := fun H => by
  rw [jC, if_pos (by rw [bJ, hr.len]; exact Nat.le_refl _), List.drop_zero, List.take_of_length_le (by rw [bJ, hr.len]; exact Nat.le_refl _)]
 have c3 : ∀ H, aC G true 4 (.rp false f.a 0) H = some f.a := fun H => rfl
 have c4 : ∀ q : List Nat, q.length = 31 → eH (aO 31 (.ptr 0 1 0 0) (dK q) (jE Z iV)) = some (.tup [], jE q iV) := fun q hq => lD hq hZ rfl
 have c5 : ∀ (q : List Nat) (g : FL), eH (aO 4 (.ptr 1 1 0 0) g.a (jE q iV)) = some (.tup [], jE q g) := fun q g => rfl
 have st' := st xx
 have hq := iG r hr.len d xx
 generalize fE r d xx = q at *
 have c4' := c4 q hq
 have c5' := c5 q f
 refine dX ?_
 have fx := aOO r1 <| aOO g1 <| aOO g2 <| aOO g3 <| aOO g4 <| aOO k1 <| aOO k2 <| aOO k3 <| aOO b1 <| aOO b2 <| aOO c0 <| aOO c1 <| aOO c2 <| aOO c3 <| aOO z1 <| aOO z2 <| aOO o1 <| aOO st' <| aOO c4' <| c5'
 refine jL ?_
 exact oF (gZ G q hq f true)
theorem aMk (G : aI) (k : Nat) (d n m a imm : Int) (hw : aT ⟨4, d, n, m, a, imm⟩ = true) (r : List Nat) (hr : RgOk r) (f : FL) :
  aL.f G (k + 7) [mV 4 d n m a imm, dK r, f.a] [] = some (oQ ((cP ⟨4, d, n, m, a, imm⟩ r f).1, (cP ⟨4, d, n, m, a, imm⟩ r f).2, true), []) := by
 have r1 : ∀ H, aE (aG.f G (k + 6)) [mV 4 d n m a imm] H = _ := fun H => aD (H := H) (gF G k ⟨4, d, n, m, a, imm⟩) rfl rfl
 rw [hw] at r1
 obtain ⟨_, hd, hn, hm, ha, hf⟩ := iM hw
 have himm : 0 ≤ imm ∧ imm < 65536 := by
  unfold aT at hw
  rw [Bool.and_eq_true] at hw
  obtain ⟨_, h⟩ := hw
  simp [aN, dS, fP, dA, fW, dU, dB] at h
  omega
 simp only at hd hn hm ha hf
 clear hw
 have ld := hr.get d
 have ln := hr.get n
 have lm := hr.get m
 have la := hr.get a
 have g : ∀ j, 0 ≤ j → j ≤ 31 → ∀ H, aE (aU.f G (k + 6)) [dK r, I6 j] H = some (Un (cC r j), H) := fun j h0 h1 H => aD (H := H) (gW G (k + 5) r hr.len j h0 h1) (by simp [dQ, bG, gE]) rfl
 have g1 := g d hd.1 hd.2
 have g2 := g n hn.1 hn.2
 have g3 := g m hm.1 hm.2
 have g4 := g a ha.1 ha.2
 clear g
 have st : ∀ x H, aE (aV.f G (k + 6)) [dK r, I6 d, Un x] H = some (dK (fE r d x), H) := fun x H => aD (H := H) (gX G (k + 5) r hr.len d hd.1 hd.2 x) (by simp [dQ, bG, gE]) (by simp [fM, jO])
 obtain ⟨ki, hki⟩ : ∃ z, z = u64 imm := ⟨_, rfl⟩
 have hkl : ki < 18446744073709551616 := by rw [hki]; exact iJ _
 have hkv : (ki : Int) = imm := by rw [hki]; unfold u64; omega
 have k1 : aJ .u64 (I6 imm) = some (Un ki) := by rw [gL, hki]
 have k2 : aQ Tryd.prog .and 3 true (I6 imm) (.int .i64 63) = some (I6 (imm % 64)) := iD _ _ _ (by omega) (by omega)
 obtain ⟨kj, hkj⟩ : ∃ z : Nat, (z : Int) = imm % 64 := ⟨(imm % 64).toNat, by omega⟩
 rw [← hkj] at k2
 have k3 : aJ .u64 (Nn kj) = some (Un kj) := by rw [dW, eD (by omega) (by omega)]
 have ed : cP ⟨4, d, n, m, a, imm⟩ r f = (fE r d ((cC r n + 18446744073709551616 - cC r m) % 18446744073709551616), f) := by
  unfold cP iR
  simp only [Int.reduceEq, or_false, false_or, or_self, or_true, true_or, if_false, if_true, ↓reduceIte]
 rw [ed]
 clear ed
 simp only
 try rw [← hki]
 generalize cC r d = rd at *
 generalize cC r n = rn at *
 generalize cC r m = rm at *
 generalize cC r a = ra at *
 have o1 := xW Tryd.prog 43 false rn rm lm
 generalize (rn + 18446744073709551616 - rm) % 18446744073709551616 = xx at *
 rw [aL.step]
 unfold aL.c
 rw [kB, jI]
 have hZ : (List.replicate 31 0 : List Nat).length = 31 := rfl
 have z1 : dZ 1 (bY (List.replicate 31 0)) [] = some (dK (List.replicate 31 0)) := rfl
 have z2 : dZ 1 [.bool false, .bool false, .bool false, .bool false] [] = some iV.a := rfl
 have b1 : eY 44 (dK (List.replicate 31 0)) [] = some (.ptr 0 1 0 0, [⟨44, 31, [dK (List.replicate 31 0)]⟩]) := kY _ rfl []
 have b2 : eY 53 (.agg [.bool false, .bool false, .bool false, .bool false]) [⟨44, 31, [dK (List.replicate 31 0)]⟩] = some (.ptr 1 1 0 0, jE (List.replicate 31 0) iV) := rfl
 generalize List.replicate 31 0 = Z at *
 have c0 : ∀ H, dH (dK r) H = some (.rp false (dK r) 0, H) := fun H => rfl
 have c1 : ∀ H, dH f.a H = some (.rp false f.a 0, H) := fun H => rfl
 have c2 : ∀ H, aC G true 31 (.rp false (dK r) 0) H = some (dK r) := fun H => by
  rw [jC, if_pos (by rw [bJ, hr.len]; exact Nat.le_refl _), List.drop_zero, List.take_of_length_le (by rw [bJ, hr.len]; exact Nat.le_refl _)]
 have c3 : ∀ H, aC G true 4 (.rp false f.a 0) H = some f.a := fun H => rfl
 have c4 : ∀ q : List Nat, q.length = 31 → eH (aO 31 (.ptr 0 1 0 0) (dK q) (jE Z iV)) = some (.tup [], jE q iV) := fun q hq => lD hq hZ rfl
 have c5 : ∀ (q : List Nat) (g : FL), eH (aO 4 (.ptr 1 1 0 0) g.a (jE q iV)) = some (.tup [], jE q g) := fun q g => rfl
 have st' := st xx
 have hq := iG r hr.len d xx
 generalize fE r d xx = q at *
 have c4' := c4 q hq
 have c5' := c5 q f
 refine dX ?_
 have fx := aOO r1 <| aOO g1 <| aOO g2 <| aOO g3 <| aOO g4 <| aOO k1 <| aOO k2 <| aOO k3 <| aOO b1 <| aOO b2 <| aOO c0 <| aOO c1 <| aOO c2 <| aOO c3 <| aOO z1 <| aOO z2 <| aOO o1 <| aOO st' <| aOO c4' <| c5'
 refine jL ?_
 exact oF (gZ G q hq f true)
theorem aMl (G : aI) (k : Nat) (d n m a imm : Int) (hw : aT ⟨5, d, n, m, a, imm⟩ = true) (r : List Nat) (hr : RgOk r) (f : FL) :
  aL.f G (k + 7) [mV 5 d n m a imm, dK r, f.a] [] = some (oQ ((cP ⟨5, d, n, m, a, imm⟩ r f).1, (cP ⟨5, d, n, m, a, imm⟩ r f).2, true), []) := by
 have r1 : ∀ H, aE (aG.f G (k + 6)) [mV 5 d n m a imm] H = _ := fun H => aD (H := H) (gF G k ⟨5, d, n, m, a, imm⟩) rfl rfl
 rw [hw] at r1
 obtain ⟨_, hd, hn, hm, ha, hf⟩ := iM hw
 have himm : 0 ≤ imm ∧ imm < 65536 := by
  unfold aT at hw
  rw [Bool.and_eq_true] at hw
  obtain ⟨_, h⟩ := hw
  simp [aN, dS, fP, dA, fW, dU, dB] at h
  omega
 simp only at hd hn hm ha hf
 clear hw
 have ld := hr.get d
 have ln := hr.get n
 have lm := hr.get m
 have la := hr.get a
 have g : ∀ j, 0 ≤ j → j ≤ 31 → ∀ H, aE (aU.f G (k + 6)) [dK r, I6 j] H = some (Un (cC r j), H) := fun j h0 h1 H => aD (H := H) (gW G (k + 5) r hr.len j h0 h1) (by simp [dQ, bG, gE]) rfl
 have g1 := g d hd.1 hd.2
 have g2 := g n hn.1 hn.2
 have g3 := g m hm.1 hm.2
 have g4 := g a ha.1 ha.2
 clear g
 have st : ∀ x H, aE (aV.f G (k + 6)) [dK r, I6 d, Un x] H = some (dK (fE r d x), H) := fun x H => aD (H := H) (gX G (k + 5) r hr.len d hd.1 hd.2 x) (by simp [dQ, bG, gE]) (by simp [fM, jO])
 obtain ⟨ki, hki⟩ : ∃ z, z = u64 imm := ⟨_, rfl⟩
 have hkl : ki < 18446744073709551616 := by rw [hki]; exact iJ _
 have hkv : (ki : Int) = imm := by rw [hki]; unfold u64; omega
 have k1 : aJ .u64 (I6 imm) = some (Un ki) := by rw [gL, hki]
 have k2 : aQ Tryd.prog .and 3 true (I6 imm) (.int .i64 63) = some (I6 (imm % 64)) := iD _ _ _ (by omega) (by omega)
 obtain ⟨kj, hkj⟩ : ∃ z : Nat, (z : Int) = imm % 64 := ⟨(imm % 64).toNat, by omega⟩
 rw [← hkj] at k2
 have k3 : aJ .u64 (Nn kj) = some (Un kj) := by rw [dW, eD (by omega) (by omega)]
 have ed : cP ⟨5, d, n, m, a, imm⟩ r f = (fE r d (cC r n &&& cC r m), f) := by
  unfold cP iR
  simp only [Int.reduceEq, or_false, false_or, or_self, or_true, true_or, if_false, if_true, ↓reduceIte]
 rw [ed]
 clear ed
 simp only
 try rw [← hki]
 generalize cC r d = rd at *
 generalize cC r n = rn at *
 generalize cC r m = rm at *
 generalize cC r a = ra at *
 have o1 : aQ Tryd.prog .and 43 false (Un rn) (Un rm) = some (Un (rn &&& rm)) := by rw [nC, uI rn rm ln lm]
 generalize rn &&& rm = xx at *
 rw [aL.step]
 unfold aL.c
 rw [kB, jI]
 have hZ : (List.replicate 31 0 : List Nat).length = 31 := rfl
 have z1 : dZ 1 (bY (List.replicate 31 0)) [] = some (dK (List.replicate 31 0)) := rfl
 have z2 : dZ 1 [.bool false, .bool false, .bool false, .bool false] [] = some iV.a := rfl
 have b1 : eY 44 (dK (List.replicate 31 0)) [] = some (.ptr 0 1 0 0, [⟨44, 31, [dK (List.replicate 31 0)]⟩]) := kY _ rfl []
 have b2 : eY 53 (.agg [.bool false, .bool false, .bool false, .bool false]) [⟨44, 31, [dK (List.replicate 31 0)]⟩] = some (.ptr 1 1 0 0, jE (List.replicate 31 0) iV) := rfl
 generalize List.replicate 31 0 = Z at *
 have c0 : ∀ H, dH (dK r) H = some (.rp false (dK r) 0, H) := fun H => rfl
 have c1 : ∀ H, dH f.a H = some (.rp false f.a 0, H) := fun H => rfl
 have c2 : ∀ H, aC G true 31 (.rp false (dK r) 0) H = some (dK r) := fun H => by
  rw [jC, if_pos (by rw [bJ, hr.len]; exact Nat.le_refl _), List.drop_zero, List.take_of_length_le (by rw [bJ, hr.len]; exact Nat.le_refl _)]
 have c3 : ∀ H, aC G true 4 (.rp false f.a 0) H = some f.a := fun H => rfl
 have c4 : ∀ q : List Nat, q.length = 31 → eH (aO 31 (.ptr 0 1 0 0) (dK q) (jE Z iV)) = some (.tup [], jE q iV) := fun q hq => lD hq hZ rfl
 have c5 : ∀ (q : List Nat) (g : FL), eH (aO 4 (.ptr 1 1 0 0) g.a (jE q iV)) = some (.tup [], jE q g) := fun q g => rfl
 have st' := st xx
 have hq := iG r hr.len d xx
 generalize fE r d xx = q at *
 have c4' := c4 q hq
 have c5' := c5 q f
 refine dX ?_
 have fx := aOO r1 <| aOO g1 <| aOO g2 <| aOO g3 <| aOO g4 <| aOO k1 <| aOO k2 <| aOO k3 <| aOO b1 <| aOO b2 <| aOO c0 <| aOO c1 <| aOO c2 <| aOO c3 <| aOO z1 <| aOO z2 <| aOO o1 <| aOO st' <| aOO c4' <| c5'
 refine jL ?_
 exact oF (gZ G q hq f true)
theorem aMm (G : aI) (k : Nat) (d n m a imm : Int) (hw : aT ⟨6, d, n, m, a, imm⟩ = true) (r : List Nat) (hr : RgOk r) (f : FL) :
  aL.f G (k + 7) [mV 6 d n m a imm, dK r, f.a] [] = some (oQ ((cP ⟨6, d, n, m, a, imm⟩ r f).1, (cP ⟨6, d, n, m, a, imm⟩ r f).2, true), []) := by
 have r1 : ∀ H, aE (aG.f G (k + 6)) [mV 6 d n m a imm] H = _ := fun H => aD (H := H) (gF G k ⟨6, d, n, m, a, imm⟩) rfl rfl
 rw [hw] at r1
 obtain ⟨_, hd, hn, hm, ha, hf⟩ := iM hw
 have himm : 0 ≤ imm ∧ imm < 65536 := by
  unfold aT at hw
  rw [Bool.and_eq_true] at hw
  obtain ⟨_, h⟩ := hw
  simp [aN, dS, fP, dA, fW, dU, dB] at h
  omega
 simp only at hd hn hm ha hf
 clear hw
 have ld := hr.get d
 have ln := hr.get n
 have lm := hr.get m
 have la := hr.get a
 have g : ∀ j, 0 ≤ j → j ≤ 31 → ∀ H, aE (aU.f G (k + 6)) [dK r, I6 j] H = some (Un (cC r j), H) := fun j h0 h1 H => aD (H := H) (gW G (k + 5) r hr.len j h0 h1) (by simp [dQ, bG, gE]) rfl
 have g1 := g d hd.1 hd.2
 have g2 := g n hn.1 hn.2
 have g3 := g m hm.1 hm.2
 have g4 := g a ha.1 ha.2
 clear g
 have st : ∀ x H, aE (aV.f G (k + 6)) [dK r, I6 d, Un x] H = some (dK (fE r d x), H) := fun x H => aD (H := H) (gX G (k + 5) r hr.len d hd.1 hd.2 x) (by simp [dQ, bG, gE]) (by simp [fM, jO])
 obtain ⟨ki, hki⟩ : ∃ z, z = u64 imm := ⟨_, rfl⟩
 have hkl : ki < 18446744073709551616 := by rw [hki]; exact iJ _
 have hkv : (ki : Int) = imm := by rw [hki]; unfold u64; omega
 have k1 : aJ .u64 (I6 imm) = some (Un ki) := by rw [gL, hki]
 have k2 : aQ Tryd.prog .and 3 true (I6 imm) (.int .i64 63) = some (I6 (imm % 64)) := iD _ _ _ (by omega) (by omega)
 obtain ⟨kj, hkj⟩ : ∃ z : Nat, (z : Int) = imm % 64 := ⟨(imm % 64).toNat, by omega⟩
 rw [← hkj] at k2
 have k3 : aJ .u64 (Nn kj) = some (Un kj) := by rw [dW, eD (by omega) (by omega)]
 have ed : cP ⟨6, d, n, m, a, imm⟩ r f = (fE r d (cC r n ||| cC r m), f) := by
  unfold cP iR
  simp only [Int.reduceEq, or_false, false_or, or_self, or_true, true_or, if_false, if_true, ↓reduceIte]
 rw [ed]
 clear ed
 simp only
 try rw [← hki]
 generalize cC r d = rd at *
 generalize cC r n = rn at *
 generalize cC r m = rm at *
 generalize cC r a = ra at *
 have o1 : aQ Tryd.prog .or 43 false (Un rn) (Un rm) = some (Un (rn ||| rm)) := by rw [aBy, aIH rn rm ln lm]
 generalize rn ||| rm = xx at *
 rw [aL.step]
 unfold aL.c
 rw [kB, jI]
 have hZ : (List.replicate 31 0 : List Nat).length = 31 := rfl
 have z1 : dZ 1 (bY (List.replicate 31 0)) [] = some (dK (List.replicate 31 0)) := rfl
 have z2 : dZ 1 [.bool false, .bool false, .bool false, .bool false] [] = some iV.a := rfl
 have b1 : eY 44 (dK (List.replicate 31 0)) [] = some (.ptr 0 1 0 0, [⟨44, 31, [dK (List.replicate 31 0)]⟩]) := kY _ rfl []
 have b2 : eY 53 (.agg [.bool false, .bool false, .bool false, .bool false]) [⟨44, 31, [dK (List.replicate 31 0)]⟩] = some (.ptr 1 1 0 0, jE (List.replicate 31 0) iV) := rfl
 generalize List.replicate 31 0 = Z at *
 have c0 : ∀ H, dH (dK r) H = some (.rp false (dK r) 0, H) := fun H => rfl
 have c1 : ∀ H, dH f.a H = some (.rp false f.a 0, H) := fun H => rfl
 have c2 : ∀ H, aC G true 31 (.rp false (dK r) 0) H = some (dK r) := fun H => by
  rw [jC, if_pos (by rw [bJ, hr.len]; exact Nat.le_refl _), List.drop_zero, List.take_of_length_le (by rw [bJ, hr.len]; exact Nat.le_refl _)]
 have c3 : ∀ H, aC G true 4 (.rp false f.a 0) H = some f.a := fun H => rfl
 have c4 : ∀ q : List Nat, q.length = 31 → eH (aO 31 (.ptr 0 1 0 0) (dK q) (jE Z iV)) = some (.tup [], jE q iV) := fun q hq => lD hq hZ rfl
 have c5 : ∀ (q : List Nat) (g : FL), eH (aO 4 (.ptr 1 1 0 0) g.a (jE q iV)) = some (.tup [], jE q g) := fun q g => rfl
 have st' := st xx
 have hq := iG r hr.len d xx
 generalize fE r d xx = q at *
 have c4' := c4 q hq
 have c5' := c5 q f
 refine dX ?_
 have fx := aOO r1 <| aOO g1 <| aOO g2 <| aOO g3 <| aOO g4 <| aOO k1 <| aOO k2 <| aOO k3 <| aOO b1 <| aOO b2 <| aOO c0 <| aOO c1 <| aOO c2 <| aOO c3 <| aOO z1 <| aOO z2 <| aOO o1 <| aOO st' <| aOO c4' <| c5'
 refine jL ?_
 exact oF (gZ G q hq f true)
theorem aMn (G : aI) (k : Nat) (d n m a imm : Int) (hw : aT ⟨7, d, n, m, a, imm⟩ = true) (r : List Nat) (hr : RgOk r) (f : FL) :
  aL.f G (k + 7) [mV 7 d n m a imm, dK r, f.a] [] = some (oQ ((cP ⟨7, d, n, m, a, imm⟩ r f).1, (cP ⟨7, d, n, m, a, imm⟩ r f).2, true), []) := by
 have r1 : ∀ H, aE (aG.f G (k + 6)) [mV 7 d n m a imm] H = _ := fun H => aD (H := H) (gF G k ⟨7, d, n, m, a, imm⟩) rfl rfl
 rw [hw] at r1
 obtain ⟨_, hd, hn, hm, ha, hf⟩ := iM hw
 have himm : 0 ≤ imm ∧ imm < 65536 := by
  unfold aT at hw
  rw [Bool.and_eq_true] at hw
  obtain ⟨_, h⟩ := hw
  simp [aN, dS, fP, dA, fW, dU, dB] at h
  omega
 simp only at hd hn hm ha hf
 clear hw
 have ld := hr.get d
 have ln := hr.get n
 have lm := hr.get m
 have la := hr.get a
 have g : ∀ j, 0 ≤ j → j ≤ 31 → ∀ H, aE (aU.f G (k + 6)) [dK r, I6 j] H = some (Un (cC r j), H) := fun j h0 h1 H => aD (H := H) (gW G (k + 5) r hr.len j h0 h1) (by simp [dQ, bG, gE]) rfl
 have g1 := g d hd.1 hd.2
 have g2 := g n hn.1 hn.2
 have g3 := g m hm.1 hm.2
 have g4 := g a ha.1 ha.2
 clear g
 have st : ∀ x H, aE (aV.f G (k + 6)) [dK r, I6 d, Un x] H = some (dK (fE r d x), H) := fun x H => aD (H := H) (gX G (k + 5) r hr.len d hd.1 hd.2 x) (by simp [dQ, bG, gE]) (by simp [fM, jO])
 obtain ⟨ki, hki⟩ : ∃ z, z = u64 imm := ⟨_, rfl⟩
 have hkl : ki < 18446744073709551616 := by rw [hki]; exact iJ _
 have hkv : (ki : Int) = imm := by rw [hki]; unfold u64; omega
 have k1 : aJ .u64 (I6 imm) = some (Un ki) := by rw [gL, hki]
 have k2 : aQ Tryd.prog .and 3 true (I6 imm) (.int .i64 63) = some (I6 (imm % 64)) := iD _ _ _ (by omega) (by omega)
 obtain ⟨kj, hkj⟩ : ∃ z : Nat, (z : Int) = imm % 64 := ⟨(imm % 64).toNat, by omega⟩
 rw [← hkj] at k2
 have k3 : aJ .u64 (Nn kj) = some (Un kj) := by rw [dW, eD (by omega) (by omega)]
 have ed : cP ⟨7, d, n, m, a, imm⟩ r f = (fE r d (cC r n ^^^ cC r m), f) := by
  unfold cP iR
  simp only [Int.reduceEq, or_false, false_or, or_self, or_true, true_or, if_false, if_true, ↓reduceIte]
 rw [ed]
 clear ed
 simp only
 try rw [← hki]
 generalize cC r d = rd at *
 generalize cC r n = rn at *
 generalize cC r m = rm at *
 generalize cC r a = ra at *
 have o1 : aQ Tryd.prog .xor 43 false (Un rn) (Un rm) = some (Un (rn ^^^ rm)) := by rw [xN, xX rn rm ln lm]
 generalize rn ^^^ rm = xx at *
 rw [aL.step]
 unfold aL.c
 rw [kB, jI]
 have hZ : (List.replicate 31 0 : List Nat).length = 31 := rfl
 have z1 : dZ 1 (bY (List.replicate 31 0)) [] = some (dK (List.replicate 31 0)) := rfl
 have z2 : dZ 1 [.bool false, .bool false, .bool false, .bool false] [] = some iV.a := rfl
 have b1 : eY 44 (dK (List.replicate 31 0)) [] = some (.ptr 0 1 0 0, [⟨44, 31, [dK (List.replicate 31 0)]⟩]) := kY _ rfl []
 have b2 : eY 53 (.agg [.bool false, .bool false, .bool false, .bool false]) [⟨44, 31, [dK (List.replicate 31 0)]⟩] = some (.ptr 1 1 0 0, jE (List.replicate 31 0) iV) := rfl
 generalize List.replicate 31 0 = Z at *
 have c0 : ∀ H, dH (dK r) H = some (.rp false (dK r) 0, H) := fun H => rfl
 have c1 : ∀ H, dH f.a H = some (.rp false f.a 0, H) := fun H => rfl
 have c2 : ∀ H, aC G true 31 (.rp false (dK r) 0) H = some (dK r) := fun H => by
  rw [jC, if_pos (by rw [bJ, hr.len]; exact Nat.le_refl _), List.drop_zero, List.take_of_length_le (by rw [bJ, hr.len]; exact Nat.le_refl _)]
 have c3 : ∀ H, aC G true 4 (.rp false f.a 0) H = some f.a := fun H => rfl
 have c4 : ∀ q : List Nat, q.length = 31 → eH (aO 31 (.ptr 0 1 0 0) (dK q) (jE Z iV)) = some (.tup [], jE q iV) := fun q hq => lD hq hZ rfl
 have c5 : ∀ (q : List Nat) (g : FL), eH (aO 4 (.ptr 1 1 0 0) g.a (jE q iV)) = some (.tup [], jE q g) := fun q g => rfl
 have st' := st xx
 have hq := iG r hr.len d xx
 generalize fE r d xx = q at *
 have c4' := c4 q hq
 have c5' := c5 q f
 refine dX ?_
 have fx := aOO r1 <| aOO g1 <| aOO g2 <| aOO g3 <| aOO g4 <| aOO k1 <| aOO k2 <| aOO k3 <| aOO b1 <| aOO b2 <| aOO c0 <| aOO c1 <| aOO c2 <| aOO c3 <| aOO z1 <| aOO z2 <| aOO o1 <| aOO st' <| aOO c4' <| c5'
 refine jL ?_
 exact oF (gZ G q hq f true)
theorem aMo (G : aI) (k : Nat) (d n m a imm : Int) (hw : aT ⟨8, d, n, m, a, imm⟩ = true) (r : List Nat) (hr : RgOk r) (f : FL) :
  aL.f G (k + 7) [mV 8 d n m a imm, dK r, f.a] [] = some (oQ ((cP ⟨8, d, n, m, a, imm⟩ r f).1, (cP ⟨8, d, n, m, a, imm⟩ r f).2, true), []) := by
 have r1 : ∀ H, aE (aG.f G (k + 6)) [mV 8 d n m a imm] H = _ := fun H => aD (H := H) (gF G k ⟨8, d, n, m, a, imm⟩) rfl rfl
 rw [hw] at r1
 obtain ⟨_, hd, hn, hm, ha, hf⟩ := iM hw
 have himm : 0 ≤ imm ∧ imm < 65536 := by
  unfold aT at hw
  rw [Bool.and_eq_true] at hw
  obtain ⟨_, h⟩ := hw
  simp [aN, dS, fP, dA, fW, dU, dB] at h
  omega
 simp only at hd hn hm ha hf
 clear hw
 have ld := hr.get d
 have ln := hr.get n
 have lm := hr.get m
 have la := hr.get a
 have g : ∀ j, 0 ≤ j → j ≤ 31 → ∀ H, aE (aU.f G (k + 6)) [dK r, I6 j] H = some (Un (cC r j), H) := fun j h0 h1 H => aD (H := H) (gW G (k + 5) r hr.len j h0 h1) (by simp [dQ, bG, gE]) rfl
 have g1 := g d hd.1 hd.2
 have g2 := g n hn.1 hn.2
 have g3 := g m hm.1 hm.2
 have g4 := g a ha.1 ha.2
 clear g
 have st : ∀ x H, aE (aV.f G (k + 6)) [dK r, I6 d, Un x] H = some (dK (fE r d x), H) := fun x H => aD (H := H) (gX G (k + 5) r hr.len d hd.1 hd.2 x) (by simp [dQ, bG, gE]) (by simp [fM, jO])
 obtain ⟨ki, hki⟩ : ∃ z, z = u64 imm := ⟨_, rfl⟩
 have hkl : ki < 18446744073709551616 := by rw [hki]; exact iJ _
 have hkv : (ki : Int) = imm := by rw [hki]; unfold u64; omega
 have k1 : aJ .u64 (I6 imm) = some (Un ki) := by rw [gL, hki]
 have k2 : aQ Tryd.prog .and 3 true (I6 imm) (.int .i64 63) = some (I6 (imm % 64)) := iD _ _ _ (by omega) (by omega)
 obtain ⟨kj, hkj⟩ : ∃ z : Nat, (z : Int) = imm % 64 := ⟨(imm % 64).toNat, by omega⟩
 rw [← hkj] at k2
 have k3 : aJ .u64 (Nn kj) = some (Un kj) := by rw [dW, eD (by omega) (by omega)]
 have ed : cP ⟨8, d, n, m, a, imm⟩ r f = (fE r d ((cC r n * cC r m % 18446744073709551616 + cC r a) % 18446744073709551616), f) := by
  unfold cP iR
  simp only [Int.reduceEq, or_false, false_or, or_self, or_true, true_or, if_false, if_true, ↓reduceIte]
 rw [ed]
 clear ed
 simp only
 try rw [← hki]
 generalize cC r d = rd at *
 generalize cC r n = rn at *
 generalize cC r m = rm at *
 generalize cC r a = ra at *
 have o1 := uJ Tryd.prog 43 false rn rm
 generalize rn * rm % 18446744073709551616 = z1' at *
 have o2 := pV Tryd.prog 43 false z1' ra
 generalize (z1' + ra) % 18446744073709551616 = xx at *
 rw [aL.step]
 unfold aL.c
 rw [kB, jI]
 have hZ : (List.replicate 31 0 : List Nat).length = 31 := rfl
 have z1 : dZ 1 (bY (List.replicate 31 0)) [] = some (dK (List.replicate 31 0)) := rfl
 have z2 : dZ 1 [.bool false, .bool false, .bool false, .bool false] [] = some iV.a := rfl
 have b1 : eY 44 (dK (List.replicate 31 0)) [] = some (.ptr 0 1 0 0, [⟨44, 31, [dK (List.replicate 31 0)]⟩]) := kY _ rfl []
 have b2 : eY 53 (.agg [.bool false, .bool false, .bool false, .bool false]) [⟨44, 31, [dK (List.replicate 31 0)]⟩] = some (.ptr 1 1 0 0, jE (List.replicate 31 0) iV) := rfl
 generalize List.replicate 31 0 = Z at *
 have c0 : ∀ H, dH (dK r) H = some (.rp false (dK r) 0, H) := fun H => rfl
 have c1 : ∀ H, dH f.a H = some (.rp false f.a 0, H) := fun H => rfl
 have c2 : ∀ H, aC G true 31 (.rp false (dK r) 0) H = some (dK r) := fun H => by
  rw [jC, if_pos (by rw [bJ, hr.len]; exact Nat.le_refl _), List.drop_zero, List.take_of_length_le (by rw [bJ, hr.len]; exact Nat.le_refl _)]
 have c3 : ∀ H, aC G true 4 (.rp false f.a 0) H = some f.a := fun H => rfl
 have c4 : ∀ q : List Nat, q.length = 31 → eH (aO 31 (.ptr 0 1 0 0) (dK q) (jE Z iV)) = some (.tup [], jE q iV) := fun q hq => lD hq hZ rfl
 have c5 : ∀ (q : List Nat) (g : FL), eH (aO 4 (.ptr 1 1 0 0) g.a (jE q iV)) = some (.tup [], jE q g) := fun q g => rfl
 have st' := st xx
 have hq := iG r hr.len d xx
 generalize fE r d xx = q at *
 have c4' := c4 q hq
 have c5' := c5 q f
 refine dX ?_
 have fx := aOO r1 <| aOO g1 <| aOO g2 <| aOO g3 <| aOO g4 <| aOO k1 <| aOO k2 <| aOO k3 <| aOO b1 <| aOO b2 <| aOO c0 <| aOO c1 <| aOO c2 <| aOO c3 <| aOO z1 <| aOO z2 <| aOO o1 <| aOO o2 <| aOO st' <| aOO c4' <| c5'
 refine jL ?_
 exact oF (gZ G q hq f true)
theorem aMp (G : aI) (k : Nat) (d n m a imm : Int) (hw : aT ⟨9, d, n, m, a, imm⟩ = true) (r : List Nat) (hr : RgOk r) (f : FL) :
  aL.f G (k + 7) [mV 9 d n m a imm, dK r, f.a] [] = some (oQ ((cP ⟨9, d, n, m, a, imm⟩ r f).1, (cP ⟨9, d, n, m, a, imm⟩ r f).2, true), []) := by
 have r1 : ∀ H, aE (aG.f G (k + 6)) [mV 9 d n m a imm] H = _ := fun H => aD (H := H) (gF G k ⟨9, d, n, m, a, imm⟩) rfl rfl
 rw [hw] at r1
 obtain ⟨_, hd, hn, hm, ha, hf⟩ := iM hw
 have himm : 0 ≤ imm ∧ imm < 65536 := by
  unfold aT at hw
  rw [Bool.and_eq_true] at hw
  obtain ⟨_, h⟩ := hw
  simp [aN, dS, fP, dA, fW, dU, dB] at h
  omega
 simp only at hd hn hm ha hf
 clear hw
 have ld := hr.get d
 have ln := hr.get n
 have lm := hr.get m
 have la := hr.get a
 have g : ∀ j, 0 ≤ j → j ≤ 31 → ∀ H, aE (aU.f G (k + 6)) [dK r, I6 j] H = some (Un (cC r j), H) := fun j h0 h1 H => aD (H := H) (gW G (k + 5) r hr.len j h0 h1) (by simp [dQ, bG, gE]) rfl
 have g1 := g d hd.1 hd.2
 have g2 := g n hn.1 hn.2
 have g3 := g m hm.1 hm.2
 have g4 := g a ha.1 ha.2
 clear g
 have st : ∀ x H, aE (aV.f G (k + 6)) [dK r, I6 d, Un x] H = some (dK (fE r d x), H) := fun x H => aD (H := H) (gX G (k + 5) r hr.len d hd.1 hd.2 x) (by simp [dQ, bG, gE]) (by simp [fM, jO])
 obtain ⟨ki, hki⟩ : ∃ z, z = u64 imm := ⟨_, rfl⟩
 have hkl : ki < 18446744073709551616 := by rw [hki]; exact iJ _
 have hkv : (ki : Int) = imm := by rw [hki]; unfold u64; omega
 have k1 : aJ .u64 (I6 imm) = some (Un ki) := by rw [gL, hki]
 have k2 : aQ Tryd.prog .and 3 true (I6 imm) (.int .i64 63) = some (I6 (imm % 64)) := iD _ _ _ (by omega) (by omega)
 obtain ⟨kj, hkj⟩ : ∃ z : Nat, (z : Int) = imm % 64 := ⟨(imm % 64).toNat, by omega⟩
 rw [← hkj] at k2
 have k3 : aJ .u64 (Nn kj) = some (Un kj) := by rw [dW, eD (by omega) (by omega)]
 have ed : cP ⟨9, d, n, m, a, imm⟩ r f = (fE r d (cC r n * cC r m / 18446744073709551616), f) := by
  unfold cP iR
  simp only [Int.reduceEq, or_false, false_or, or_self, or_true, true_or, if_false, if_true, ↓reduceIte]
 rw [ed]
 clear ed
 simp only
 try rw [← hki]
 generalize cC r d = rd at *
 generalize cC r n = rn at *
 generalize cC r m = rm at *
 generalize cC r a = ra at *
 have o1 : ∀ H, aE (bQ.f G (k + 6)) [Un rn, Un rm] H = _ := fun H => aD (H := H) (yZ G (k + 5) rn rm ln lm) rfl rfl
 generalize rn * rm / 18446744073709551616 = xx at *
 rw [aL.step]
 unfold aL.c
 rw [kB, jI]
 have hZ : (List.replicate 31 0 : List Nat).length = 31 := rfl
 have z1 : dZ 1 (bY (List.replicate 31 0)) [] = some (dK (List.replicate 31 0)) := rfl
 have z2 : dZ 1 [.bool false, .bool false, .bool false, .bool false] [] = some iV.a := rfl
 have b1 : eY 44 (dK (List.replicate 31 0)) [] = some (.ptr 0 1 0 0, [⟨44, 31, [dK (List.replicate 31 0)]⟩]) := kY _ rfl []
 have b2 : eY 53 (.agg [.bool false, .bool false, .bool false, .bool false]) [⟨44, 31, [dK (List.replicate 31 0)]⟩] = some (.ptr 1 1 0 0, jE (List.replicate 31 0) iV) := rfl
 generalize List.replicate 31 0 = Z at *
 have c0 : ∀ H, dH (dK r) H = some (.rp false (dK r) 0, H) := fun H => rfl
 have c1 : ∀ H, dH f.a H = some (.rp false f.a 0, H) := fun H => rfl
 have c2 : ∀ H, aC G true 31 (.rp false (dK r) 0) H = some (dK r) := fun H => by
  rw [jC, if_pos (by rw [bJ, hr.len]; exact Nat.le_refl _), List.drop_zero, List.take_of_length_le (by rw [bJ, hr.len]; exact Nat.le_refl _)]
 have c3 : ∀ H, aC G true 4 (.rp false f.a 0) H = some f.a := fun H => rfl
 have c4 : ∀ q : List Nat, q.length = 31 → eH (aO 31 (.ptr 0 1 0 0) (dK q) (jE Z iV)) = some (.tup [], jE q iV) := fun q hq => lD hq hZ rfl
 have c5 : ∀ (q : List Nat) (g : FL), eH (aO 4 (.ptr 1 1 0 0) g.a (jE q iV)) = some (.tup [], jE q g) := fun q g => rfl
 have st' := st xx
 have hq := iG r hr.len d xx
 generalize fE r d xx = q at *
 have c4' := c4 q hq
 have c5' := c5 q f
 refine dX ?_
 have fx := aOO r1 <| aOO g1 <| aOO g2 <| aOO g3 <| aOO g4 <| aOO k1 <| aOO k2 <| aOO k3 <| aOO b1 <| aOO b2 <| aOO c0 <| aOO c1 <| aOO c2 <| aOO c3 <| aOO z1 <| aOO z2 <| aOO o1 <| aOO st' <| aOO c4' <| c5'
 refine jL ?_
 exact oF (gZ G q hq f true)
theorem aJG (G : aI) (k : Nat) (d n m a imm : Int) (hw : aT ⟨10, d, n, m, a, imm⟩ = true) (r : List Nat) (hr : RgOk r) (f : FL) :
  aL.f G (k + 7) [mV 10 d n m a imm, dK r, f.a] [] = some (oQ ((cP ⟨10, d, n, m, a, imm⟩ r f).1, (cP ⟨10, d, n, m, a, imm⟩ r f).2, true), []) := by
 have r1 : ∀ H, aE (aG.f G (k + 6)) [mV 10 d n m a imm] H = _ := fun H => aD (H := H) (gF G k ⟨10, d, n, m, a, imm⟩) rfl rfl
 rw [hw] at r1
 obtain ⟨_, hd, hn, hm, ha, hf⟩ := iM hw
 have himm : 0 ≤ imm ∧ imm < 65536 := by
  unfold aT at hw
  rw [Bool.and_eq_true] at hw
  obtain ⟨_, h⟩ := hw
  simp [aN, dS, fP, dA, fW, dU, dB] at h
  omega
 simp only at hd hn hm ha hf
 clear hw
 have ld := hr.get d
 have ln := hr.get n
 have lm := hr.get m
 have la := hr.get a
 have g : ∀ j, 0 ≤ j → j ≤ 31 → ∀ H, aE (aU.f G (k + 6)) [dK r, I6 j] H = some (Un (cC r j), H) := fun j h0 h1 H => aD (H := H) (gW G (k + 5) r hr.len j h0 h1) (by simp [dQ, bG, gE]) rfl
 have g1 := g d hd.1 hd.2
 have g2 := g n hn.1 hn.2
 have g3 := g m hm.1 hm.2
 have g4 := g a ha.1 ha.2
 clear g
 have st : ∀ x H, aE (aV.f G (k + 6)) [dK r, I6 d, Un x] H = some (dK (fE r d x), H) := fun x H => aD (H := H) (gX G (k + 5) r hr.len d hd.1 hd.2 x) (by simp [dQ, bG, gE]) (by simp [fM, jO])
 obtain ⟨ki, hki⟩ : ∃ z, z = u64 imm := ⟨_, rfl⟩
 have hkl : ki < 18446744073709551616 := by rw [hki]; exact iJ _
 have hkv : (ki : Int) = imm := by rw [hki]; unfold u64; omega
 have k1 : aJ .u64 (I6 imm) = some (Un ki) := by rw [gL, hki]
 have k2 : aQ Tryd.prog .and 3 true (I6 imm) (.int .i64 63) = some (I6 (imm % 64)) := iD _ _ _ (by omega) (by omega)
 obtain ⟨kj, hkj⟩ : ∃ z : Nat, (z : Int) = imm % 64 := ⟨(imm % 64).toNat, by omega⟩
 rw [← hkj] at k2
 have k3 : aJ .u64 (Nn kj) = some (Un kj) := by rw [dW, eD (by omega) (by omega)]
 have ed : cP ⟨10, d, n, m, a, imm⟩ r f = (fE r d ((cC r n + u64 imm) % 18446744073709551616), f) := by
  unfold cP iR
  simp only [Int.reduceEq, or_false, false_or, or_self, or_true, true_or, if_false, if_true, ↓reduceIte]
 rw [ed]
 clear ed
 simp only
 try rw [← hki]
 generalize cC r d = rd at *
 generalize cC r n = rn at *
 generalize cC r m = rm at *
 generalize cC r a = ra at *
 have o1 := pV Tryd.prog 43 false rn ki
 generalize (rn + ki) % 18446744073709551616 = xx at *
 rw [aL.step]
 unfold aL.c
 rw [kB, jI]
 have hZ : (List.replicate 31 0 : List Nat).length = 31 := rfl
 have z1 : dZ 1 (bY (List.replicate 31 0)) [] = some (dK (List.replicate 31 0)) := rfl
 have z2 : dZ 1 [.bool false, .bool false, .bool false, .bool false] [] = some iV.a := rfl
 have b1 : eY 44 (dK (List.replicate 31 0)) [] = some (.ptr 0 1 0 0, [⟨44, 31, [dK (List.replicate 31 0)]⟩]) := kY _ rfl []
 have b2 : eY 53 (.agg [.bool false, .bool false, .bool false, .bool false]) [⟨44, 31, [dK (List.replicate 31 0)]⟩] = some (.ptr 1 1 0 0, jE (List.replicate 31 0) iV) := rfl
 generalize List.replicate 31 0 = Z at *
 have c0 : ∀ H, dH (dK r) H = some (.rp false (dK r) 0, H) := fun H => rfl
 have c1 : ∀ H, dH f.a H = some (.rp false f.a 0, H) := fun H => rfl
 have c2 : ∀ H, aC G true 31 (.rp false (dK r) 0) H = some (dK r) := fun H => by
  rw [jC, if_pos (by rw [bJ, hr.len]; exact Nat.le_refl _), List.drop_zero, List.take_of_length_le (by rw [bJ, hr.len]; exact Nat.le_refl _)]
 have c3 : ∀ H, aC G true 4 (.rp false f.a 0) H = some f.a := fun H => rfl
 have c4 : ∀ q : List Nat, q.length = 31 → eH (aO 31 (.ptr 0 1 0 0) (dK q) (jE Z iV)) = some (.tup [], jE q iV) := fun q hq => lD hq hZ rfl
 have c5 : ∀ (q : List Nat) (g : FL), eH (aO 4 (.ptr 1 1 0 0) g.a (jE q iV)) = some (.tup [], jE q g) := fun q g => rfl
 have st' := st xx
 have hq := iG r hr.len d xx
 generalize fE r d xx = q at *
 have c4' := c4 q hq
 have c5' := c5 q f
 refine dX ?_
 have fx := aOO r1 <| aOO g1 <| aOO g2 <| aOO g3 <| aOO g4 <| aOO k1 <| aOO k2 <| aOO k3 <| aOO b1 <| aOO b2 <| aOO c0 <| aOO c1 <| aOO c2 <| aOO c3 <| aOO z1 <| aOO z2 <| aOO o1 <| aOO st' <| aOO c4' <| c5'
 refine jL ?_
 exact oF (gZ G q hq f true)
theorem aJH (G : aI) (k : Nat) (d n m a imm : Int) (hw : aT ⟨11, d, n, m, a, imm⟩ = true) (r : List Nat) (hr : RgOk r) (f : FL) :
  aL.f G (k + 7) [mV 11 d n m a imm, dK r, f.a] [] = some (oQ ((cP ⟨11, d, n, m, a, imm⟩ r f).1, (cP ⟨11, d, n, m, a, imm⟩ r f).2, true), []) := by
 have r1 : ∀ H, aE (aG.f G (k + 6)) [mV 11 d n m a imm] H = _ := fun H => aD (H := H) (gF G k ⟨11, d, n, m, a, imm⟩) rfl rfl
 rw [hw] at r1
 obtain ⟨_, hd, hn, hm, ha, hf⟩ := iM hw
 have himm : 0 ≤ imm ∧ imm < 65536 := by
  unfold aT at hw
  rw [Bool.and_eq_true] at hw
  obtain ⟨_, h⟩ := hw
  simp [aN, dS, fP, dA, fW, dU, dB] at h
  omega
 simp only at hd hn hm ha hf
 clear hw
 have ld := hr.get d
 have ln := hr.get n
 have lm := hr.get m
 have la := hr.get a
 have g : ∀ j, 0 ≤ j → j ≤ 31 → ∀ H, aE (aU.f G (k + 6)) [dK r, I6 j] H = some (Un (cC r j), H) := fun j h0 h1 H => aD (H := H) (gW G (k + 5) r hr.len j h0 h1) (by simp [dQ, bG, gE]) rfl
 have g1 := g d hd.1 hd.2
 have g2 := g n hn.1 hn.2
 have g3 := g m hm.1 hm.2
 have g4 := g a ha.1 ha.2
 clear g
 have st : ∀ x H, aE (aV.f G (k + 6)) [dK r, I6 d, Un x] H = some (dK (fE r d x), H) := fun x H => aD (H := H) (gX G (k + 5) r hr.len d hd.1 hd.2 x) (by simp [dQ, bG, gE]) (by simp [fM, jO])
 obtain ⟨ki, hki⟩ : ∃ z, z = u64 imm := ⟨_, rfl⟩
 have hkl : ki < 18446744073709551616 := by rw [hki]; exact iJ _
 have hkv : (ki : Int) = imm := by rw [hki]; unfold u64; omega
 have k1 : aJ .u64 (I6 imm) = some (Un ki) := by rw [gL, hki]
 have k2 : aQ Tryd.prog .and 3 true (I6 imm) (.int .i64 63) = some (I6 (imm % 64)) := iD _ _ _ (by omega) (by omega)
 obtain ⟨kj, hkj⟩ : ∃ z : Nat, (z : Int) = imm % 64 := ⟨(imm % 64).toNat, by omega⟩
 rw [← hkj] at k2
 have k3 : aJ .u64 (Nn kj) = some (Un kj) := by rw [dW, eD (by omega) (by omega)]
 have ed : cP ⟨11, d, n, m, a, imm⟩ r f = (fE r d ((cC r n + 18446744073709551616 - u64 imm) % 18446744073709551616), f) := by
  unfold cP iR
  simp only [Int.reduceEq, or_false, false_or, or_self, or_true, true_or, if_false, if_true, ↓reduceIte]
 rw [ed]
 clear ed
 simp only
 try rw [← hki]
 generalize cC r d = rd at *
 generalize cC r n = rn at *
 generalize cC r m = rm at *
 generalize cC r a = ra at *
 have o1 := xW Tryd.prog 43 false rn ki hkl
 generalize (rn + 18446744073709551616 - ki) % 18446744073709551616 = xx at *
 rw [aL.step]
 unfold aL.c
 rw [kB, jI]
 have hZ : (List.replicate 31 0 : List Nat).length = 31 := rfl
 have z1 : dZ 1 (bY (List.replicate 31 0)) [] = some (dK (List.replicate 31 0)) := rfl
 have z2 : dZ 1 [.bool false, .bool false, .bool false, .bool false] [] = some iV.a := rfl
 have b1 : eY 44 (dK (List.replicate 31 0)) [] = some (.ptr 0 1 0 0, [⟨44, 31, [dK (List.replicate 31 0)]⟩]) := kY _ rfl []
 have b2 : eY 53 (.agg [.bool false, .bool false, .bool false, .bool false]) [⟨44, 31, [dK (List.replicate 31 0)]⟩] = some (.ptr 1 1 0 0, jE (List.replicate 31 0) iV) := rfl
 generalize List.replicate 31 0 = Z at *
 have c0 : ∀ H, dH (dK r) H = some (.rp false (dK r) 0, H) := fun H => rfl
 have c1 : ∀ H, dH f.a H = some (.rp false f.a 0, H) := fun H => rfl
 have c2 : ∀ H, aC G true 31 (.rp false (dK r) 0) H = some (dK r) := fun H => by
  rw [jC, if_pos (by rw [bJ, hr.len]; exact Nat.le_refl _), List.drop_zero, List.take_of_length_le (by rw [bJ, hr.len]; exact Nat.le_refl _)]
 have c3 : ∀ H, aC G true 4 (.rp false f.a 0) H = some f.a := fun H => rfl
 have c4 : ∀ q : List Nat, q.length = 31 → eH (aO 31 (.ptr 0 1 0 0) (dK q) (jE Z iV)) = some (.tup [], jE q iV) := fun q hq => lD hq hZ rfl
 have c5 : ∀ (q : List Nat) (g : FL), eH (aO 4 (.ptr 1 1 0 0) g.a (jE q iV)) = some (.tup [], jE q g) := fun q g => rfl
 have st' := st xx
 have hq := iG r hr.len d xx
 generalize fE r d xx = q at *
 have c4' := c4 q hq
 have c5' := c5 q f
 refine dX ?_
 have fx := aOO r1 <| aOO g1 <| aOO g2 <| aOO g3 <| aOO g4 <| aOO k1 <| aOO k2 <| aOO k3 <| aOO b1 <| aOO b2 <| aOO c0 <| aOO c1 <| aOO c2 <| aOO c3 <| aOO z1 <| aOO z2 <| aOO o1 <| aOO st' <| aOO c4' <| c5'
 refine jL ?_
 exact oF (gZ G q hq f true)
theorem aJI (G : aI) (k : Nat) (d n m a imm : Int) (hw : aT ⟨12, d, n, m, a, imm⟩ = true) (r : List Nat) (hr : RgOk r) (f : FL) :
  aL.f G (k + 7) [mV 12 d n m a imm, dK r, f.a] [] = some (oQ ((cP ⟨12, d, n, m, a, imm⟩ r f).1, (cP ⟨12, d, n, m, a, imm⟩ r f).2, true), []) := by
 have r1 : ∀ H, aE (aG.f G (k + 6)) [mV 12 d n m a imm] H = _ := fun H => aD (H := H) (gF G k ⟨12, d, n, m, a, imm⟩) rfl rfl
 rw [hw] at r1
 obtain ⟨_, hd, hn, hm, ha, hf⟩ := iM hw
 have himm : 0 ≤ imm ∧ imm < 65536 := by
  unfold aT at hw
  rw [Bool.and_eq_true] at hw
  obtain ⟨_, h⟩ := hw
  simp [aN, dS, fP, dA, fW, dU, dB] at h
  omega
 simp only at hd hn hm ha hf
 clear hw
 have ld := hr.get d
 have ln := hr.get n
 have lm := hr.get m
 have la := hr.get a
 have g : ∀ j, 0 ≤ j → j ≤ 31 → ∀ H, aE (aU.f G (k + 6)) [dK r, I6 j] H = some (Un (cC r j), H) := fun j h0 h1 H => aD (H := H) (gW G (k + 5) r hr.len j h0 h1) (by simp [dQ, bG, gE]) rfl
 have g1 := g d hd.1 hd.2
 have g2 := g n hn.1 hn.2
 have g3 := g m hm.1 hm.2
 have g4 := g a ha.1 ha.2
 clear g
 have st : ∀ x H, aE (aV.f G (k + 6)) [dK r, I6 d, Un x] H = some (dK (fE r d x), H) := fun x H => aD (H := H) (gX G (k + 5) r hr.len d hd.1 hd.2 x) (by simp [dQ, bG, gE]) (by simp [fM, jO])
 obtain ⟨ki, hki⟩ : ∃ z, z = u64 imm := ⟨_, rfl⟩
 have hkl : ki < 18446744073709551616 := by rw [hki]; exact iJ _
 have hkv : (ki : Int) = imm := by rw [hki]; unfold u64; omega
 have k1 : aJ .u64 (I6 imm) = some (Un ki) := by rw [gL, hki]
 have k2 : aQ Tryd.prog .and 3 true (I6 imm) (.int .i64 63) = some (I6 (imm % 64)) := iD _ _ _ (by omega) (by omega)
 obtain ⟨kj, hkj⟩ : ∃ z : Nat, (z : Int) = imm % 64 := ⟨(imm % 64).toNat, by omega⟩
 rw [← hkj] at k2
 have k3 : aJ .u64 (Nn kj) = some (Un kj) := by rw [dW, eD (by omega) (by omega)]
 have ed : cP ⟨12, d, n, m, a, imm⟩ r f = (fE r d (cC r n * 2 ^ (u64 imm) % 18446744073709551616), f) := by
  unfold cP iR
  simp only [Int.reduceEq, or_false, false_or, or_self, or_true, true_or, if_false, if_true, ↓reduceIte]
 rw [ed]
 clear ed
 simp only
 try rw [← hki]
 generalize cC r d = rd at *
 generalize cC r n = rn at *
 generalize cC r m = rm at *
 generalize cC r a = ra at *
 have hi := hf.2 (by omega) (by omega)
 have ej : kj = ki := by omega
 subst ej
 have o1 := uK Tryd.prog 43 false .u64 rn kj (by omega)
 generalize rn * 2 ^ kj % 18446744073709551616 = xx at *
 rw [aL.step]
 unfold aL.c
 rw [kB, jI]
 have hZ : (List.replicate 31 0 : List Nat).length = 31 := rfl
 have z1 : dZ 1 (bY (List.replicate 31 0)) [] = some (dK (List.replicate 31 0)) := rfl
 have z2 : dZ 1 [.bool false, .bool false, .bool false, .bool false] [] = some iV.a := rfl
 have b1 : eY 44 (dK (List.replicate 31 0)) [] = some (.ptr 0 1 0 0, [⟨44, 31, [dK (List.replicate 31 0)]⟩]) := kY _ rfl []
 have b2 : eY 53 (.agg [.bool false, .bool false, .bool false, .bool false]) [⟨44, 31, [dK (List.replicate 31 0)]⟩] = some (.ptr 1 1 0 0, jE (List.replicate 31 0) iV) := rfl
 generalize List.replicate 31 0 = Z at *
 have c0 : ∀ H, dH (dK r) H = some (.rp false (dK r) 0, H) := fun H => rfl
 have c1 : ∀ H, dH f.a H = some (.rp false f.a 0, H) := fun H => rfl
 have c2 : ∀ H, aC G true 31 (.rp false (dK r) 0) H = some (dK r) := fun H => by
  rw [jC, if_pos (by rw [bJ, hr.len]; exact Nat.le_refl _), List.drop_zero, List.take_of_length_le (by rw [bJ, hr.len]; exact Nat.le_refl _)]
 have c3 : ∀ H, aC G true 4 (.rp false f.a 0) H = some f.a := fun H => rfl
 have c4 : ∀ q : List Nat, q.length = 31 → eH (aO 31 (.ptr 0 1 0 0) (dK q) (jE Z iV)) = some (.tup [], jE q iV) := fun q hq => lD hq hZ rfl
 have c5 : ∀ (q : List Nat) (g : FL), eH (aO 4 (.ptr 1 1 0 0) g.a (jE q iV)) = some (.tup [], jE q g) := fun q g => rfl
 have st' := st xx
 have hq := iG r hr.len d xx
 generalize fE r d xx = q at *
 have c4' := c4 q hq
 have c5' := c5 q f
 refine dX ?_
 have fx := aOO r1 <| aOO g1 <| aOO g2 <| aOO g3 <| aOO g4 <| aOO k1 <| aOO k2 <| aOO k3 <| aOO b1 <| aOO b2 <| aOO c0 <| aOO c1 <| aOO c2 <| aOO c3 <| aOO z1 <| aOO z2 <| aOO o1 <| aOO st' <| aOO c4' <| c5'
 refine jL ?_
 exact oF (gZ G q hq f true)
theorem aJJ (G : aI) (k : Nat) (d n m a imm : Int) (hw : aT ⟨13, d, n, m, a, imm⟩ = true) (r : List Nat) (hr : RgOk r) (f : FL) :
  aL.f G (k + 7) [mV 13 d n m a imm, dK r, f.a] [] = some (oQ ((cP ⟨13, d, n, m, a, imm⟩ r f).1, (cP ⟨13, d, n, m, a, imm⟩ r f).2, true), []) := by
 have r1 : ∀ H, aE (aG.f G (k + 6)) [mV 13 d n m a imm] H = _ := fun H => aD (H := H) (gF G k ⟨13, d, n, m, a, imm⟩) rfl rfl
 rw [hw] at r1
 obtain ⟨_, hd, hn, hm, ha, hf⟩ := iM hw
 have himm : 0 ≤ imm ∧ imm < 65536 := by
  unfold aT at hw
  rw [Bool.and_eq_true] at hw
  obtain ⟨_, h⟩ := hw
  simp [aN, dS, fP, dA, fW, dU, dB] at h
  omega
 simp only at hd hn hm ha hf
 clear hw
 have ld := hr.get d
 have ln := hr.get n
 have lm := hr.get m
 have la := hr.get a
 have g : ∀ j, 0 ≤ j → j ≤ 31 → ∀ H, aE (aU.f G (k + 6)) [dK r, I6 j] H = some (Un (cC r j), H) := fun j h0 h1 H => aD (H := H) (gW G (k + 5) r hr.len j h0 h1) (by simp [dQ, bG, gE]) rfl
 have g1 := g d hd.1 hd.2
 have g2 := g n hn.1 hn.2
 have g3 := g m hm.1 hm.2
 have g4 := g a ha.1 ha.2
 clear g
 have st : ∀ x H, aE (aV.f G (k + 6)) [dK r, I6 d, Un x] H = some (dK (fE r d x), H) := fun x H => aD (H := H) (gX G (k + 5) r hr.len d hd.1 hd.2 x) (by simp [dQ, bG, gE]) (by simp [fM, jO])
 obtain ⟨ki, hki⟩ : ∃ z, z = u64 imm := ⟨_, rfl⟩
 have hkl : ki < 18446744073709551616 := by rw [hki]; exact iJ _
 have hkv : (ki : Int) = imm := by rw [hki]; unfold u64; omega
 have k1 : aJ .u64 (I6 imm) = some (Un ki) := by rw [gL, hki]
 have k2 : aQ Tryd.prog .and 3 true (I6 imm) (.int .i64 63) = some (I6 (imm % 64)) := iD _ _ _ (by omega) (by omega)
 obtain ⟨kj, hkj⟩ : ∃ z : Nat, (z : Int) = imm % 64 := ⟨(imm % 64).toNat, by omega⟩
 rw [← hkj] at k2
 have k3 : aJ .u64 (Nn kj) = some (Un kj) := by rw [dW, eD (by omega) (by omega)]
 have ed : cP ⟨13, d, n, m, a, imm⟩ r f = (fE r d (cC r n / 2 ^ (u64 imm)), f) := by
  unfold cP iR
  simp only [Int.reduceEq, or_false, false_or, or_self, or_true, true_or, if_false, if_true, ↓reduceIte]
 rw [ed]
 clear ed
 simp only
 try rw [← hki]
 generalize cC r d = rd at *
 generalize cC r n = rn at *
 generalize cC r m = rm at *
 generalize cC r a = ra at *
 have hi := hf.2 (by omega) (by omega)
 have ej : kj = ki := by omega
 subst ej
 have o1 := rQ Tryd.prog 43 false .u64 rn kj (by omega)
 generalize rn / 2 ^ kj = xx at *
 rw [aL.step]
 unfold aL.c
 rw [kB, jI]
 have hZ : (List.replicate 31 0 : List Nat).length = 31 := rfl
 have z1 : dZ 1 (bY (List.replicate 31 0)) [] = some (dK (List.replicate 31 0)) := rfl
 have z2 : dZ 1 [.bool false, .bool false, .bool false, .bool false] [] = some iV.a := rfl
 have b1 : eY 44 (dK (List.replicate 31 0)) [] = some (.ptr 0 1 0 0, [⟨44, 31, [dK (List.replicate 31 0)]⟩]) := kY _ rfl []
 have b2 : eY 53 (.agg [.bool false, .bool false, .bool false, .bool false]) [⟨44, 31, [dK (List.replicate 31 0)]⟩] = some (.ptr 1 1 0 0, jE (List.replicate 31 0) iV) := rfl
 generalize List.replicate 31 0 = Z at *
 have c0 : ∀ H, dH (dK r) H = some (.rp false (dK r) 0, H) := fun H => rfl
 have c1 : ∀ H, dH f.a H = some (.rp false f.a 0, H) := fun H => rfl
 have c2 : ∀ H, aC G true 31 (.rp false (dK r) 0) H = some (dK r) := fun H => by
  rw [jC, if_pos (by rw [bJ, hr.len]; exact Nat.le_refl _), List.drop_zero, List.take_of_length_le (by rw [bJ, hr.len]; exact Nat.le_refl _)]
 have c3 : ∀ H, aC G true 4 (.rp false f.a 0) H = some f.a := fun H => rfl
 have c4 : ∀ q : List Nat, q.length = 31 → eH (aO 31 (.ptr 0 1 0 0) (dK q) (jE Z iV)) = some (.tup [], jE q iV) := fun q hq => lD hq hZ rfl
 have c5 : ∀ (q : List Nat) (g : FL), eH (aO 4 (.ptr 1 1 0 0) g.a (jE q iV)) = some (.tup [], jE q g) := fun q g => rfl
 have st' := st xx
 have hq := iG r hr.len d xx
 generalize fE r d xx = q at *
 have c4' := c4 q hq
 have c5' := c5 q f
 refine dX ?_
 have fx := aOO r1 <| aOO g1 <| aOO g2 <| aOO g3 <| aOO g4 <| aOO k1 <| aOO k2 <| aOO k3 <| aOO b1 <| aOO b2 <| aOO c0 <| aOO c1 <| aOO c2 <| aOO c3 <| aOO z1 <| aOO z2 <| aOO o1 <| aOO st' <| aOO c4' <| c5'
 refine jL ?_
 exact oF (gZ G q hq f true)
theorem aJK (G : aI) (k : Nat) (d n m a imm : Int) (hw : aT ⟨14, d, n, m, a, imm⟩ = true) (r : List Nat) (hr : RgOk r) (f : FL) :
  aL.f G (k + 7) [mV 14 d n m a imm, dK r, f.a] [] = some (oQ ((cP ⟨14, d, n, m, a, imm⟩ r f).1, (cP ⟨14, d, n, m, a, imm⟩ r f).2, true), []) := by
 have r1 : ∀ H, aE (aG.f G (k + 6)) [mV 14 d n m a imm] H = _ := fun H => aD (H := H) (gF G k ⟨14, d, n, m, a, imm⟩) rfl rfl
 rw [hw] at r1
 obtain ⟨_, hd, hn, hm, ha, hf⟩ := iM hw
 have himm : 0 ≤ imm ∧ imm < 65536 := by
  unfold aT at hw
  rw [Bool.and_eq_true] at hw
  obtain ⟨_, h⟩ := hw
  simp [aN, dS, fP, dA, fW, dU, dB] at h
  omega
 simp only at hd hn hm ha hf
 clear hw
 have ld := hr.get d
 have ln := hr.get n
 have lm := hr.get m
 have la := hr.get a
 have g : ∀ j, 0 ≤ j → j ≤ 31 → ∀ H, aE (aU.f G (k + 6)) [dK r, I6 j] H = some (Un (cC r j), H) := fun j h0 h1 H => aD (H := H) (gW G (k + 5) r hr.len j h0 h1) (by simp [dQ, bG, gE]) rfl
 have g1 := g d hd.1 hd.2
 have g2 := g n hn.1 hn.2
 have g3 := g m hm.1 hm.2
 have g4 := g a ha.1 ha.2
 clear g
 have st : ∀ x H, aE (aV.f G (k + 6)) [dK r, I6 d, Un x] H = some (dK (fE r d x), H) := fun x H => aD (H := H) (gX G (k + 5) r hr.len d hd.1 hd.2 x) (by simp [dQ, bG, gE]) (by simp [fM, jO])
 obtain ⟨ki, hki⟩ : ∃ z, z = u64 imm := ⟨_, rfl⟩
 have hkl : ki < 18446744073709551616 := by rw [hki]; exact iJ _
 have hkv : (ki : Int) = imm := by rw [hki]; unfold u64; omega
 have k1 : aJ .u64 (I6 imm) = some (Un ki) := by rw [gL, hki]
 have k2 : aQ Tryd.prog .and 3 true (I6 imm) (.int .i64 63) = some (I6 (imm % 64)) := iD _ _ _ (by omega) (by omega)
 obtain ⟨kj, hkj⟩ : ∃ z : Nat, (z : Int) = imm % 64 := ⟨(imm % 64).toNat, by omega⟩
 rw [← hkj] at k2
 have k3 : aJ .u64 (Nn kj) = some (Un kj) := by rw [dW, eD (by omega) (by omega)]
 have ed : cP ⟨14, d, n, m, a, imm⟩ r f = (fE r d (aCf (cC r n) (u64 imm)), f) := by
  unfold cP iR
  simp only [Int.reduceEq, or_false, false_or, or_self, or_true, true_or, if_false, if_true, ↓reduceIte]
 rw [ed]
 clear ed
 simp only
 try rw [← hki]
 generalize cC r d = rd at *
 generalize cC r n = rn at *
 generalize cC r m = rm at *
 generalize cC r a = ra at *
 have hi := hf.2 (by omega) (by omega)
 have ej : kj = ki := by omega
 subst ej
 have o1 := tA rn ln
 have o2 : aQ Tryd.prog .shr 2 false (I6 (lV rn)) (Un kj) = some (I6 ((lV rn).fdiv (2 ^ kj))) := by
  rw [xL _ _ _ _ _ _ _ (Int.natCast_nonneg kj)]
  have e : min ((kj : Int)).toNat IntKind.i64.bits = kj := by rw [Int.toNat_natCast]; exact Nat.min_eq_left (by have : IntKind.i64.bits = 64 := rfl; omega)
  rw [e]
 have o3 := gL .i64 ((lV rn).fdiv (2 ^ kj))
 have hq : u64 ((lV rn).fdiv (2 ^ kj)) = aCf rn kj := rfl
 rw [hq] at o3
 clear hq
 generalize aCf rn kj = xx at *
 generalize (lV rn).fdiv (2 ^ kj) = yy at *
 rw [aL.step]
 unfold aL.c
 rw [kB, jI]
 have hZ : (List.replicate 31 0 : List Nat).length = 31 := rfl
 have z1 : dZ 1 (bY (List.replicate 31 0)) [] = some (dK (List.replicate 31 0)) := rfl
 have z2 : dZ 1 [.bool false, .bool false, .bool false, .bool false] [] = some iV.a := rfl
 have b1 : eY 44 (dK (List.replicate 31 0)) [] = some (.ptr 0 1 0 0, [⟨44, 31, [dK (List.replicate 31 0)]⟩]) := kY _ rfl []
 have b2 : eY 53 (.agg [.bool false, .bool false, .bool false, .bool false]) [⟨44, 31, [dK (List.replicate 31 0)]⟩] = some (.ptr 1 1 0 0, jE (List.replicate 31 0) iV) := rfl
 generalize List.replicate 31 0 = Z at *
 have c0 : ∀ H, dH (dK r) H = some (.rp false (dK r) 0, H) := fun H => rfl
 have c1 : ∀ H, dH f.a H = some (.rp false f.a 0, H) := fun H => rfl
 have c2 : ∀ H, aC G true 31 (.rp false (dK r) 0) H = some (dK r) := fun H => by
  rw [jC, if_pos (by rw [bJ, hr.len]; exact Nat.le_refl _), List.drop_zero, List.take_of_length_le (by rw [bJ, hr.len]; exact Nat.le_refl _)]
 have c3 : ∀ H, aC G true 4 (.rp false f.a 0) H = some f.a := fun H => rfl
 have c4 : ∀ q : List Nat, q.length = 31 → eH (aO 31 (.ptr 0 1 0 0) (dK q) (jE Z iV)) = some (.tup [], jE q iV) := fun q hq => lD hq hZ rfl
 have c5 : ∀ (q : List Nat) (g : FL), eH (aO 4 (.ptr 1 1 0 0) g.a (jE q iV)) = some (.tup [], jE q g) := fun q g => rfl
 have st' := st xx
 have hq := iG r hr.len d xx
 generalize fE r d xx = q at *
 have c4' := c4 q hq
 have c5' := c5 q f
 refine dX ?_
 have fx := aOO r1 <| aOO g1 <| aOO g2 <| aOO g3 <| aOO g4 <| aOO k1 <| aOO k2 <| aOO k3 <| aOO b1 <| aOO b2 <| aOO c0 <| aOO c1 <| aOO c2 <| aOO c3 <| aOO z1 <| aOO z2 <| aOO o1 <| aOO o2 <| aOO o3 <| aOO st' <| aOO c4' <| c5'
 refine jL ?_
 exact oF (gZ G q hq f true)
theorem aJL (G : aI) (k : Nat) (d n m a imm : Int) (hw : aT ⟨15, d, n, m, a, imm⟩ = true) (r : List Nat) (hr : RgOk r) (f : FL) :
  aL.f G (k + 7) [mV 15 d n m a imm, dK r, f.a] [] = some (oQ ((cP ⟨15, d, n, m, a, imm⟩ r f).1, (cP ⟨15, d, n, m, a, imm⟩ r f).2, true), []) := by
 have r1 : ∀ H, aE (aG.f G (k + 6)) [mV 15 d n m a imm] H = _ := fun H => aD (H := H) (gF G k ⟨15, d, n, m, a, imm⟩) rfl rfl
 rw [hw] at r1
 obtain ⟨_, hd, hn, hm, ha, hf⟩ := iM hw
 have himm : 0 ≤ imm ∧ imm < 65536 := by
  unfold aT at hw
  rw [Bool.and_eq_true] at hw
  obtain ⟨_, h⟩ := hw
  simp [aN, dS, fP, dA, fW, dU, dB] at h
  omega
 simp only at hd hn hm ha hf
 clear hw
 have ld := hr.get d
 have ln := hr.get n
 have lm := hr.get m
 have la := hr.get a
 have g : ∀ j, 0 ≤ j → j ≤ 31 → ∀ H, aE (aU.f G (k + 6)) [dK r, I6 j] H = some (Un (cC r j), H) := fun j h0 h1 H => aD (H := H) (gW G (k + 5) r hr.len j h0 h1) (by simp [dQ, bG, gE]) rfl
 have g1 := g d hd.1 hd.2
 have g2 := g n hn.1 hn.2
 have g3 := g m hm.1 hm.2
 have g4 := g a ha.1 ha.2
 clear g
 have st : ∀ x H, aE (aV.f G (k + 6)) [dK r, I6 d, Un x] H = some (dK (fE r d x), H) := fun x H => aD (H := H) (gX G (k + 5) r hr.len d hd.1 hd.2 x) (by simp [dQ, bG, gE]) (by simp [fM, jO])
 obtain ⟨ki, hki⟩ : ∃ z, z = u64 imm := ⟨_, rfl⟩
 have hkl : ki < 18446744073709551616 := by rw [hki]; exact iJ _
 have hkv : (ki : Int) = imm := by rw [hki]; unfold u64; omega
 have k1 : aJ .u64 (I6 imm) = some (Un ki) := by rw [gL, hki]
 have k2 : aQ Tryd.prog .and 3 true (I6 imm) (.int .i64 63) = some (I6 (imm % 64)) := iD _ _ _ (by omega) (by omega)
 obtain ⟨kj, hkj⟩ : ∃ z : Nat, (z : Int) = imm % 64 := ⟨(imm % 64).toNat, by omega⟩
 rw [← hkj] at k2
 have k3 : aJ .u64 (Nn kj) = some (Un kj) := by rw [dW, eD (by omega) (by omega)]
 have ed : cP ⟨15, d, n, m, a, imm⟩ r f = (r, rW (cC r n) (cC r m)) := rfl
 rw [ed]
 clear ed
 simp only
 generalize cC r d = rd at *
 generalize cC r n = rn at *
 generalize cC r m = rm at *
 generalize cC r a = ra at *
 unfold rW
 have k1' := xW Tryd.prog 43 false rn rm lm
 obtain ⟨x, hx⟩ : ∃ x, x = (rn + 18446744073709551616 - rm) % 18446744073709551616 := ⟨_, rfl⟩
 have hxl : x < 18446744073709551616 := by omega
 rw [← hx] at k1' ⊢
 unfold aFu
 have k2' : aQ Tryd.prog .shr 43 true (Un x) (.int .u64 63) = some (Un (x / 2 ^ 63)) := rQ Tryd.prog 43 true .u64 x 63 (by omega)
 have k3' : aQ Tryd.prog .eql 43 true (Un (x / 2 ^ 63)) (.int .u64 1) = some (.bool (decide (x / 2 ^ 63 = 1))) := by rw [jW]; congr 2; simp only [decide_eq_decide]; omega
 have k4' : aQ Tryd.prog .eql 43 true (Un x) (.int .u64 0) = some (.bool (decide (x = 0))) := by rw [jW]; congr 2; simp only [decide_eq_decide]; omega
 have k5' : aQ Tryd.prog .geq 43 false (Un rn) (Un rm) = some (.bool (decide (rm ≤ rn))) := by rw [lE]; congr 2; simp only [decide_eq_decide]; omega
 have k6' : aQ Tryd.prog .xor 43 false (Un rn) (Un rm) = some (Un (rn ^^^ rm)) := by rw [xN, xX rn rm ln lm]
 have k7' : aQ Tryd.prog .xor 43 false (Un rn) (Un x) = some (Un (rn ^^^ x)) := by rw [xN, xX rn x ln hxl]
 have l6 : rn ^^^ rm < 2 ^ 64 := Nat.xor_lt_two_pow ln lm
 have l7 : rn ^^^ x < 2 ^ 64 := Nat.xor_lt_two_pow ln hxl
 obtain ⟨y, hy⟩ : ∃ y, y = (rn ^^^ rm) &&& (rn ^^^ x) := ⟨_, rfl⟩
 have k8' : aQ Tryd.prog .and 43 false (Un (rn ^^^ rm)) (Un (rn ^^^ x)) = some (Un y) := by rw [nC, uI _ _ (by omega) (by omega), hy]
 rw [← hy]
 have k9' : aQ Tryd.prog .shr 43 true (Un y) (.int .u64 63) = some (Un (y / 2 ^ 63)) := rQ Tryd.prog 43 true .u64 y 63 (by omega)
 have k10' : aQ Tryd.prog .eql 43 true (Un (y / 2 ^ 63)) (.int .u64 1) = some (.bool (decide (y / 2 ^ 63 = 1))) := by rw [jW]; congr 2; simp only [decide_eq_decide]; omega
 have x2 : ∀ p q r s, dZ 1 [.bool false, .bool false, .bool false, .bool false] [(0, .bool p), (1, .bool q), (2, .bool r), (3, .bool s)] = some (FL.a ⟨p, q, r, s⟩) := fun p q r s => rfl
 clear hx hy l6 l7 hxl
 generalize rn ^^^ rm = z1' at *
 generalize rn ^^^ x = z2' at *
 generalize decide (x / 2 ^ 63 = 1) = t1 at *
 generalize decide (x = 0) = t2 at *
 generalize decide (rm ≤ rn) = t3 at *
 generalize decide (y / 2 ^ 63 = 1) = t4 at *
 generalize x / 2 ^ 63 = z3' at *
 generalize y / 2 ^ 63 = z4' at *
 obtain ⟨ff, hff⟩ : ∃ ff : FL, ff = ⟨t1, t2, t3, t4⟩ := ⟨_, rfl⟩
 have x3 := x2 t1 t2 t3 t4
 rw [← hff] at x3 ⊢
 clear x2 hff
 rw [aL.step]
 unfold aL.c
 rw [kB, jI]
 have hZ : (List.replicate 31 0 : List Nat).length = 31 := rfl
 have z1 : dZ 1 (bY (List.replicate 31 0)) [] = some (dK (List.replicate 31 0)) := rfl
 have z2 : dZ 1 [.bool false, .bool false, .bool false, .bool false] [] = some iV.a := rfl
 have b1 : eY 44 (dK (List.replicate 31 0)) [] = some (.ptr 0 1 0 0, [⟨44, 31, [dK (List.replicate 31 0)]⟩]) := kY _ rfl []
 have b2 : eY 53 (.agg [.bool false, .bool false, .bool false, .bool false]) [⟨44, 31, [dK (List.replicate 31 0)]⟩] = some (.ptr 1 1 0 0, jE (List.replicate 31 0) iV) := rfl
 generalize List.replicate 31 0 = Z at *
 have c0 : ∀ H, dH (dK r) H = some (.rp false (dK r) 0, H) := fun H => rfl
 have c1 : ∀ H, dH f.a H = some (.rp false f.a 0, H) := fun H => rfl
 have c2 : ∀ H, aC G true 31 (.rp false (dK r) 0) H = some (dK r) := fun H => by
  rw [jC, if_pos (by rw [bJ, hr.len]; exact Nat.le_refl _), List.drop_zero, List.take_of_length_le (by rw [bJ, hr.len]; exact Nat.le_refl _)]
 have c3 : ∀ H, aC G true 4 (.rp false f.a 0) H = some f.a := fun H => rfl
 have c4 : ∀ q : List Nat, q.length = 31 → eH (aO 31 (.ptr 0 1 0 0) (dK q) (jE Z iV)) = some (.tup [], jE q iV) := fun q hq => lD hq hZ rfl
 have c5 : ∀ (q : List Nat) (g : FL), eH (aO 4 (.ptr 1 1 0 0) g.a (jE q iV)) = some (.tup [], jE q g) := fun q g => rfl
 have c4' := c4 r hr.len
 have c5' := c5 r ff
 refine dX ?_
 have fx := aOO r1 <| aOO g1 <| aOO g2 <| aOO g3 <| aOO g4 <| aOO k1 <| aOO k2 <| aOO k3 <| aOO b1 <| aOO b2 <| aOO c0 <| aOO c1 <| aOO c2 <| aOO c3 <| aOO z1 <| aOO z2 <| aOO k1' <| aOO k2' <| aOO k3' <| aOO k4' <| aOO k5' <| aOO k6' <| aOO k7' <| aOO k8' <| aOO k9' <| aOO k10' <| aOO x3 <| aOO c4' <| c5'
 refine jL ?_
 exact oF (gZ G r hr.len ff true)
theorem aJM (G : aI) (k : Nat) (d n m a imm : Int) (hw : aT ⟨16, d, n, m, a, imm⟩ = true) (r : List Nat) (hr : RgOk r) (f : FL) :
  aL.f G (k + 7) [mV 16 d n m a imm, dK r, f.a] [] = some (oQ ((cP ⟨16, d, n, m, a, imm⟩ r f).1, (cP ⟨16, d, n, m, a, imm⟩ r f).2, true), []) := by
 have r1 : ∀ H, aE (aG.f G (k + 6)) [mV 16 d n m a imm] H = _ := fun H => aD (H := H) (gF G k ⟨16, d, n, m, a, imm⟩) rfl rfl
 rw [hw] at r1
 obtain ⟨_, hd, hn, hm, ha, hf⟩ := iM hw
 have himm : 0 ≤ imm ∧ imm < 65536 := by
  unfold aT at hw
  rw [Bool.and_eq_true] at hw
  obtain ⟨_, h⟩ := hw
  simp [aN, dS, fP, dA, fW, dU, dB] at h
  omega
 simp only at hd hn hm ha hf
 clear hw
 have ld := hr.get d
 have ln := hr.get n
 have lm := hr.get m
 have la := hr.get a
 have g : ∀ j, 0 ≤ j → j ≤ 31 → ∀ H, aE (aU.f G (k + 6)) [dK r, I6 j] H = some (Un (cC r j), H) := fun j h0 h1 H => aD (H := H) (gW G (k + 5) r hr.len j h0 h1) (by simp [dQ, bG, gE]) rfl
 have g1 := g d hd.1 hd.2
 have g2 := g n hn.1 hn.2
 have g3 := g m hm.1 hm.2
 have g4 := g a ha.1 ha.2
 clear g
 have st : ∀ x H, aE (aV.f G (k + 6)) [dK r, I6 d, Un x] H = some (dK (fE r d x), H) := fun x H => aD (H := H) (gX G (k + 5) r hr.len d hd.1 hd.2 x) (by simp [dQ, bG, gE]) (by simp [fM, jO])
 obtain ⟨ki, hki⟩ : ∃ z, z = u64 imm := ⟨_, rfl⟩
 have hkl : ki < 18446744073709551616 := by rw [hki]; exact iJ _
 have hkv : (ki : Int) = imm := by rw [hki]; unfold u64; omega
 have k1 : aJ .u64 (I6 imm) = some (Un ki) := by rw [gL, hki]
 have k2 : aQ Tryd.prog .and 3 true (I6 imm) (.int .i64 63) = some (I6 (imm % 64)) := iD _ _ _ (by omega) (by omega)
 obtain ⟨kj, hkj⟩ : ∃ z : Nat, (z : Int) = imm % 64 := ⟨(imm % 64).toNat, by omega⟩
 rw [← hkj] at k2
 have k3 : aJ .u64 (Nn kj) = some (Un kj) := by rw [dW, eD (by omega) (by omega)]
 have ed : cP ⟨16, d, n, m, a, imm⟩ r f = (fE r d ((if iY a f = true then cC r n else cC r m)), f) := by
  unfold cP iR
  simp only [Int.reduceEq, or_false, false_or, or_self, or_true, true_or, if_false, if_true, ↓reduceIte]
 rw [ed]
 clear ed
 simp only
 try rw [← hki]
 generalize cC r d = rd at *
 generalize cC r n = rn at *
 generalize cC r m = rm at *
 generalize cC r a = ra at *
 have o1 : ∀ H, aE (bE.f G (k + 6)) [I6 a, f.a] H = _ := fun H => aD (H := H) (qX G (k + 5) a f) rfl rfl
 generalize iY a f = hh at *
 rw [aL.step]
 unfold aL.c
 rw [kB, jI]
 have hZ : (List.replicate 31 0 : List Nat).length = 31 := rfl
 have z1 : dZ 1 (bY (List.replicate 31 0)) [] = some (dK (List.replicate 31 0)) := rfl
 have z2 : dZ 1 [.bool false, .bool false, .bool false, .bool false] [] = some iV.a := rfl
 have b1 : eY 44 (dK (List.replicate 31 0)) [] = some (.ptr 0 1 0 0, [⟨44, 31, [dK (List.replicate 31 0)]⟩]) := kY _ rfl []
 have b2 : eY 53 (.agg [.bool false, .bool false, .bool false, .bool false]) [⟨44, 31, [dK (List.replicate 31 0)]⟩] = some (.ptr 1 1 0 0, jE (List.replicate 31 0) iV) := rfl
 generalize List.replicate 31 0 = Z at *
 have c0 : ∀ H, dH (dK r) H = some (.rp false (dK r) 0, H) := fun H => rfl
 have c1 : ∀ H, dH f.a H = some (.rp false f.a 0, H) := fun H => rfl
 have c2 : ∀ H, aC G true 31 (.rp false (dK r) 0) H = some (dK r) := fun H => by
  rw [jC, if_pos (by rw [bJ, hr.len]; exact Nat.le_refl _), List.drop_zero, List.take_of_length_le (by rw [bJ, hr.len]; exact Nat.le_refl _)]
 have c3 : ∀ H, aC G true 4 (.rp false f.a 0) H = some f.a := fun H => rfl
 have c4 : ∀ q : List Nat, q.length = 31 → eH (aO 31 (.ptr 0 1 0 0) (dK q) (jE Z iV)) = some (.tup [], jE q iV) := fun q hq => lD hq hZ rfl
 have c5 : ∀ (q : List Nat) (g : FL), eH (aO 4 (.ptr 1 1 0 0) g.a (jE q iV)) = some (.tup [], jE q g) := fun q g => rfl
 refine dX ?_
 cases hh
 ·simp only [Bool.false_eq_true, if_false, if_true]
  have st' : ∀ H, aE (aV.f G (k + 6)) [dK r, I6 d, Un rm] H = some (dK (fE r d rm), H) := st rm
  have hq := iG r hr.len d rm
  generalize fE r d rm = q at *
  have c4' := c4 q hq
  have c5' := c5 q f
  have fx := aOO r1 <| aOO g1 <| aOO g2 <| aOO g3 <| aOO g4 <| aOO k1 <| aOO k2 <| aOO k3 <| aOO b1 <| aOO b2 <| aOO c0 <| aOO c1 <| aOO c2 <| aOO c3 <| aOO z1 <| aOO z2 <| aOO o1 <| aOO st' <| aOO c4' <| c5'
  refine jL ?_
  exact oF (gZ G q hq f true)
 ·simp only [Bool.false_eq_true, if_false, if_true]
  have st' : ∀ H, aE (aV.f G (k + 6)) [dK r, I6 d, Un rn] H = some (dK (fE r d rn), H) := st rn
  have hq := iG r hr.len d rn
  generalize fE r d rn = q at *
  have c4' := c4 q hq
  have c5' := c5 q f
  have fx := aOO r1 <| aOO g1 <| aOO g2 <| aOO g3 <| aOO g4 <| aOO k1 <| aOO k2 <| aOO k3 <| aOO b1 <| aOO b2 <| aOO c0 <| aOO c1 <| aOO c2 <| aOO c3 <| aOO z1 <| aOO z2 <| aOO o1 <| aOO st' <| aOO c4' <| c5'
  refine jL ?_
  exact oF (gZ G q hq f true)
theorem aJN (G : aI) (k : Nat) (d n m a imm : Int) (hw : aT ⟨17, d, n, m, a, imm⟩ = true) (r : List Nat) (hr : RgOk r) (f : FL) :
  aL.f G (k + 7) [mV 17 d n m a imm, dK r, f.a] [] = some (oQ ((cP ⟨17, d, n, m, a, imm⟩ r f).1, (cP ⟨17, d, n, m, a, imm⟩ r f).2, true), []) := by
 have r1 : ∀ H, aE (aG.f G (k + 6)) [mV 17 d n m a imm] H = _ := fun H => aD (H := H) (gF G k ⟨17, d, n, m, a, imm⟩) rfl rfl
 rw [hw] at r1
 obtain ⟨_, hd, hn, hm, ha, hf⟩ := iM hw
 have himm : 0 ≤ imm ∧ imm < 65536 := by
  unfold aT at hw
  rw [Bool.and_eq_true] at hw
  obtain ⟨_, h⟩ := hw
  simp [aN, dS, fP, dA, fW, dU, dB] at h
  omega
 simp only at hd hn hm ha hf
 clear hw
 have ld := hr.get d
 have ln := hr.get n
 have lm := hr.get m
 have la := hr.get a
 have g : ∀ j, 0 ≤ j → j ≤ 31 → ∀ H, aE (aU.f G (k + 6)) [dK r, I6 j] H = some (Un (cC r j), H) := fun j h0 h1 H => aD (H := H) (gW G (k + 5) r hr.len j h0 h1) (by simp [dQ, bG, gE]) rfl
 have g1 := g d hd.1 hd.2
 have g2 := g n hn.1 hn.2
 have g3 := g m hm.1 hm.2
 have g4 := g a ha.1 ha.2
 clear g
 have st : ∀ x H, aE (aV.f G (k + 6)) [dK r, I6 d, Un x] H = some (dK (fE r d x), H) := fun x H => aD (H := H) (gX G (k + 5) r hr.len d hd.1 hd.2 x) (by simp [dQ, bG, gE]) (by simp [fM, jO])
 obtain ⟨ki, hki⟩ : ∃ z, z = u64 imm := ⟨_, rfl⟩
 have hkl : ki < 18446744073709551616 := by rw [hki]; exact iJ _
 have hkv : (ki : Int) = imm := by rw [hki]; unfold u64; omega
 have k1 : aJ .u64 (I6 imm) = some (Un ki) := by rw [gL, hki]
 have k2 : aQ Tryd.prog .and 3 true (I6 imm) (.int .i64 63) = some (I6 (imm % 64)) := iD _ _ _ (by omega) (by omega)
 obtain ⟨kj, hkj⟩ : ∃ z : Nat, (z : Int) = imm % 64 := ⟨(imm % 64).toNat, by omega⟩
 rw [← hkj] at k2
 have k3 : aJ .u64 (Nn kj) = some (Un kj) := by rw [dW, eD (by omega) (by omega)]
 have ed : cP ⟨17, d, n, m, a, imm⟩ r f = (fE r d ((if iY a f = true then 1 else 0)), f) := by
  unfold cP iR
  simp only [Int.reduceEq, or_false, false_or, or_self, or_true, true_or, if_false, if_true, ↓reduceIte]
 rw [ed]
 clear ed
 simp only
 try rw [← hki]
 generalize cC r d = rd at *
 generalize cC r n = rn at *
 generalize cC r m = rm at *
 generalize cC r a = ra at *
 have o1 : ∀ H, aE (bE.f G (k + 6)) [I6 a, f.a] H = _ := fun H => aD (H := H) (qX G (k + 5) a f) rfl rfl
 generalize iY a f = hh at *
 rw [aL.step]
 unfold aL.c
 rw [kB, jI]
 have hZ : (List.replicate 31 0 : List Nat).length = 31 := rfl
 have z1 : dZ 1 (bY (List.replicate 31 0)) [] = some (dK (List.replicate 31 0)) := rfl
 have z2 : dZ 1 [.bool false, .bool false, .bool false, .bool false] [] = some iV.a := rfl
 have b1 : eY 44 (dK (List.replicate 31 0)) [] = some (.ptr 0 1 0 0, [⟨44, 31, [dK (List.replicate 31 0)]⟩]) := kY _ rfl []
 have b2 : eY 53 (.agg [.bool false, .bool false, .bool false, .bool false]) [⟨44, 31, [dK (List.replicate 31 0)]⟩] = some (.ptr 1 1 0 0, jE (List.replicate 31 0) iV) := rfl
 generalize List.replicate 31 0 = Z at *
 have c0 : ∀ H, dH (dK r) H = some (.rp false (dK r) 0, H) := fun H => rfl
 have c1 : ∀ H, dH f.a H = some (.rp false f.a 0, H) := fun H => rfl
 have c2 : ∀ H, aC G true 31 (.rp false (dK r) 0) H = some (dK r) := fun H => by
  rw [jC, if_pos (by rw [bJ, hr.len]; exact Nat.le_refl _), List.drop_zero, List.take_of_length_le (by rw [bJ, hr.len]; exact Nat.le_refl _)]
 have c3 : ∀ H, aC G true 4 (.rp false f.a 0) H = some f.a := fun H => rfl
 have c4 : ∀ q : List Nat, q.length = 31 → eH (aO 31 (.ptr 0 1 0 0) (dK q) (jE Z iV)) = some (.tup [], jE q iV) := fun q hq => lD hq hZ rfl
 have c5 : ∀ (q : List Nat) (g : FL), eH (aO 4 (.ptr 1 1 0 0) g.a (jE q iV)) = some (.tup [], jE q g) := fun q g => rfl
 refine dX ?_
 cases hh
 ·simp only [Bool.false_eq_true, if_false, if_true]
  have st' : ∀ H, aE (aV.f G (k + 6)) [dK r, I6 d, .int .u64 0] H = some (dK (fE r d 0), H) := st 0
  have hq := iG r hr.len d 0
  generalize fE r d 0 = q at *
  have c4' := c4 q hq
  have c5' := c5 q f
  have fx := aOO r1 <| aOO g1 <| aOO g2 <| aOO g3 <| aOO g4 <| aOO k1 <| aOO k2 <| aOO k3 <| aOO b1 <| aOO b2 <| aOO c0 <| aOO c1 <| aOO c2 <| aOO c3 <| aOO z1 <| aOO z2 <| aOO o1 <| aOO st' <| aOO c4' <| c5'
  refine jL ?_
  exact oF (gZ G q hq f true)
 ·simp only [Bool.false_eq_true, if_false, if_true]
  have st' : ∀ H, aE (aV.f G (k + 6)) [dK r, I6 d, .int .u64 1] H = some (dK (fE r d 1), H) := st 1
  have hq := iG r hr.len d 1
  generalize fE r d 1 = q at *
  have c4' := c4 q hq
  have c5' := c5 q f
  have fx := aOO r1 <| aOO g1 <| aOO g2 <| aOO g3 <| aOO g4 <| aOO k1 <| aOO k2 <| aOO k3 <| aOO b1 <| aOO b2 <| aOO c0 <| aOO c1 <| aOO c2 <| aOO c3 <| aOO z1 <| aOO z2 <| aOO o1 <| aOO st' <| aOO c4' <| c5'
  refine jL ?_
  exact oF (gZ G q hq f true)
theorem aGv (G : aI) (k : Nat) (i : MI) (r : List Nat) (hr : RgOk r) (f : FL) : aL.f G (k + 7) [i.v, dK r, f.a] [] = some (oQ (aHy i r f), []) := by
 unfold aHy
 by_cases h : aT i = true ∧ i.op ≤ 17
 ·rw [if_pos h]
  have h24 := pS h.1
  obtain ⟨op, d, n, m, a, imm⟩ := i
  obtain ⟨hw, h17⟩ := h
  simp only at h17 h24
  show aL.f G (k + 7) [mV op d n m a imm, dK r, f.a] [] = _
  have h17' : op = 1 ∨ op = 2 ∨ op = 3 ∨ op = 4 ∨ op = 5 ∨ op = 6 ∨ op = 7 ∨ op = 8 ∨ op = 9 ∨ op = 10 ∨ op = 11 ∨ op = 12 ∨ op = 13 ∨ op = 14 ∨ op = 15 ∨ op = 16 ∨ op = 17 := by omega
  rcases h17' with rfl | rfl | rfl | rfl | rfl | rfl | rfl | rfl | rfl | rfl | rfl | rfl | rfl | rfl | rfl | rfl | rfl
  ·exact aMh G k d n m a imm hw r hr f
  ·exact aMi G k d n m a imm hw r hr f
  ·exact aMj G k d n m a imm hw r hr f
  ·exact aMk G k d n m a imm hw r hr f
  ·exact aMl G k d n m a imm hw r hr f
  ·exact aMm G k d n m a imm hw r hr f
  ·exact aMn G k d n m a imm hw r hr f
  ·exact aMo G k d n m a imm hw r hr f
  ·exact aMp G k d n m a imm hw r hr f
  ·exact aJG G k d n m a imm hw r hr f
  ·exact aJH G k d n m a imm hw r hr f
  ·exact aJI G k d n m a imm hw r hr f
  ·exact aJJ G k d n m a imm hw r hr f
  ·exact aJK G k d n m a imm hw r hr f
  ·exact aJL G k d n m a imm hw r hr f
  ·exact aJM G k d n m a imm hw r hr f
  ·exact aJN G k d n m a imm hw r hr f
 ·rw [if_neg h]
  have r1 : ∀ H, aE (aG.f G (k + 6)) [i.v] H = _ := fun H => aD (H := H) (gF G k i) rfl rfl
  rw [aL.step]
  unfold aL.c
  rw [kB, jI]
  have hZ : (List.replicate 31 0 : List Nat).length = 31 := rfl
  have z1 : dZ 1 (bY (List.replicate 31 0)) [] = some (dK (List.replicate 31 0)) := rfl
  have z2 : dZ 1 [.bool false, .bool false, .bool false, .bool false] [] = some iV.a := rfl
  have b1 : eY 44 (dK (List.replicate 31 0)) [] = some (.ptr 0 1 0 0, [⟨44, 31, [dK (List.replicate 31 0)]⟩]) := kY _ rfl []
  have b2 : eY 53 (.agg [.bool false, .bool false, .bool false, .bool false]) [⟨44, 31, [dK (List.replicate 31 0)]⟩] = some (.ptr 1 1 0 0, jE (List.replicate 31 0) iV) := rfl
  have c0 : ∀ H, dH (dK r) H = some (.rp false (dK r) 0, H) := fun H => rfl
  have c1 : ∀ H, dH f.a H = some (.rp false f.a 0, H) := fun H => rfl
  have c4 : eH (aO 31 (.ptr 0 1 0 0) (dK (List.replicate 31 0)) (jE (List.replicate 31 0) iV)) = some (.tup [], jE (List.replicate 31 0) iV) := lD hZ hZ rfl
  have c5 : ∀ (q : List Nat) (g : FL), eH (aO 4 (.ptr 1 1 0 0) g.a (jE q iV)) = some (.tup [], jE q g) := fun q g => rfl
  generalize List.replicate 31 0 = Z at *
  obtain ⟨op, d, n, m, a, imm⟩ := i
  simp only at h
  generalize aT ⟨op, d, n, m, a, imm⟩ = b at *
  unfold MI.v at *
  simp only at *
  refine dX ?_
  cases b
  ·have fx := aOO r1 <| aOO b1 <| aOO b2 <| aOO c0 <| aOO c1 <| aOO z1 <| aOO z2 <| aOO c4 <| c5
   refine jL ?_
   exact oF (gZ G Z hZ iV false)
  ·have h17 : ¬ op ≤ 17 := fun h2 => h ⟨rfl, h2⟩
   have fx := aOO r1 <| aOO b1 <| aOO b2 <| aOO c0 <| aOO c1 <| aOO z1 <| aOO z2 <| aOO c4 <| c5
   refine jL ?_
   exact oF (gZ G Z hZ iV false)
def QS.tailR (s : QS) : List AV := [.sl 6 s.leaks.length 0 s.leaks.length 2, Nn s.steps]
def QS.cellsR (s : QS) : List AV := I6 s.code :: .sl 2 s.mem.length 0 s.mem.length 1 :: (bY s.regs ++ s.tailR)
def jJ (b0 : ABlk) (T : aF) (s : QS) : aF :=
 b0 :: ⟨43, 1, []⟩ :: ⟨43, 1, bY s.mem⟩ :: ⟨46, 35, [.agg s.cellsR]⟩ :: ⟨53, 4, [s.flags.a]⟩ :: ⟨107, 2, []⟩ :: ⟨107, 2, gS s.leaks⟩ :: T
abbrev RX : AV := .ptr 3 1 0 0
section
variable (G : aI) (b0 : ABlk) (T : aF) (s : QS)
theorem aOg (o : Nat) : aC G false 1 (.ptr 3 1 0 o) (jJ b0 T s) = s.cellsR[o]? := rfl
theorem aKZ (o z : Nat) : aC G true z (.ptr 3 1 0 o) (jJ b0 T s) = if o + z ≤ s.cellsR.length then some (.agg ((s.cellsR.drop o).take z)) else none := rfl
variable (hr : s.regs.length = 31)
theorem aGx (j : Nat) (hr : s.regs.length = 31) : s.cellsR[33 + j]? = s.tailR[j]? := by
 unfold QS.cellsR
 have e : 33 + j = 31 + j + 1 + 1 := by omega
 rw [e, List.getElem?_cons_succ, List.getElem?_cons_succ, List.getElem?_append_right (by rw [bJ]; omega), bJ, hr]
 congr 1; omega
theorem jT (hr : s.regs.length = 31) : s.cellsR.length = 35 := by
 simp [QS.cellsR, QS.tailR, bJ, hr]
include hr in
theorem aFL (j : Nat) : aC G false 1 (.ptr 3 1 0 (33 + j)) (jJ b0 T s) = s.tailR[j]? := by
 rw [aOg, aGx _ _ hr]
include hr in
theorem aIe : aC G false 1 (.ptr 3 1 0 33) (jJ b0 T s) = some (.sl 6 s.leaks.length 0 s.leaks.length 2) := aFL G b0 T s hr 0
include hr in
theorem aKX : aC G false 1 (.ptr 3 1 0 34) (jJ b0 T s) = some (Nn s.steps) := aFL G b0 T s hr 1
theorem aOe : aC G false 1 (.ptr 3 1 0 1) (jJ b0 T s) = some (.sl 2 s.mem.length 0 s.mem.length 1) := rfl
include hr in
theorem aFK : aC G true 31 (.ptr 3 1 0 2) (jJ b0 T s) = some (dK s.regs) := by
 rw [aKZ, jT _ hr, if_pos (by omega)]
 have hl : (bY s.regs).length = 31 := by rw [bJ, hr]
 have e : (s.cellsR.drop 2).take 31 = bY s.regs := by
  unfold QS.cellsR
  rw [show 2 = 0 + 1 + 1 from rfl, List.drop_succ_cons, List.drop_succ_cons, List.drop_zero, List.take_append, hl, List.take_of_length_le (by omega)]
  simp
 rw [e]
theorem aKY : aC G true 4 (.ptr 4 1 0 0) (jJ b0 T s) = some s.flags.a := rfl
include hr in
theorem aEE : aC G true 35 RX (jJ b0 T s) = some (.agg s.cellsR) := by
 rw [aKZ, jT _ hr, if_pos (by omega), List.drop_zero, List.take_of_length_le (by rw [jT _ hr]; exact Nat.le_refl _)]
theorem aNA (o : Nat) (v : AV) (hv : fF v = true) (h1 : v.cells = [v]) (ho : o < 35) (hr : s.regs.length = 31) : eH (aO 1 (.ptr 3 1 0 o) v (jJ b0 T s)) =
  some (.tup [], (jJ b0 T s).set 3 ⟨46, 35, [.agg (jM s.cellsR o [v])]⟩) := by
 have e : (jJ b0 T s)[3]? = some ⟨46, 35, [.agg s.cellsR]⟩ := rfl
 have e2 : (AV.agg s.cellsR).cells = s.cellsR := rfl
 unfold aO
 simp only [e, List.length_singleton, hv, List.getElem?_cons_zero, h1]
 rw [if_pos (by simp), e2, if_pos (by rw [jT _ hr]; omega)]
 rfl
theorem aBc (j : Nat) (v : AV) (hr : s.regs.length = 31) : jM s.cellsR (33 + j) [v] = I6 s.code :: .sl 2 s.mem.length 0 s.mem.length 1 :: (bY s.regs ++ jM s.tailR j [v]) := by
 have hl : (bY s.regs).length = 31 := by rw [bJ, hr]
 unfold QS.cellsR jM
 rw [show 33 + j = 31 + j + 1 + 1 by omega, List.take_succ_cons, List.take_succ_cons, show 31 + j + 1 + 1 + [v].length = 31 + (j + [v].length) + 1 + 1 by omega, List.drop_succ_cons, List.drop_succ_cons,
  List.take_append, hl, List.take_of_length_le (by omega), List.drop_append, hl, List.drop_of_length_le (by omega)]
 simp only [Nat.add_sub_cancel_left, List.nil_append, List.cons_append, List.append_assoc]
theorem aNx (n : Int) (hr : s.regs.length = 31) : eH (aO 1 (.ptr 3 1 0 0) (I6 n) (jJ b0 T s)) = some (.tup [], jJ b0 T { s with code := n }) := aNA b0 T s 0 (I6 n) rfl rfl (by decide) hr
theorem aNy (n : Nat) (hr : s.regs.length = 31) : eH (aO 1 (.ptr 3 1 0 34) (Nn n) (jJ b0 T s)) = some (.tup [], jJ b0 T { s with steps := n }) := by
 rw [aNA b0 T s 34 (Nn n) rfl rfl (by decide) hr, aBc s 1 (Nn n) hr]; rfl
theorem aNz (f : FL) : eH (aO 4 (.ptr 4 1 0 0) f.a (jJ b0 T s)) = some (.tup [], jJ b0 T { s with flags := f }) := rfl
theorem aLa (q : List Nat) (hq : q.length = 31) (hr : s.regs.length = 31) : eH (aO 31 (.ptr 3 1 0 2) (dK q) (jJ b0 T s)) = some (.tup [], jJ b0 T { s with regs := q }) := by
 have e : (jJ b0 T s)[3]? = some ⟨46, 35, [.agg s.cellsR]⟩ := rfl
 have e2 : (AV.agg s.cellsR).cells = s.cellsR := rfl
 have e3 : (dK q).cells = bY q := rfl
 have hs : fF (dK q) = true := rfl
 have hl : (bY s.regs).length = 31 := by rw [bJ, hr]
 have hlq : (bY q).length = 31 := by rw [bJ, hq]
 have e4 : jM s.cellsR 2 (bY q) = QS.cellsR { s with regs := q } := by
  show jM (I6 s.code :: .sl 2 s.mem.length 0 s.mem.length 1 :: (bY s.regs ++ s.tailR)) 2 _ = I6 s.code :: .sl 2 s.mem.length 0 s.mem.length 1 :: (bY q ++ s.tailR)
  unfold jM
  rw [hlq, show 2 = 0 + 1 + 1 from rfl, List.take_succ_cons, List.take_succ_cons, List.take_zero, show 0 + 1 + 1 + 31 = 31 + 1 + 1 from rfl, List.drop_succ_cons, List.drop_succ_cons, List.drop_append, hl, List.drop_of_length_le (by omega)]
  simp
 unfold aO
 simp only [e, List.length_singleton, hs, List.getElem?_cons_zero, e3]
 rw [if_pos (by refine ⟨?_, ?_, ?_⟩ <;> first | trivial | exact hlq), e2, if_pos (by rw [jT _ hr]; decide), e4]
 rfl
theorem aMf (n : Nat) : cB 1 (.sl 2 s.mem.length 0 s.mem.length 1) (Un n) = if n < s.mem.length then some (.ptr 2 s.mem.length n 0) else none := by
 have h0 : (0 : Int) ≤ (n : Int) := by omega
 by_cases h : n < s.mem.length
 ·have h' : (n : Int) < (s.mem.length : Int) := by omega
  rw [if_pos h]
  simp [cB, h0, h']
 ·have h' : ¬ (n : Int) < (s.mem.length : Int) := by omega
  rw [if_neg h]
  simp [cB, h0, h']
theorem aOf (j : Nat) (h : j < s.mem.length) : aC G false 1 (.ptr 2 s.mem.length j 0) (jJ b0 T s) = some (Un (s.mem.getD j 0)) := by
 have e : (jJ b0 T s)[2]? = some ⟨43, 1, bY s.mem⟩ := rfl
 unfold aC
 simp only [e, bJ, kN _ _ h, if_true]
 rfl
theorem aOh (j x : Nat) (h : j < s.mem.length) : eH (aO 1 (.ptr 2 s.mem.length j 0) (Un x) (jJ b0 T s)) = some (.tup [], jJ b0 T { s with mem := s.mem.set j x }) := by
 have e : (jJ b0 T s)[2]? = some ⟨43, 1, bY s.mem⟩ := rfl
 have e2 : QS.cellsR { s with mem := s.mem.set j x } = s.cellsR := by
  unfold QS.cellsR QS.tailR
  simp only [List.length_set]
 unfold aO
 simp only [e, bJ, kN _ _ h]
 unfold jJ
 rw [e2]
 simp only [rK]
 rfl
theorem aJD (p : Int × Int) (hl : s.leaks.length ≤ 1000000) : eQ 107 2 (.sl 6 s.leaks.length 0 s.leaks.length 2) (.ro false [jZ p]) (jJ b0 T s) =
  some (.sl 6 (s.leaks.length + 1) 0 (s.leaks.length + 1) 2, (jJ b0 T s).set 6 ⟨107, 2, gS (s.leaks ++ [p])⟩) := by
 have e : (jJ b0 T s)[6]? = some ⟨107, 2, gS s.leaks⟩ := rfl
 unfold eQ
 simp only [e, iK, jR, List.length_singleton]
 rw [if_pos (by refine ⟨?_, ?_, ?_, ?_, ?_⟩ <;> first | trivial | rfl | omega)]
 have e2 : (gS s.leaks).take s.leaks.length = gS s.leaks := List.take_of_length_le (by rw [jR]; exact Nat.le_refl _)
 have e3 : (gS s.leaks).drop (s.leaks.length + 1) = [] := List.drop_of_length_le (by rw [jR]; omega)
 rw [e2, e3, List.append_nil]
 have e4 : gS s.leaks ++ [jZ p] = gS (s.leaks ++ [p]) := by simp [gS]
 rw [e4, jR]; simp
theorem aJP (p : Int × Int) (hr : s.regs.length = 31) : eH (aO 1 (.ptr 3 1 0 33) (.sl 6 (s.leaks.length + 1) 0 (s.leaks.length + 1) 2) ((jJ b0 T s).set 6 ⟨107, 2, gS (s.leaks ++ [p])⟩)) =
  some (.tup [], jJ b0 T (s.leak p.1 p.2)) := by
 have e : ((jJ b0 T s).set 6 ⟨107, 2, gS (s.leaks ++ [p])⟩)[3]? = some ⟨46, 35, [.agg s.cellsR]⟩ := rfl
 have e2 : (AV.agg s.cellsR).cells = s.cellsR := rfl
 have e3 : QS.cellsR (s.leak p.1 p.2) = I6 s.code :: .sl 2 s.mem.length 0 s.mem.length 1 :: (bY s.regs ++ jM s.tailR 0 [.sl 6 (s.leaks.length + 1) 0 (s.leaks.length + 1) 2]) := by
  unfold QS.cellsR QS.tailR QS.leak
  simp only [List.length_append, List.length_singleton]
  rfl
 have e4 := aBc s 0 (.sl 6 (s.leaks.length + 1) 0 (s.leaks.length + 1) 2) hr
 unfold aO
 simp only [e, List.length_singleton, List.getElem?_cons_zero]
 rw [if_pos (by refine ⟨?_, ?_, ?_⟩ <;> first | trivial | rfl), e2, if_pos (by rw [jT _ hr]; decide)]
 have e5 : (AV.sl 6 (s.leaks.length + 1) 0 (s.leaks.length + 1) 2).cells = [.sl 6 (s.leaks.length + 1) 0 (s.leaks.length + 1) 2] := rfl
 have e4' : jM s.cellsR 33 [.sl 6 (s.leaks.length + 1) 0 (s.leaks.length + 1) 2] = _ := e4
 rw [e5, e4', ← e3]
 rfl
theorem nK (n : Nat) : ∀ xs ys : List AV, cS n xs = true → cS n ys = true → cS n (xs ++ ys) = true
 | [], ys, _, h => h
 | x :: xs, ys, h1, h2 => by
  simp only [cS, Bool.and_eq_true] at h1
  simp [cS, h1.1, nK n xs ys h1.2 h2]
theorem aKV (hb : cS 7 b0.elems = true) (xs : List AV) (hx : cS 7 xs = true) : iL 7 xs (jJ b0 T s) = some (jJ b0 [] s) := by
 have e : (jJ b0 T s).take 7 = jJ b0 [] s := rfl
 have h1 : cS 7 s.cellsR = true := by
  unfold QS.cellsR
  simp [cS, cK, nK, gT, QS.tailR]
 have h2 : dL 7 (jJ b0 [] s) = true := by
  simp [jJ, dL, cS, cK, hb, gT, nF, h1, FL.a]
 unfold iL
 rw [e, hx, h2]; rfl
theorem aEI (T' : Nat) (z cs : List AV) (hz : z.length = 35) (hc : cs.length = 35) : eH (aO 35 (.ptr 0 1 0 0) (.agg cs) (jJ (bR T' z) T s)) = some (.tup [], jJ (bR T' cs) T s) := by
 have e : (jJ (bR T' z) T s)[0]? = some ⟨T', 35, [.agg z]⟩ := rfl
 have e2 : jM z 0 cs = cs := by
  unfold jM
  rw [List.take_zero, List.nil_append, List.drop_of_length_le (by omega), List.append_nil]
 have e3 : (AV.agg cs).cells = cs := rfl
 have e4 : (AV.agg z).cells = z := rfl
 have hs : fF (.agg cs) = true := rfl
 unfold aO
 simp only [e, List.length_singleton, hs, List.getElem?_cons_zero, e3]
 rw [if_pos (by refine ⟨?_, ?_, ?_⟩ <;> first | trivial | exact hc), e4, if_pos (by omega), e2]
 rfl
end
theorem aNf {b : Bool} {xs : List AV} {j : Nat} {k : IntKind} {n : Int} (h : xs[j]? = some (.int k n)) : cB 1 (.ro b xs) (Nn j) = some (.rp b (.int k n) 0) := by
 have h0 : (0 : Int) ≤ (j : Int) := by omega
 unfold cB
 simp only [Int.toNat_natCast, h]
 rw [if_pos h0]
 rfl
abbrev bZ : ABlk := ⟨46, 35, [.agg (I6 0 :: .nils :: (bY (List.replicate 31 0) ++ [.nils, .int .i64 0]))]⟩
theorem aCz (n : Nat) : cS n bZ.elems = true := by simp [bZ, cS, cK, nK, gT]
def xC (l : List Nat) : aF := [bZ, ⟨43, 1, []⟩, ⟨43, 1, bY l⟩]
theorem aAm (G : aI) (k : Nat) (self : dE) (b : Bool) (mem : List Nat) (hml : mem.length ≤ 1000000) : ∀ (suf pre : List Nat) (f : Nat), mem = pre ++ suf → suf.length < f →
  gH (aX.l3 G k 3 self) f [.ro b (bY mem), .sl 2 pre.length 0 pre.length 1, Nn pre.length] (xC pre) = some (.exit 0, [.ro b (bY mem), .sl 2 mem.length 0 mem.length 1, Nn mem.length], xC mem)
 | suf, pre, 0, hm, hf => by omega
 | [], pre, f + 1, hm, hf => by
  rw [fJ, aX.l3]
  have hl : mem = pre := by rw [hm]; simp
  have hc : iL 3 [.ro b (bY mem), .sl 2 pre.length 0 pre.length 1, Nn pre.length] (xC pre) = some (xC pre) := by
   have hz := aCz 3; simp only [bZ] at hz; simp [iL, xC, cS, cK, dL, gT, nK]
  have lc : dV (.ro b (bY mem)) = some (I6 mem.length) := by simp [dV, bJ]
  have q : aQ Tryd.prog .lss 3 false (Nn pre.length) (Nn mem.length) = some (.bool false) := by rw [lP, decide_eq_false (by rw [hl]; omega)]
  refine jU ?_
  refine eC hc ?_
  have fx := aOO lc <| q
  refine gC ?_
  rw [hl]
  refine iA ?_; rfl
 | a :: suf, pre, f + 1, hm, hf => by
  rw [fJ, aX.l3]
  have hl : mem.length = pre.length + (suf.length + 1) := by rw [hm]; simp
  have hc : iL 3 [.ro b (bY mem), .sl 2 pre.length 0 pre.length 1, Nn pre.length] (xC pre) = some (xC pre) := by
   have hz := aCz 3; simp only [bZ] at hz; simp [iL, xC, cS, cK, dL, gT, nK]
  have lc : dV (.ro b (bY mem)) = some (I6 mem.length) := by simp [dV, bJ]
  have q : aQ Tryd.prog .lss 3 false (Nn pre.length) (Nn mem.length) = some (.bool true) := by rw [lP, decide_eq_true (by omega)]
  have ha : mem.getD pre.length 0 = a := by rw [hm]; simp [List.getD]
  have d1 : cB 1 (.ro b (bY mem)) (Nn pre.length) = some (.rp b (Un a) 0) := by
   have := kN mem pre.length (by omega)
   rw [ha] at this
   exact aNf this
  have d2 : ∀ H, aC G false 1 (.rp b (Un a) 0) H = some (Un a) := fun H => rfl
  have d3 : eQ 43 1 (.sl 2 pre.length 0 pre.length 1) (.ro false [Un a]) (xC pre) = some (.sl 2 (pre ++ [a]).length 0 (pre ++ [a]).length 1, xC (pre ++ [a])) := by
   have e : (xC pre)[2]? = some ⟨43, 1, bY pre⟩ := rfl
   unfold eQ
   simp only [e, iK, bJ, List.length_singleton]
   rw [if_pos (by refine ⟨?_, ?_, ?_, ?_, ?_⟩ <;> first | trivial | rfl | omega)]
   have e2 : (bY pre).take pre.length = bY pre := List.take_of_length_le (by rw [bJ]; exact Nat.le_refl _)
   have e3 : (bY pre).drop (pre.length + 1) = [] := List.drop_of_length_le (by rw [bJ]; omega)
   rw [e2, e3, List.append_nil]
   have e4 : bY pre ++ [Un a] = bY (pre ++ [a]) := by simp [bY]
   rw [e4, bJ]; simp [xC]
  have d4 : aQ Tryd.prog .add 3 true (Nn pre.length) (.int .i64 1) = some (Nn (pre ++ [a]).length) := by
   rw [kH, fD (by omega) (by omega)]; congr 2; simp
  have ih := aAm G k self b mem hml suf (pre ++ [a]) f (by rw [hm]; simp) (by simp at hf; omega)
  refine jU ?_
  refine eC hc ?_
  have fx := aOO lc <| aOO q <| aOO d1 <| aOO d2 <| aOO d3 <| d4
  refine gC ?_
  exact ih
theorem aEV (G : aI) (k : Nat) (b : Bool) (mem : List Nat) (hml : mem.length ≤ 1000000) (hk : mem.length < k) : aX.f G (k + 1) [.ro b (bY mem)] [bZ] = some (.sl 2 mem.length 0 mem.length 1, xC mem) := by
 rw [aX.step]
 unfold aX.c
 have lc : dV (.ro b (bY mem)) = some (I6 mem.length) := by simp [dV, bJ]
 have ms : jA 43 1 (.int .u64 0) (.int .i64 0) (I6 mem.length) [bZ, ⟨43, 1, []⟩] = some (.sl 2 0 0 0 1, xC []) := by
  unfold jA
  simp only
  rw [if_pos (by omega)]
  rfl
 have lp : gH (aX.l3 G k 3 (aX.f G k)) k [.ro b (bY mem), .sl 2 0 0 0 1, .int .i64 0] (xC []) = _ := aAm G k (aX.f G k) b mem hml mem [] k rfl hk
 refine dX ?_
 have fx := aOO lc <| ms
 have lx1 := lp
 refine gC ?_
 refine iA ?_; rfl
theorem aGz (G : aI) (k : Nat) (b : Bool) : bM.f G (k + 1) [.bool b] [] = some (I6 (if b = true then 1 else 0), []) := by
 rw [bM.step]
 unfold bM.c
 refine dX ?_
 cases b
 ·have fx := True.intro
  refine gC ?_
  exact sN rfl
 ·have fx := True.intro
  refine gC ?_
  exact sN rfl
def xsR (fuel : Int) (bor : Bool) (cs : List Int) (pc : Int) : List AV := [.ro bor (iI cs), I6 fuel, .ptr 0 1 0 0, RX, .ptr 4 1 0 0, I6 pc]
theorem aBo (fuel : Int) (bor : Bool) (cs : List Int) (pc : Int) : cS 7 (xsR fuel bor cs pc) = true := by simp [xsR, cS, cK, qI]
section
variable (G : aI) (k : Nat) (self : dE) (z : List AV) (hz : z.length = 35) (hzb : cS 7 z = true) (bor : Bool) (cs : List Int) (fuel : Int) (lp : iP)
theorem t7v (b0 : ABlk) (i : MI) (l : aF) (t : QS) : aC G true 6 (.ptr 7 1 0 0) (jJ b0 (⟨57, 6, [i.v]⟩ :: l) t) = some i.v := rfl
theorem t70 (b0 : ABlk) (i : MI) (l : aF) (t : QS) : aC G false 1 (.ptr 7 1 0 0) (jJ b0 (⟨57, 6, [i.v]⟩ :: l) t) = some (I6 i.op) := rfl
theorem t71 (b0 : ABlk) (i : MI) (l : aF) (t : QS) : aC G false 1 (.ptr 7 1 0 1) (jJ b0 (⟨57, 6, [i.v]⟩ :: l) t) = some (I6 i.d) := rfl
theorem t72 (b0 : ABlk) (i : MI) (l : aF) (t : QS) : aC G false 1 (.ptr 7 1 0 2) (jJ b0 (⟨57, 6, [i.v]⟩ :: l) t) = some (I6 i.n) := rfl
theorem t74 (b0 : ABlk) (i : MI) (l : aF) (t : QS) : aC G false 1 (.ptr 7 1 0 4) (jJ b0 (⟨57, 6, [i.v]⟩ :: l) t) = some (I6 i.a) := rfl
theorem t75 (b0 : ABlk) (i : MI) (l : aF) (t : QS) : aC G false 1 (.ptr 7 1 0 5) (jJ b0 (⟨57, 6, [i.v]⟩ :: l) t) = some (I6 i.imm) := rfl
def aEF (lp : iP) (z : List AV) (fuel : Int) (bor : Bool) (cs : List Int) (q : QS × Bool) (m : Option fL) : Prop :=
 if q.2 = true then ∃ T, m = lp (xsR fuel bor cs q.1.at_) (jJ (bR 46 z) T q.1)
 else ∃ T xs, m = some (.ret, xs, jJ (bR 46 q.1.cellsR) T q.1) ∧ aH xs 2 = .ptr 0 1 0 0
include hz hzb in
theorem aEG (T0 : aF) (s : QS) (hs : s.Ok) (hc : s.code = 3) (h1 : 0 ≤ s.at_) (h2 : s.at_ < cs.length) (h3 : (s.steps : Int) < fuel) (hf : fuel ≤ 99999) (hcl : cs.length ≤ 100000) (w0 : 0 ≤ cs.getD s.at_.toNat 0 ∧ cs.getD s.at_.toNat 0 < 4294967296) :
  aEF lp z fuel bor cs (s.tick.step (cs.getD s.at_.toNat 0)) (aW.l4 G (k + 41) 7 self lp (xsR fuel bor cs s.at_) (jJ (bR 46 z) T0 s)) := by
 have few := hs.few
 have lks := hs.leaks
 have hr := hs.rg.len
 have hb : cS 7 (bR 46 z).elems = true := by simp [bR, cS, cK, hzb]
 have hcut := aKV (bR 46 z) T0 s hb _ (aBo fuel bor cs s.at_)
 rw [aW.l4, kB]
 have hZ : (List.replicate 31 0 : List Nat).length = 31 := rfl
 generalize List.replicate 31 0 = Z at *
 have c2 : dV (.ro bor (iI cs)) = some (Nn cs.length) := by simp [dV, uR]
 have n0 : aQ Tryd.prog .lss 3 true (I6 s.at_) (.int .i64 0) = some (.bool false) := rO (by omega)
 have n1 : aQ Tryd.prog .geq 3 false (I6 s.at_) (Nn cs.length) = some (.bool false) := tY (by omega)
 have n2 : aQ Tryd.prog .geq 2 false (Nn s.steps) (I6 fuel) = some (.bool false) := tY (by omega)
 have n3 : aQ Tryd.prog .add 2 true (Nn s.steps) (.int .i64 1) = some (Nn (s.steps + 1)) := by
  rw [kH, fD (by omega) (by omega)]; congr 2
 have f0 : aA 0 RX = some RX := rfl
 have f1 : aA 1 RX = some (.ptr 3 1 0 1) := rfl
 have f2 : aA 2 RX = some (.ptr 3 1 0 2) := rfl
 have f33 : aA 33 RX = some (.ptr 3 1 0 33) := rfl
 have f34 : aA 34 RX = some (.ptr 3 1 0 34) := rfl
 have c3 := aKX G (bR 46 z) [] s hr
 have c4 := aNy (bR 46 z) [] s (s.steps + 1) hr
 have c5 := aIe G (bR 46 z) [] { s with steps := s.steps + 1 } hr
 have ll : s.leaks.length ≤ 999990 := by omega
 have c6 := aJD (bR 46 z) [] { s with steps := s.steps + 1 } (1, s.at_) (by simp only; omega)
 have c7 := aJP (bR 46 z) [] { s with steps := s.steps + 1 } (1, s.at_) hr
 have bl : ∀ a b : Int, aZ [(0, 1), (1, 1)] [(.int .i64 0), (.int .i64 0)] [(0, I6 a), (1, I6 b)] = some (jZ (a, b)) := fun a b => rfl
 have br : ∀ (a b : Int) H, eP 2 1 (.agg [(.int .i64 0), (.int .i64 0)]) [(0, jZ (a, b))] H = some (.ro false [jZ (a, b)], H) := fun a b H => rfl
 have bl1 : aZ [(0, 1), (1, 1)] [(.int .i64 0), (.int .i64 0)] [(0, (.int .i64 1)), (1, I6 s.at_)] = some (jZ (1, s.at_)) := rfl
 have br1 := br 1 s.at_
 have et : (({ s with steps := s.steps + 1 } : QS).leak 1 s.at_) = s.tick := rfl
 simp only at c5 c6 c7
 rw [et] at c7
 have c8 := wAt bor cs s.at_ h1 h2
 have c9 : ∀ w H, aC G false 1 (.rp bor (cX w) 0) H = some (cX w) := fun w H => rfl
 have okt : s.tick.Ok := ⟨hs.rg, hs.mem, by simp [QS.tick, QS.leak]; omega, hs.big, by simp [QS.tick, QS.leak]; omega⟩
 have tll : s.tick.leaks.length ≤ 999995 := by simp [QS.tick, QS.leak]; omega
 have tc : s.tick.code = 3 := hc
 have tat : s.tick.at_ = s.at_ := rfl
 generalize cs.getD s.at_.toNat 0 = w at *
 obtain ⟨t, ht⟩ : ∃ t, t = s.tick := ⟨_, rfl⟩
 rw [← ht] at c7 okt tll tc tat ⊢
 have tr := okt.rg.len
 have of : ∀ H, aE (bO.f G (k + 41)) [cX w] H = some (ofV (ofF w), H) := fun H => aD (H := H) (aIa G (k + 1) w w0.1 w0.2) rfl (by unfold ofV; split <;> rfl)
 have bx0 : eY 57 (.agg [.int .i64 0, .int .i64 0, .int .i64 0, .int .i64 0, .int .i64 0, .int .i64 0]) (jJ (bR 46 z) [] t) = some (.ptr 7 1 0 0, jJ (bR 46 z) (TB ⟨0, 0, 0, 0, 0, 0⟩) t) := rfl
 have s7 : ∀ y : MI, eH (aO 6 (.ptr 7 1 0 0) y.v (jJ (bR 46 z) (TB ⟨0, 0, 0, 0, 0, 0⟩) t)) = some (.tup [], jJ (bR 46 z) (TB y) t) := fun y => rfl
 have qV : ∀ (T : aF) (q : QS), q.regs.length = 31 → aC G true 35 RX (jJ (bR 46 z) T q) = some (.agg q.cellsR) := fun T q hq => aEE G (bR 46 z) T q hq
 have sAll : ∀ (T : aF) (q : QS), q.regs.length = 31 → eH (aO 35 (.ptr 0 1 0 0) (.agg q.cellsR) (jJ (bR 46 z) T q)) = some (.tup [], jJ (bR 46 q.cellsR) T q) := fun T q hq => aEI T q 46 z _ hz (jT q hq)
 unfold aEF QS.step
 cases ho : ofF w with
 | none =>
  have e3 : ({ t with code := 3 } : QS) = t := by rw [← tc]
  simp only
  rw [if_neg (by simp), e3]
  rw [ho] at of
  unfold ofV at of
  simp only at of
  have s7' := s7 ⟨0, 0, 0, 0, 0, 0⟩
  have z2 : (⟨0, 0, 0, 0, 0, 0⟩ : MI).v = mV 0 0 0 0 0 0 := rfl
  rw [z2] at s7'
  have l1 := qV (TB ⟨0, 0, 0, 0, 0, 0⟩) t tr
  have l2 := sAll (TB ⟨0, 0, 0, 0, 0, 0⟩) t tr
  clear s7 qV sAll z2
  refine ⟨TB ⟨0, 0, 0, 0, 0, 0⟩, [.ro bor (iI cs), I6 fuel, .ptr 0 1 0 0, RX, .ptr 4 1 0 0, I6 s.at_], ?_, rfl⟩
  refine jU ?_
  refine eC hcut ?_
  unfold xsR
  generalize TB ⟨0, 0, 0, 0, 0, 0⟩ = tb at *
  generalize t.cellsR = tcs at *
  generalize jZ (1, s.at_) = lv at *
  have fx := aOO f0 <| aOO f1 <| aOO f2 <| aOO f33 <| aOO f34 <| aOO c2 <| aOO n0 <| aOO n1 <| aOO c3 <| aOO n2 <| aOO n3 <| aOO c4 <| aOO c5 <| aOO bl1 <| aOO br1 <| aOO c6 <| aOO c7 <| aOO c8 <| aOO c9 <| aOO of <| aOO bx0 <| aOO s7' <| aOO l1 <| l2
  refine jL ?_
  refine iA ?_; rfl
 | some i =>
  have hri := (aBR ho).1
  have h24 := pS hri
  have hok := (iM hri).2
  have him := aGl hri
  rw [ho] at of
  unfold ofV at of
  simp only at of ⊢
  have s7' := s7 i
  have a70 : aA 0 (.ptr 7 1 0 0) = some (.ptr 7 1 0 0) := rfl
  have a71 : aA 1 (.ptr 7 1 0 0) = some (.ptr 7 1 0 1) := rfl
  have a72 : aA 2 (.ptr 7 1 0 0) = some (.ptr 7 1 0 2) := rfl
  have a74 : aA 4 (.ptr 7 1 0 0) = some (.ptr 7 1 0 4) := rfl
  have a75 : aA 5 (.ptr 7 1 0 0) = some (.ptr 7 1 0 5) := rfl
  have l70 := fun l t => t70 G (bR 46 z) i l t
  have l71 := fun l t => t71 G (bR 46 z) i l t
  have l72 := fun l t => t72 G (bR 46 z) i l t
  have l74 := fun l t => t74 G (bR 46 z) i l t
  have l75 := fun l t => t75 G (bR 46 z) i l t
  have l7v := fun l t => t7v G (bR 46 z) i l t
  have pc1 : aQ Tryd.prog .add 3 true (I6 s.at_) (.int .i64 1) = some (I6 (s.at_ + 1)) := aDw (by omega) (by omega)
  have g : ∀ j, 0 ≤ j → j ≤ 31 → ∀ H, aE (aU.f G (k + 41)) [dK t.regs, I6 j] H = some (Un (cC t.regs j), H) := fun j h0 h1 H => aD (H := H) (gW G (k + 40) t.regs tr j h0 h1) (by simp [dQ, bG, gE]) rfl
  have gn := g i.n hok.n.1 hok.n.2
  have gd_ := g i.d hok.d.1 hok.d.2
  clear g s7
  have atn : t.next.at_ = s.at_ + 1 := by rw [← tat]; rfl
  unfold QS.act
  by_cases t1 : i.op = 18 ∨ i.op = 19
  ·rw [if_pos t1]
   have rg := aFK G (bR 46 z) (TB i) t tr
   have d10 : aJ .u64 (I6 i.imm) = some (Un (u64 i.imm)) := gL ..
   have d11 : aQ Tryd.prog .mul 43 true (.int .u64 8) (Un (u64 i.imm)) = some (Un (8 * u64 i.imm % 18446744073709551616)) := uJ Tryd.prog 43 true 8 (u64 i.imm)
   have ea : t.next.addr i = t.addr i := rfl
   have d12 : aQ Tryd.prog .add 43 false (Un (cC t.regs i.n)) (Un (8 * u64 i.imm % 18446744073709551616)) = some (Un (t.addr i)) := pV ..
   have hal : t.addr i < 18446744073709551616 := by unfold QS.addr; exact Nat.mod_lt _ (by decide)
   unfold QS.touch
   rw [ea]
   generalize t.addr i = ad at *
   have d13 := tA ad hal
   have x33 := aIe G (bR 46 z) (TB i) t tr
   have x6 := aJD (bR 46 z) (TB i) t (3, lV ad) (by omega)
   have x7 := aJP (bR 46 z) (TB i) t (3, lV ad) tr
   have bl3 : aZ [(0, 1), (1, 1)] [(.int .i64 0), (.int .i64 0)] [(0, (.int .i64 3)), (1, I6 (lV ad))] = some (jZ (3, lV ad)) := rfl
   have br3 := br 3 (lV ad)
   obtain ⟨t2, ht2⟩ : ∃ t2, t2 = t.leak 3 (lV ad) := ⟨_, rfl⟩
   simp only at x7
   rw [← ht2] at x7
   have hm1 : t2.mem = t.mem := by rw [ht2]; rfl
   have hr1 : t2.regs = t.regs := by rw [ht2]; rfl
   have tr2 : t2.regs.length = 31 := by rw [hr1]; exact tr
   have d15 := aIJ Tryd.prog 43 true ad
   have d16 := aII Tryd.prog 43 true ad hal
   have d17 := aOe G (bR 46 z) (TB i) t2
   have d18 : dV (.sl 2 t2.mem.length 0 t2.mem.length 1) = some (Nn t2.mem.length) := rfl
   have tb := okt.big
   have d19 : aJ .u64 (Nn t2.mem.length) = some (Un t2.mem.length) := by rw [dW, eD (by omega) (by rw [hm1]; omega)]
   have d20 : aQ Tryd.prog .neq 43 true (Un (ad % 8)) (.int .u64 0) = some (.bool (decide (ad % 8 ≠ 0))) := by rw [sV]; congr 2; simp only [decide_eq_decide]; omega
   have d21 : aQ Tryd.prog .geq 43 false (Un (ad / 8)) (Un t2.mem.length) = some (.bool (decide (t.mem.length ≤ ad / 8))) := by rw [lE, hm1]; congr 2; simp only [decide_eq_decide]; omega
   have nm : t.next.mem = t.mem := rfl
   have nr : t.next.regs = t.regs := rfl
   by_cases hbad : ad % 8 ≠ 0 ∨ t.mem.length ≤ ad / 8
   ·rw [nm, if_pos hbad]
    simp only [Bool.false_eq_true, if_false]
    have e4 : ({ t.next.leak 3 (lV ad) with code := 3 } : QS) = { t2 with at_ := s.at_ + 1 } := by
     rw [ht2, ← tc, ← tat]; rfl
    rw [e4]
    have l1 := qV (TB i) t2 tr2
    have l2 := sAll (TB i) t2 tr2
    have e5 : ({ t2 with at_ := s.at_ + 1 } : QS).cellsR = t2.cellsR := rfl
    rw [e5]
    clear ht2 e4 e5 ea qV sAll hm1 hr1 atn
    refine ⟨TB i, [.ro bor (iI cs), I6 fuel, .ptr 0 1 0 0, RX, .ptr 4 1 0 0, I6 s.at_], ?_, rfl⟩
    show _ = some (Ex.ret, _, jJ (bR 46 t2.cellsR) (TB i) t2)
    refine jU ?_
    refine eC hcut ?_
    unfold xsR
    generalize t2.cellsR = tcs at *
    generalize jZ (1, s.at_) = lv at *
    generalize jZ (3, lV ad) = lv3 at *
    generalize 8 * u64 i.imm % 18446744073709551616 = u8i at *
    by_cases hx : ad % 8 ≠ 0
    ·rw [decide_eq_true hx] at d20
     have fx := aOO f0 <| aOO f1 <| aOO f2 <| aOO f33 <| aOO f34 <| aOO c2 <| aOO n0 <| aOO n1 <| aOO c3 <| aOO n2 <| aOO n3 <| aOO c4 <| aOO c5 <| aOO bl1 <| aOO br1 <| aOO c6 <| aOO c7 <| aOO c8 <| aOO c9 <| aOO of <| aOO bx0 <| aOO s7' <| aOO a70 <| aOO a71 <| aOO a72 <| aOO a74 <| aOO a75 <| aOO l70 <| aOO pc1 <| aOO l72 <| aOO l75 <| aOO rg <| aOO gn <| aOO d10 <| aOO d11 <| aOO d12 <| aOO d13 <| aOO x33 <| aOO x6 <| aOO x7 <| aOO bl3 <| aOO br3 <| aOO d15 <| aOO d16 <| aOO d17 <| aOO d18 <| aOO d19 <| aOO d20 <| aOO d21 <| aOO l1 <| l2
     refine gC ?_
     all_goals first | omega | (refine iA ?_; rfl)
    ·rw [decide_eq_false hx] at d20
     rw [decide_eq_true (by rcases hbad with h | h; exact absurd h hx; exact h)] at d21
     have fx := aOO f0 <| aOO f1 <| aOO f2 <| aOO f33 <| aOO f34 <| aOO c2 <| aOO n0 <| aOO n1 <| aOO c3 <| aOO n2 <| aOO n3 <| aOO c4 <| aOO c5 <| aOO bl1 <| aOO br1 <| aOO c6 <| aOO c7 <| aOO c8 <| aOO c9 <| aOO of <| aOO bx0 <| aOO s7' <| aOO a70 <| aOO a71 <| aOO a72 <| aOO a74 <| aOO a75 <| aOO l70 <| aOO pc1 <| aOO l72 <| aOO l75 <| aOO rg <| aOO gn <| aOO d10 <| aOO d11 <| aOO d12 <| aOO d13 <| aOO x33 <| aOO x6 <| aOO x7 <| aOO bl3 <| aOO br3 <| aOO d15 <| aOO d16 <| aOO d17 <| aOO d18 <| aOO d19 <| aOO d20 <| aOO d21 <| aOO l1 <| l2
     refine gC ?_
     all_goals first | omega | (refine iA ?_; rfl)
   rw [nm, if_neg hbad]
   have hb1 : ¬ (ad % 8 ≠ 0) := fun h => hbad (.inl h)
   have hb2 : ¬ (t.mem.length ≤ ad / 8) := fun h => hbad (.inr h)
   rw [decide_eq_false hb1] at d20
   rw [decide_eq_false hb2] at d21
   have d37 := aMf t2 (ad / 8)
   rw [if_pos (by rw [hm1]; omega)] at d37
   have rg2 := aFK G (bR 46 z) (TB i) t2 tr2
   rw [hr1] at rg2
   by_cases h18 : i.op = 18
   ·rw [if_pos h18]
    simp only [if_true]
    have d38 := aOf G (bR 46 z) (TB i) t2 (ad / 8) (by rw [hm1]; omega)
    have em : t2.mem.getD (ad / 8) 0 = t.mem.getD (ad / 8) 0 := by rw [hm1]
    rw [em] at d38
    have st : ∀ H, aE (aV.f G (k + 41)) [dK t.regs, I6 i.d, Un (t.mem.getD (ad / 8) 0)] H = some (dK (fE t.regs i.d (t.mem.getD (ad / 8) 0)), H) := fun H => aD (H := H) (gX G (k + 40) t.regs tr i.d hok.d.1 hok.d.2 _) (by simp [dQ, bG, gE]) (by simp [fM, jO])
    have d40 := aLa (bR 46 z) (TB i) t2 (fE t.regs i.d (t.mem.getD (ad / 8) 0)) (iG _ tr _ _) tr2
    refine ⟨TB i, ?_⟩
    have e6 : jJ (bR 46 z) (TB i) { t.next.leak 3 (lV ad) with regs := fE t.next.regs i.d (t.mem.getD (ad / 8) 0) } = jJ (bR 46 z) (TB i) { t2 with regs := fE t.regs i.d (t.mem.getD (ad / 8) 0) } := by
     rw [ht2]; rfl
    have e7 : (t.next.leak 3 (lV ad)).at_ = s.at_ + 1 := atn
    rw [e6, e7]
    clear ht2 e6 e7 ea qV sAll hm1 hr1 atn em
    refine jU ?_
    refine eC hcut ?_
    unfold xsR
    generalize jZ (1, s.at_) = lv at *
    generalize jZ (3, lV ad) = lv3 at *
    generalize 8 * u64 i.imm % 18446744073709551616 = u8i at *
    generalize t.mem.getD (ad / 8) 0 = mv at *
    generalize fE t.regs i.d mv = rq at *
    have fx := aOO f0 <| aOO f1 <| aOO f2 <| aOO f33 <| aOO f34 <| aOO c2 <| aOO n0 <| aOO n1 <| aOO c3 <| aOO n2 <| aOO n3 <| aOO c4 <| aOO c5 <| aOO bl1 <| aOO br1 <| aOO c6 <| aOO c7 <| aOO c8 <| aOO c9 <| aOO of <| aOO bx0 <| aOO s7' <| aOO a70 <| aOO a71 <| aOO a72 <| aOO a74 <| aOO a75 <| aOO l70 <| aOO pc1 <| aOO l71 <| aOO l72 <| aOO l75 <| aOO rg <| aOO rg2 <| aOO gn <| aOO d10 <| aOO d11 <| aOO d12 <| aOO d13 <| aOO x33 <| aOO x6 <| aOO x7 <| aOO bl3 <| aOO br3 <| aOO d15 <| aOO d16 <| aOO d17 <| aOO d18 <| aOO d19 <| aOO d20 <| aOO d21 <| aOO d37 <| aOO d38 <| aOO st <| d40
    refine gC ?_
    all_goals first | omega | (refine iA ?_; rfl)
   ·rw [if_neg h18]
    simp only [if_true]
    have d40 := aOh (bR 46 z) (TB i) t2 (ad / 8) (cC t.regs i.d) (by rw [hm1]; omega)
    refine ⟨TB i, ?_⟩
    have e6 : jJ (bR 46 z) (TB i) { t.next.leak 3 (lV ad) with mem := t.mem.set (ad / 8) (cC t.next.regs i.d) } = jJ (bR 46 z) (TB i) { t2 with mem := t2.mem.set (ad / 8) (cC t.regs i.d) } := by
     rw [ht2]; rfl
    have e7 : (t.next.leak 3 (lV ad)).at_ = s.at_ + 1 := atn
    rw [e6, e7]
    clear ht2 e6 e7 ea qV sAll hm1 hr1 atn
    refine jU ?_
    refine eC hcut ?_
    unfold xsR
    generalize jZ (1, s.at_) = lv at *
    generalize jZ (3, lV ad) = lv3 at *
    generalize 8 * u64 i.imm % 18446744073709551616 = u8i at *
    generalize cC t.regs i.d = rd at *
    have fx := aOO f0 <| aOO f1 <| aOO f2 <| aOO f33 <| aOO f34 <| aOO c2 <| aOO n0 <| aOO n1 <| aOO c3 <| aOO n2 <| aOO n3 <| aOO c4 <| aOO c5 <| aOO bl1 <| aOO br1 <| aOO c6 <| aOO c7 <| aOO c8 <| aOO c9 <| aOO of <| aOO bx0 <| aOO s7' <| aOO a70 <| aOO a71 <| aOO a72 <| aOO a74 <| aOO a75 <| aOO l70 <| aOO pc1 <| aOO l71 <| aOO l72 <| aOO l75 <| aOO rg <| aOO rg2 <| aOO gn <| aOO gd_ <| aOO d10 <| aOO d11 <| aOO d12 <| aOO d13 <| aOO x33 <| aOO x6 <| aOO x7 <| aOO bl3 <| aOO br3 <| aOO d15 <| aOO d16 <| aOO d17 <| aOO d18 <| aOO d19 <| aOO d20 <| aOO d21 <| aOO d37 <| d40
    refine gC ?_
    all_goals first | omega | (refine iA ?_; rfl)
  rw [if_neg t1]
  by_cases t2 : i.op = 20 ∨ i.op = 21 ∨ i.op = 22 ∨ i.op = 23
  ·rw [if_pos t2]
   simp only [if_true]
   unfold QS.branch
   have jp : aQ Tryd.prog .add 3 false (I6 s.at_) (I6 i.imm) = some (I6 (s.at_ + i.imm)) := aDw (by omega) (by omega)
   have eat : t.next.at_ + (i.imm - 1) = s.at_ + i.imm := by rw [atn]; omega
   by_cases h20 : i.op = 20
   ·rw [if_pos h20]
    refine ⟨TB i, ?_⟩
    simp only
    rw [eat]
    show _ = lp _ (jJ (bR 46 z) (TB i) t)
    clear qV sAll ht
    refine jU ?_
    refine eC hcut ?_
    unfold xsR
    generalize jZ (1, s.at_) = lv at *
    generalize s.at_ + i.imm = at2 at *
    have fx := aOO f0 <| aOO f1 <| aOO f2 <| aOO f33 <| aOO f34 <| aOO c2 <| aOO n0 <| aOO n1 <| aOO c3 <| aOO n2 <| aOO n3 <| aOO c4 <| aOO c5 <| aOO bl1 <| aOO br1 <| aOO c6 <| aOO c7 <| aOO c8 <| aOO c9 <| aOO of <| aOO bx0 <| aOO s7' <| aOO a70 <| aOO a71 <| aOO a72 <| aOO a74 <| aOO a75 <| aOO l70 <| aOO pc1 <| aOO l75 <| jp
    refine gC ?_
    all_goals first | omega | (refine iA ?_; rfl)
   rw [if_neg h20]
   have fl := aKY G (bR 46 z) (TB i) t
   have rg := aFK G (bR 46 z) (TB i) t tr
   have hh : ∀ H, aE (bE.f G (k + 41)) [I6 i.a, t.flags.a] H = _ := fun H => aD (H := H) (qX G (k + 40) i.a t.flags) (by simp [dQ, bG, FL.a]) rfl
   have e1 : aQ Tryd.prog .eql 43 true (Un (cC t.regs i.d)) (.int .u64 0) = some (.bool (decide (cC t.regs i.d = 0))) := by rw [jW]; congr 2; simp only [decide_eq_decide]; omega
   have e22 : aQ Tryd.prog .eql 3 true (I6 i.op) (.int .i64 22) = some (.bool (decide (i.op = 22))) := jW ..
   have eb : aQ Tryd.prog .eql 4 false (.bool (decide (cC t.regs i.d = 0))) (.bool (decide (i.op = 22))) = some (.bool (decide (cC t.regs i.d = 0) == decide (i.op = 22))) := sU Tryd.underlying4 ..
   have n21 : aQ Tryd.prog .neq 3 true (I6 i.op) (.int .i64 21) = some (.bool (decide (i.op ≠ 21))) := sV ..
   have gg : t.next.goes i = if i.op = 21 then iY i.a t.flags else (decide (cC t.regs i.d = 0) == decide (i.op = 22)) := by
    unfold QS.goes
    have q1 : t.next.flags = t.flags := rfl
    have q2 : t.next.regs = t.regs := rfl
    rw [q1, q2]
    by_cases h21 : i.op = 21
    ·rw [if_pos h21, if_pos h21]
    rw [if_neg h21, if_neg h21]
    by_cases h22 : i.op = 22
    ·rw [if_pos h22, decide_eq_true h22]; simp
    ·rw [if_neg h22, decide_eq_false h22]; by_cases h : cC t.regs i.d = 0 <;> simp [h]
   have x33 := aIe G (bR 46 z) (TB i) t tr
   have one : ∀ b H, aE (bM.f G (k + 41)) [.bool b] H = some (I6 (if b = true then 1 else 0), H) := fun b H => aD (H := H) (aGz G (k + 40) b) rfl rfl
   cases hg : t.next.goes i
   ·have x6 := aJD (bR 46 z) (TB i) t (2, 0) (by omega)
    have x7 := aJP (bR 46 z) (TB i) t (2, 0) tr
    have bl3 : aZ [(0, 1), (1, 1)] [(.int .i64 0), (.int .i64 0)] [(0, (.int .i64 2)), (1, .int .i64 0)] = some (jZ (2, 0)) := rfl
    have br3 := br 2 0
    have ob : ∀ H, aE (bM.f G (k + 41)) [.bool false] H = some (.int .i64 0, H) := fun H => one false H
    simp only at x7
    simp only [Bool.false_eq_true, if_false]
    rw [hg] at gg
    refine ⟨TB i, ?_⟩
    have ez : (t.next.leak 2 0).at_ = s.at_ + 1 := atn
    rw [ez]
    show _ = lp _ (jJ (bR 46 z) (TB i) (t.leak 2 0))
    clear qV sAll ht one br bl hg
    refine jU ?_
    refine eC hcut ?_
    unfold xsR
    generalize jZ (1, s.at_) = lv at *
    generalize t.leak 2 0 = tl at *
    generalize jZ (2, 0) = lv2 at *
    skip
    generalize iY i.a t.flags = hhh at *
    generalize decide (cC t.regs i.d = 0) = gz1 at *
    generalize cC t.regs i.d = rd at *
    by_cases h21 : i.op = 21
    ·rw [if_pos h21] at gg
     rw [← gg] at hh
     rw [decide_eq_false (fun h => h h21)] at n21
     have fx := aOO f0 <| aOO f1 <| aOO f2 <| aOO f33 <| aOO f34 <| aOO c2 <| aOO n0 <| aOO n1 <| aOO c3 <| aOO n2 <| aOO n3 <| aOO c4 <| aOO c5 <| aOO bl1 <| aOO br1 <| aOO c6 <| aOO c7 <| aOO c8 <| aOO c9 <| aOO of <| aOO bx0 <| aOO s7' <| aOO a70 <| aOO a71 <| aOO a72 <| aOO a74 <| aOO a75 <| aOO l70 <| aOO pc1 <| aOO l71 <| aOO l74 <| aOO l75 <| aOO fl <| aOO rg <| aOO hh <| aOO gd_ <| aOO e1 <| aOO e22 <| aOO eb <| aOO n21 <| aOO x33 <| aOO ob <| aOO x6 <| aOO x7 <| aOO bl3 <| aOO br3 <| jp
     refine gC ?_
     all_goals first | omega | (refine iA ?_; rfl)
    ·rw [if_neg h21] at gg
     rw [← gg] at eb
     rw [decide_eq_true h21] at n21
     by_cases h22 : i.op = 22
     ·rw [decide_eq_true h22] at e22 eb
      have fx := aOO f0 <| aOO f1 <| aOO f2 <| aOO f33 <| aOO f34 <| aOO c2 <| aOO n0 <| aOO n1 <| aOO c3 <| aOO n2 <| aOO n3 <| aOO c4 <| aOO c5 <| aOO bl1 <| aOO br1 <| aOO c6 <| aOO c7 <| aOO c8 <| aOO c9 <| aOO of <| aOO bx0 <| aOO s7' <| aOO a70 <| aOO a71 <| aOO a72 <| aOO a74 <| aOO a75 <| aOO l70 <| aOO pc1 <| aOO l71 <| aOO l74 <| aOO l75 <| aOO fl <| aOO rg <| aOO hh <| aOO gd_ <| aOO e1 <| aOO e22 <| aOO eb <| aOO n21 <| aOO x33 <| aOO ob <| aOO x6 <| aOO x7 <| aOO bl3 <| aOO br3 <| jp
      refine gC ?_
      all_goals first | omega | (refine iA ?_; rfl)
     ·rw [decide_eq_false h22] at e22 eb
      have fx := aOO f0 <| aOO f1 <| aOO f2 <| aOO f33 <| aOO f34 <| aOO c2 <| aOO n0 <| aOO n1 <| aOO c3 <| aOO n2 <| aOO n3 <| aOO c4 <| aOO c5 <| aOO bl1 <| aOO br1 <| aOO c6 <| aOO c7 <| aOO c8 <| aOO c9 <| aOO of <| aOO bx0 <| aOO s7' <| aOO a70 <| aOO a71 <| aOO a72 <| aOO a74 <| aOO a75 <| aOO l70 <| aOO pc1 <| aOO l71 <| aOO l74 <| aOO l75 <| aOO fl <| aOO rg <| aOO hh <| aOO gd_ <| aOO e1 <| aOO e22 <| aOO eb <| aOO n21 <| aOO x33 <| aOO ob <| aOO x6 <| aOO x7 <| aOO bl3 <| aOO br3 <| jp
      refine gC ?_
      all_goals first | omega | (refine iA ?_; rfl)
   ·have x6 := aJD (bR 46 z) (TB i) t (2, 1) (by omega)
    have x7 := aJP (bR 46 z) (TB i) t (2, 1) tr
    have bl3 : aZ [(0, 1), (1, 1)] [(.int .i64 0), (.int .i64 0)] [(0, (.int .i64 2)), (1, .int .i64 1)] = some (jZ (2, 1)) := rfl
    have br3 := br 2 1
    have ob : ∀ H, aE (bM.f G (k + 41)) [.bool true] H = some (.int .i64 1, H) := fun H => one true H
    simp only at x7
    simp only [if_true]
    rw [hg] at gg
    refine ⟨TB i, ?_⟩
    rw [eat]
    show _ = lp _ (jJ (bR 46 z) (TB i) (t.leak 2 1))
    skip
    clear qV sAll ht one br bl hg
    refine jU ?_
    refine eC hcut ?_
    unfold xsR
    generalize jZ (1, s.at_) = lv at *
    generalize t.leak 2 1 = tl at *
    generalize jZ (2, 1) = lv2 at *
    generalize s.at_ + i.imm = at2 at *
    generalize iY i.a t.flags = hhh at *
    generalize decide (cC t.regs i.d = 0) = gz1 at *
    generalize cC t.regs i.d = rd at *
    by_cases h21 : i.op = 21
    ·rw [if_pos h21] at gg
     rw [← gg] at hh
     rw [decide_eq_false (fun h => h h21)] at n21
     have fx := aOO f0 <| aOO f1 <| aOO f2 <| aOO f33 <| aOO f34 <| aOO c2 <| aOO n0 <| aOO n1 <| aOO c3 <| aOO n2 <| aOO n3 <| aOO c4 <| aOO c5 <| aOO bl1 <| aOO br1 <| aOO c6 <| aOO c7 <| aOO c8 <| aOO c9 <| aOO of <| aOO bx0 <| aOO s7' <| aOO a70 <| aOO a71 <| aOO a72 <| aOO a74 <| aOO a75 <| aOO l70 <| aOO pc1 <| aOO l71 <| aOO l74 <| aOO l75 <| aOO fl <| aOO rg <| aOO hh <| aOO gd_ <| aOO e1 <| aOO e22 <| aOO eb <| aOO n21 <| aOO x33 <| aOO ob <| aOO x6 <| aOO x7 <| aOO bl3 <| aOO br3 <| jp
     refine gC ?_
     all_goals first | omega | (refine iA ?_; rfl)
    ·rw [if_neg h21] at gg
     rw [← gg] at eb
     rw [decide_eq_true h21] at n21
     by_cases h22 : i.op = 22
     ·rw [decide_eq_true h22] at e22 eb
      have fx := aOO f0 <| aOO f1 <| aOO f2 <| aOO f33 <| aOO f34 <| aOO c2 <| aOO n0 <| aOO n1 <| aOO c3 <| aOO n2 <| aOO n3 <| aOO c4 <| aOO c5 <| aOO bl1 <| aOO br1 <| aOO c6 <| aOO c7 <| aOO c8 <| aOO c9 <| aOO of <| aOO bx0 <| aOO s7' <| aOO a70 <| aOO a71 <| aOO a72 <| aOO a74 <| aOO a75 <| aOO l70 <| aOO pc1 <| aOO l71 <| aOO l74 <| aOO l75 <| aOO fl <| aOO rg <| aOO hh <| aOO gd_ <| aOO e1 <| aOO e22 <| aOO eb <| aOO n21 <| aOO x33 <| aOO ob <| aOO x6 <| aOO x7 <| aOO bl3 <| aOO br3 <| jp
      refine gC ?_
      all_goals first | omega | (refine iA ?_; rfl)
     ·rw [decide_eq_false h22] at e22 eb
      have fx := aOO f0 <| aOO f1 <| aOO f2 <| aOO f33 <| aOO f34 <| aOO c2 <| aOO n0 <| aOO n1 <| aOO c3 <| aOO n2 <| aOO n3 <| aOO c4 <| aOO c5 <| aOO bl1 <| aOO br1 <| aOO c6 <| aOO c7 <| aOO c8 <| aOO c9 <| aOO of <| aOO bx0 <| aOO s7' <| aOO a70 <| aOO a71 <| aOO a72 <| aOO a74 <| aOO a75 <| aOO l70 <| aOO pc1 <| aOO l71 <| aOO l74 <| aOO l75 <| aOO fl <| aOO rg <| aOO hh <| aOO gd_ <| aOO e1 <| aOO e22 <| aOO eb <| aOO n21 <| aOO x33 <| aOO ob <| aOO x6 <| aOO x7 <| aOO bl3 <| aOO br3 <| jp
      refine gC ?_
      all_goals first | omega | (refine iA ?_; rfl)
  rw [if_neg t2]
  by_cases t3 : i.op = 24
  ·rw [if_pos t3]
   simp only [Bool.false_eq_true, if_false]
   by_cases t4 : i.imm ≤ 2
   ·rw [if_pos t4]
    have q4 : aQ Tryd.prog .leq 3 true (I6 i.imm) (.int .i64 2) = some (.bool true) := uA t4
    have x0 := aNx (bR 46 z) (TB i) t i.imm tr
    have l1 := qV (TB i) { t with code := i.imm } tr
    have l2 := sAll (TB i) { t with code := i.imm } tr
    refine ⟨TB i, [.ro bor (iI cs), I6 fuel, .ptr 0 1 0 0, RX, .ptr 4 1 0 0, I6 s.at_], ?_, rfl⟩
    show _ = some (Ex.ret, _, jJ (bR 46 (QS.cellsR { t with code := i.imm })) (TB i) { t with code := i.imm })
    clear qV sAll ht br bl
    refine jU ?_
    refine eC hcut ?_
    unfold xsR
    generalize jZ (1, s.at_) = lv at *
    generalize (QS.cellsR { t with code := i.imm }) = tcs at *
    have fx := aOO f0 <| aOO f1 <| aOO f2 <| aOO f33 <| aOO f34 <| aOO c2 <| aOO n0 <| aOO n1 <| aOO c3 <| aOO n2 <| aOO n3 <| aOO c4 <| aOO c5 <| aOO bl1 <| aOO br1 <| aOO c6 <| aOO c7 <| aOO c8 <| aOO c9 <| aOO of <| aOO bx0 <| aOO s7' <| aOO a70 <| aOO a71 <| aOO a72 <| aOO a74 <| aOO a75 <| aOO l70 <| aOO pc1 <| aOO l75 <| aOO q4 <| aOO x0 <| aOO l1 <| l2
    refine gC ?_
    all_goals first | omega | (refine iA ?_; rfl)
   ·rw [if_neg t4]
    have q4 : aQ Tryd.prog .leq 3 true (I6 i.imm) (.int .i64 2) = some (.bool false) := xT (by omega)
    have l1 := qV (TB i) t tr
    have l2 := sAll (TB i) t tr
    have e5 : ({ t.next with code := 3 } : QS) = { t with at_ := s.at_ + 1 } := by rw [← tc, ← tat]; rfl
    rw [e5]
    refine ⟨TB i, [.ro bor (iI cs), I6 fuel, .ptr 0 1 0 0, RX, .ptr 4 1 0 0, I6 s.at_], ?_, rfl⟩
    show _ = some (Ex.ret, _, jJ (bR 46 t.cellsR) (TB i) t)
    clear qV sAll ht br bl e5
    refine jU ?_
    refine eC hcut ?_
    unfold xsR
    generalize jZ (1, s.at_) = lv at *
    generalize t.cellsR = tcs at *
    have fx := aOO f0 <| aOO f1 <| aOO f2 <| aOO f33 <| aOO f34 <| aOO c2 <| aOO n0 <| aOO n1 <| aOO c3 <| aOO n2 <| aOO n3 <| aOO c4 <| aOO c5 <| aOO bl1 <| aOO br1 <| aOO c6 <| aOO c7 <| aOO c8 <| aOO c9 <| aOO of <| aOO bx0 <| aOO s7' <| aOO a70 <| aOO a71 <| aOO a72 <| aOO a74 <| aOO a75 <| aOO l70 <| aOO pc1 <| aOO l75 <| aOO q4 <| aOO l1 <| l2
    refine gC ?_
    all_goals first | omega | (refine iA ?_; rfl)
  rw [if_neg t3]
  simp only [if_true]
  have h17 : i.op ≤ 17 := by omega
  have rg := aFK G (bR 46 z) (TB i) t tr
  have fl := aKY G (bR 46 z) (TB i) t
  have pl : dQ [i.v, dK t.regs, t.flags.a] = true := by simp [dQ, bG, gE, MI.v, FL.a]
  have cl : fM (oQ (aHy i t.regs t.flags)) = true := by simp [fM, iW, jO, FL.a]
  have on : ∀ H, aE (aL.f G (k + 41)) [i.v, dK t.regs, t.flags.a] H = _ := fun H => aD (H := H) (aGv G (k + 34) i t.regs okt.rg t.flags) pl cl
  have eo : aHy i t.regs t.flags = ((cP i t.regs t.flags).1, (cP i t.regs t.flags).2, true) := by
   unfold aHy; rw [if_pos ⟨hri, h17⟩]
  have hq := (aCK i okt.rg t.flags).len
  have nr : t.next.regs = t.regs := rfl
  have nf : t.next.flags = t.flags := rfl
  rw [nr, nf]
  rw [eo] at on
  unfold oQ at on
  simp only at on
  generalize cP i t.regs t.flags = dd at *
  obtain ⟨q, f⟩ := dd
  simp only at hq on ⊢
  have b44 : eY 44 (dK Z) (jJ (bR 46 z) (TB i) t) = some (.ptr 8 1 0 0, jJ (bR 46 z) [⟨57, 6, [i.v]⟩, ⟨44, 31, [dK Z]⟩] t) := kY Z hZ _
  have b53 : eY 53 (.agg [.bool false, .bool false, .bool false, .bool false]) (jJ (bR 46 z) [⟨57, 6, [i.v]⟩, ⟨44, 31, [dK Z]⟩] t) = some (.ptr 9 1 0 0, jJ (bR 46 z) [⟨57, 6, [i.v]⟩, ⟨44, 31, [dK Z]⟩, ⟨53, 4, [iV.a]⟩] t) := rfl
  have s44 : eH (aO 31 (.ptr 8 1 0 0) (dK q) (jJ (bR 46 z) [⟨57, 6, [i.v]⟩, ⟨44, 31, [dK Z]⟩, ⟨53, 4, [iV.a]⟩] t)) = some (.tup [], jJ (bR 46 z) [⟨57, 6, [i.v]⟩, ⟨44, 31, [dK q]⟩, ⟨53, 4, [iV.a]⟩] t) := lD hq hZ rfl
  have s53 : eH (aO 4 (.ptr 9 1 0 0) f.a (jJ (bR 46 z) [⟨57, 6, [i.v]⟩, ⟨44, 31, [dK q]⟩, ⟨53, 4, [iV.a]⟩] t)) = some (.tup [], jJ (bR 46 z) [⟨57, 6, [i.v]⟩, ⟨44, 31, [dK q]⟩, ⟨53, 4, [f.a]⟩] t) := rfl
  have l44 : aC G true 31 (.ptr 8 1 0 0) (jJ (bR 46 z) [⟨57, 6, [i.v]⟩, ⟨44, 31, [dK q]⟩, ⟨53, 4, [f.a]⟩] t) = some (dK q) := aGp G hq rfl
  have w44 := aLa (bR 46 z) [⟨57, 6, [i.v]⟩, ⟨44, 31, [dK q]⟩, ⟨53, 4, [f.a]⟩] t q hq tr
  have l53 : aC G true 4 (.ptr 9 1 0 0) (jJ (bR 46 z) [⟨57, 6, [i.v]⟩, ⟨44, 31, [dK q]⟩, ⟨53, 4, [f.a]⟩] { t with regs := q }) = some f.a := rfl
  have w53 := aNz (bR 46 z) [⟨57, 6, [i.v]⟩, ⟨44, 31, [dK q]⟩, ⟨53, 4, [f.a]⟩] { t with regs := q } f
  refine ⟨[⟨57, 6, [i.v]⟩, ⟨44, 31, [dK q]⟩, ⟨53, 4, [f.a]⟩], ?_⟩
  show _ = lp (xsR fuel bor cs t.next.at_) (jJ (bR 46 z) [⟨57, 6, [i.v]⟩, ⟨44, 31, [dK q]⟩, ⟨53, 4, [f.a]⟩] { t with regs := q, flags := f })
  rw [atn]
  clear qV sAll ht br bl nr nf eo
  refine jU ?_
  refine eC hcut ?_
  unfold xsR
  generalize jZ (1, s.at_) = lv at *
  have fx := aOO f0 <| aOO f1 <| aOO f2 <| aOO f33 <| aOO f34 <| aOO c2 <| aOO n0 <| aOO n1 <| aOO c3 <| aOO n2 <| aOO n3 <| aOO c4 <| aOO c5 <| aOO bl1 <| aOO br1 <| aOO c6 <| aOO c7 <| aOO c8 <| aOO c9 <| aOO of <| aOO bx0 <| aOO s7' <| aOO a70 <| aOO a71 <| aOO a72 <| aOO a74 <| aOO a75 <| aOO l70 <| aOO pc1 <| aOO l7v <| aOO rg <| aOO fl <| aOO on <| aOO b44 <| aOO b53 <| aOO s44 <| aOO s53 <| aOO l44 <| aOO w44 <| aOO l53 <| w53
  refine gC ?_
  all_goals first | omega | (refine iA ?_; rfl)
end
end Go.Proofs.YtdfglgnflldkpaaDoor.Mir
