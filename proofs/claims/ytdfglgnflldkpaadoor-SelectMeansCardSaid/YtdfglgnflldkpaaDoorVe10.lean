/- Part 10 of the proof: what these functions do. -/
import Derived.Test.YtdfglgnflldkpaaDoorVe9
namespace Go.Proofs.YtdfglgnflldkpaaDoor.Mir
open Go
set_option linter.unusedSimpArgs false
set_option linter.unusedVariables false
set_option maxHeartbeats 8000000
set_option maxRecDepth 20000
theorem iS (G : aG) (k : Nat) (r : List Nat) (hr : r.length = 31) (j : Int) (h0 : 0 ≤ j) (h1 : j ≤ 31) : aU.f G (k + 1) [eQ r, I6 j] [] = some (Un (cO r j), []) := by
 rw [aU.step]
 unfold aU.c cO
 have b1 : ∀ H, dV (eQ r) H = some (.rp false (eQ r) 0, H) := fun H => rfl
 refine eZ ?_
 by_cases h : j = 31
 ·rw [if_pos h]
  have fx := b1
  refine gM ?_
  exact tA rfl
 ·rw [if_neg h]
  have i1 : jS 31 1 (.rp false (eQ r) 0) (I6 j) = some (.rp false (eQ r) j.toNat) := by
   unfold jS
   simp only
   rw [if_pos ⟨h0, by omega⟩, Nat.zero_add, Nat.mul_one]
  have l1 : ∀ H, aC G false 1 (.rp false (eQ r) j.toNat) H = some (Un (r.getD j.toNat 0)) := fun H => by
   rw [aEU, lQ _ _ (by omega)]
  have fx := aPQ b1 <| aPQ i1 <| l1
  refine gM ?_
  exact tA rfl
theorem kZ : (AV.agg [(.int .u64 0), (.int .u64 0), (.int .u64 0), (.int .u64 0), (.int .u64 0), (.int .u64 0), (.int .u64 0), (.int .u64 0), (.int .u64 0), (.int .u64 0), (.int .u64 0), (.int .u64 0), (.int .u64 0), (.int .u64 0), (.int .u64 0), (.int .u64 0), (.int .u64 0), (.int .u64 0), (.int .u64 0), (.int .u64 0), (.int .u64 0), (.int .u64 0), (.int .u64 0), (.int .u64 0), (.int .u64 0), (.int .u64 0), (.int .u64 0), (.int .u64 0), (.int .u64 0), (.int .u64 0), (.int .u64 0)]) = eQ (List.replicate 31 0) := rfl
theorem kG : [(AV.int .u64 0), (.int .u64 0), (.int .u64 0), (.int .u64 0), (.int .u64 0), (.int .u64 0), (.int .u64 0), (.int .u64 0), (.int .u64 0), (.int .u64 0), (.int .u64 0), (.int .u64 0), (.int .u64 0), (.int .u64 0), (.int .u64 0), (.int .u64 0), (.int .u64 0), (.int .u64 0), (.int .u64 0), (.int .u64 0), (.int .u64 0), (.int .u64 0), (.int .u64 0), (.int .u64 0), (.int .u64 0), (.int .u64 0), (.int .u64 0), (.int .u64 0), (.int .u64 0), (.int .u64 0), (.int .u64 0)] = bT (List.replicate 31 0) := rfl
theorem mE (r : List Nat) (hr : r.length = 31) (H : aF) : fI 44 (eQ r) H = some (.ptr H.length 1 0 0, H ++ [⟨44, 31, [eQ r]⟩]) := by
 simp [fI, fQ, AV.cells, bN, hr]
theorem aOs {j i : Nat} {H : aF} {r : List Nat} (hr : r.length = 31) (hi : i < 31) (x : Nat) (e : H[j]? = some ⟨44, 31, [eQ r]⟩) : fB (aL 1 (.ptr j 1 0 i) (Un x) H) = some (.tup [], H.set j ⟨44, 31, [eQ (r.set i x)]⟩) := by
 have e2 : jY (bT r) i [Un x] = bT (r.set i x) := by
  rw [sQ, List.set_eq_take_append_cons_drop, if_pos (by rw [bN]; omega)]
  rfl
 unfold aL
 simp only [e, AV.cells, bN, hr, List.length_singleton, fQ, List.getElem?_cons_zero]
 rw [if_pos (by simp), if_pos (by omega), e2]
 rfl
theorem mG {j : Nat} {H : aF} {q r : List Nat} (hq : q.length = 31) (hr : r.length = 31) (e : H[j]? = some ⟨44, 31, [eQ r]⟩) : fB (aL 31 (.ptr j 1 0 0) (eQ q) H) = some (.tup [], H.set j ⟨44, 31, [eQ q]⟩) := by
 have e2 : jY (bT r) 0 (bT q) = bT q := by
  unfold jY
  rw [List.take_zero, List.nil_append, List.drop_of_length_le (by rw [bN, bN]; omega), List.append_nil]
 unfold aL
 simp only [e, AV.cells, bN, hq, List.length_singleton, fQ, List.getElem?_cons_zero]
 rw [if_pos (by simp), if_pos (by omega), e2]
 rfl
theorem iT (G : aG) (k : Nat) (r : List Nat) (hr : r.length = 31) (j : Int) (h0 : 0 ≤ j) (h1 : j ≤ 31) (x : Nat) : aV.f G (k + 1) [eQ r, I6 j, Un x] [] = some (eQ (gC r j x), []) := by
 rw [aV.step]
 unfold aV.c gC
 rw [kZ]
 have hZ : (List.replicate 31 0 : List Nat).length = 31 := rfl
 obtain ⟨Z, hz⟩ : ∃ Z : List Nat, Z = List.replicate 31 0 := ⟨_, rfl⟩
 rw [← hz] at hZ ⊢
 clear hz
 have b1 : fI 44 (eQ r) [] = some (.ptr 0 1 0 0, [⟨44, 31, [eQ r]⟩]) := mE r hr []
 have b2 : fI 44 (eQ Z) [⟨44, 31, [eQ r]⟩] = some (.ptr 1 1 0 0, [⟨44, 31, [eQ r]⟩, ⟨44, 31, [eQ Z]⟩]) := mE Z hZ _
 refine eZ ?_
 by_cases h : j = 31
 ·rw [if_pos h]
  have l1 : aC G true 31 (.ptr 0 1 0 0) [⟨44, 31, [eQ r]⟩, ⟨44, 31, [eQ Z]⟩] = some (eQ r) := aHu G hr rfl
  have s1 : fB (aL 31 (.ptr 1 1 0 0) (eQ r) [⟨44, 31, [eQ r]⟩, ⟨44, 31, [eQ Z]⟩]) = some (.tup [], [⟨44, 31, [eQ r]⟩, ⟨44, 31, [eQ r]⟩]) := mG hr hZ rfl
  have fx := aPQ b1 <| aPQ b2 <| aPQ l1 <| s1
  refine gM ?_
  exact oF (aAA (by simp [cG, gY]) (aHu G hr rfl))
 ·rw [if_neg h]
  have i1 : jS 31 1 (.ptr 0 1 0 0) (I6 j) = some (.ptr 0 1 0 j.toNat) := by
   unfold jS
   simp only
   rw [if_pos ⟨h0, by omega⟩, Nat.zero_add, Nat.mul_one]
  have hr' : (r.set j.toNat x).length = 31 := by rw [List.length_set]; exact hr
  have s0 : fB (aL 1 (.ptr 0 1 0 j.toNat) (Un x) [⟨44, 31, [eQ r]⟩, ⟨44, 31, [eQ Z]⟩]) = some (.tup [], [⟨44, 31, [eQ (r.set j.toNat x)]⟩, ⟨44, 31, [eQ Z]⟩]) := aOs hr (by omega) x rfl
  generalize r.set j.toNat x = q at *
  have l1 : aC G true 31 (.ptr 0 1 0 0) [⟨44, 31, [eQ q]⟩, ⟨44, 31, [eQ Z]⟩] = some (eQ q) := aHu G hr' rfl
  have s1 : fB (aL 31 (.ptr 1 1 0 0) (eQ q) [⟨44, 31, [eQ q]⟩, ⟨44, 31, [eQ Z]⟩]) = some (.tup [], [⟨44, 31, [eQ q]⟩, ⟨44, 31, [eQ q]⟩]) := mG hr' hZ rfl
  have fx := aPQ b1 <| aPQ b2 <| aPQ i1 <| aPQ s0 <| aPQ l1 <| s1
  refine gM ?_
  exact oF (aAA (by simp [cG, gY]) (aHu G hr' rfl))
theorem rG (G : aG) (k : Nat) (c : Int) (f : FL) : bL.f G (k + 1) [I6 c, f.a] [] = some (.bool (jR c f), []) := by
 obtain ⟨n, z, cc, v⟩ := f
 rw [bL.step]
 unfold bL.c jR FL.a
 have i1 : jS 4 1 (.rp false (.agg [.bool n, .bool z, .bool cc, .bool v]) 0) (.int .i64 1) = some (.rp false (.agg [.bool n, .bool z, .bool cc, .bool v]) 1) := rfl
 have i2 : jS 4 1 (.rp false (.agg [.bool n, .bool z, .bool cc, .bool v]) 0) (.int .i64 2) = some (.rp false (.agg [.bool n, .bool z, .bool cc, .bool v]) 2) := rfl
 refine eZ ?_
 simp only
 cases z <;> cases cc
 all_goals (
  repeat' first
   | (with_reducible first | refine eT ?_ | refine eN ?_ | refine eS ?_ | refine eXn ?_ | refine eXr ?_ | refine eX ?_ | refine eI ?_ | refine eK ?_ | refine eV0 ?_ | refine sW ?_ | refine sX ?_ | refine sV ?_ | refine tD ?_ | refine tB ?_ | refine sY ?_)
   | ((with_reducible apply eCn); (simp only [eG, eF]; first | done | (with_reducible exact rfl)))
   | ((with_reducible apply eJ); (rfl))
   | ((with_reducible apply sZ); (first | rfl | (simp only [eG, eF]; rfl)))
   | ((with_reducible apply eB); (first | (with_reducible exact rfl) | (simp (disch := omega) only [qf, i1, i2]; first | done | (with_reducible exact rfl) | (with_reducible exact ⟨rfl, rfl⟩)) | (simp (disch := omega) only [qa, jY, AV.cells, fQ, aY, lO, fR, fX, kX, Nat.reduceLeDiff, Nat.reduceLT, Nat.reduceAdd, ↓reduceIte, i1, i2]; first | done | (with_reducible exact rfl) | (with_reducible exact ⟨rfl, rfl⟩))))
   | ((with_reducible apply eR); (simp only [eG, eF]; (with_reducible exact rfl)))
   | ((with_reducible first | refine tY ?_ ?_ | refine tU ?_ ?_ | refine tQ ?_ ?_ | refine tW ?_ ?_ | refine uE ?_ ?_ | refine tP ?_ ?_ | refine tX ?_ ?_ | refine pB ?_ ?_ | refine sGd ?_ ?_ | refine oZ ?_ ?_) <;> intro hq <;> try subst hq)
  all_goals (refine uH ?_; simp (disch := omega) only [if_pos, if_neg, if_true, Bool.false_eq_true, if_false, ↓reduceIte]; try rfl))
theorem iZ (P : Program) (t : Nat) (c : Bool) {x : Int} (h0 : 0 ≤ x) (h1 : x < 9223372036854775808) : aQ P .and t c (I6 x) (.int .i64 63) = some (I6 (x % 64)) := by
 obtain ⟨X, rfl⟩ : ∃ X : Nat, x = X := ⟨x.toNat, by omega⟩
 rw [pJ]
 show some (AV.int .i64 (IntKind.i64.wrap ((BitVec.ofInt 64 (X : Int) &&& BitVec.ofInt 64 (63 : Int)).toNat : Int))) = _
 have e1 : (BitVec.ofInt 64 (X : Int)).toNat = X := mL X (by omega)
 have e2 : (BitVec.ofInt 64 (63 : Int)).toNat = 2 ^ 6 - 1 := by decide
 rw [BitVec.toNat_and, e1, e2, Nat.and_two_pow_sub_one_eq_mod, fW (by omega) (by omega)]
 rfl
def kA (r : List Nat) (f : FL) : aF := [⟨44, 31, [eQ r]⟩, ⟨53, 4, [f.a]⟩]
theorem iU (G : aG) (r : List Nat) (hr : r.length = 31) (f : FL) (b : Bool) : fK [aC G true 31 (.ptr 0 1 0 0) (kA r f), aC G true 4 (.ptr 1 1 0 0) (kA r f), some (.bool b)] 0 (kA r f) = some (.ret, [pT (r, f, b)], []) := by
 have e1 := aHu G (j := 0) (H := kA r f) hr rfl
 have e2 : aC G true 4 (.ptr 1 1 0 0) (kA r f) = some f.a := rfl
 unfold fK
 rw [e1, e2]
 exact aFA (by simp [cG, gY]) rfl rfl _
theorem jC (r : List Nat) (hr : r.length = 31) (j : Int) (x : Nat) : (gC r j x).length = 31 := by
 unfold gC; split
 ·exact hr
 ·rw [List.length_set]; exact hr
theorem aNK (G : aG) (k : Nat) (d n m a imm : Int) (hw : aT ⟨1, d, n, m, a, imm⟩ = true) (r : List Nat) (hr : RgOk r) (f : FL) :
  aM.f G (k + 7) [mV 1 d n m a imm, eQ r, f.a] [] = some (pT ((dD ⟨1, d, n, m, a, imm⟩ r f).1, (dD ⟨1, d, n, m, a, imm⟩ r f).2, true), []) := by
 have r1 : ∀ H, aD (aI.f G (k + 6)) [mV 1 d n m a imm] H = _ := fun H => aE (H := H) (hU G k ⟨1, d, n, m, a, imm⟩) rfl rfl
 rw [hw] at r1
 obtain ⟨_, hd, hn, hm, ha, hf⟩ := jG hw
 have himm : 0 ≤ imm ∧ imm < 65536 := by
  unfold aT at hw
  rw [Bool.and_eq_true] at hw
  obtain ⟨_, h⟩ := hw
  simp [aO, fD, gI, dU, gS, fC, dS] at h
  omega
 simp only at hd hn hm ha hf
 clear hw
 have ld := hr.get d
 have ln := hr.get n
 have lm := hr.get m
 have la := hr.get a
 have g : ∀ j, 0 ≤ j → j ≤ 31 → ∀ H, aD (aU.f G (k + 6)) [eQ r, I6 j] H = some (Un (cO r j), H) := fun j h0 h1 H => aE (H := H) (iS G (k + 5) r hr.len j h0 h1) (by simp [eO, bC, gX]) rfl
 have g1 := g d hd.1 hd.2
 have g2 := g n hn.1 hn.2
 have g3 := g m hm.1 hm.2
 have g4 := g a ha.1 ha.2
 clear g
 have st : ∀ x H, aD (aV.f G (k + 6)) [eQ r, I6 d, Un x] H = some (eQ (gC r d x), H) := fun x H => aE (H := H) (iT G (k + 5) r hr.len d hd.1 hd.2 x) (by simp [eO, bC, gX]) (by simp [fZ, kR])
 obtain ⟨ki, hki⟩ : ∃ z, z = u64 imm := ⟨_, rfl⟩
 have hkl : ki < 18446744073709551616 := by rw [hki]; exact jD _
 have hkv : (ki : Int) = imm := by rw [hki]; unfold u64; omega
 have k1 : aJ .u64 (I6 imm) = some (Un ki) := by rw [iG, hki]
 have k2 : aQ Tryd.prog .and 3 true (I6 imm) (.int .i64 63) = some (I6 (imm % 64)) := iZ _ _ _ (by omega) (by omega)
 obtain ⟨kj, hkj⟩ : ∃ z : Nat, (z : Int) = imm % 64 := ⟨(imm % 64).toNat, by omega⟩
 rw [← hkj] at k2
 have k3 : aJ .u64 (Nn kj) = some (Un kj) := by rw [fE, fF (by omega) (by omega)]
 have ed : dD ⟨1, d, n, m, a, imm⟩ r f = (gC r d (u64 imm * 2 ^ (16 * a).toNat % 18446744073709551616), f) := by
  unfold dD jN
  simp only [Int.reduceEq, or_false, false_or, or_self, or_true, true_or, if_false, if_true, ↓reduceIte]
 rw [ed]
 clear ed
 simp only
 try rw [← hki]
 generalize cO r d = rd at *
 generalize cO r n = rn at *
 generalize cO r m = rm at *
 generalize cO r a = ra at *
 obtain ⟨a0, a3⟩ := hf.1 (by omega)
 obtain ⟨s, hs⟩ : ∃ s : Nat, s = (16 * a).toNat := ⟨_, rfl⟩
 have e16 : aQ Tryd.prog .mul 3 true (.int .i64 16) (I6 a) = some (Nn s) := by
  rw [zO, fW (by omega) (by omega)]; congr 2; omega
 rw [← hs]
 have e17 : aJ .u64 (Nn s) = some (Un s) := by rw [fE, fF (by omega) (by omega)]
 have k17 := uW Tryd.prog 43 false .u64 ki s (by omega)
 clear hs
 generalize ki * 2 ^ s % 18446744073709551616 = xx at *
 rw [aM.step]
 unfold aM.c
 rw [kZ, kG]
 have hZ : (List.replicate 31 0 : List Nat).length = 31 := rfl
 have z1 : fG 1 (bT (List.replicate 31 0)) [] = some (eQ (List.replicate 31 0)) := rfl
 have z2 : fG 1 [.bool false, .bool false, .bool false, .bool false] [] = some jO.a := rfl
 have b1 : fI 44 (eQ (List.replicate 31 0)) [] = some (.ptr 0 1 0 0, [⟨44, 31, [eQ (List.replicate 31 0)]⟩]) := mE _ rfl []
 have b2 : fI 53 (.agg [.bool false, .bool false, .bool false, .bool false]) [⟨44, 31, [eQ (List.replicate 31 0)]⟩] = some (.ptr 1 1 0 0, kA (List.replicate 31 0) jO) := rfl
 generalize List.replicate 31 0 = Z at *
 have c0 : ∀ H, dV (eQ r) H = some (.rp false (eQ r) 0, H) := fun H => rfl
 have c1 : ∀ H, dV f.a H = some (.rp false f.a 0, H) := fun H => rfl
 have c2 : ∀ H, aC G true 31 (.rp false (eQ r) 0) H = some (eQ r) := fun H => by
  rw [jU, if_pos (by rw [bN, hr.len]; exact Nat.le_refl _), List.drop_zero, List.take_of_length_le (by rw [bN, hr.len]; exact Nat.le_refl _)]
 have c3 : ∀ H, aC G true 4 (.rp false f.a 0) H = some f.a := fun H => rfl
 have c4 : ∀ q : List Nat, q.length = 31 → fB (aL 31 (.ptr 0 1 0 0) (eQ q) (kA Z jO)) = some (.tup [], kA q jO) := fun q hq => mG hq hZ rfl
 have c5 : ∀ (q : List Nat) (g : FL), fB (aL 4 (.ptr 1 1 0 0) g.a (kA q jO)) = some (.tup [], kA q g) := fun q g => rfl
 have st' := st xx
 have hq := jC r hr.len d xx
 generalize gC r d xx = q at *
 have c4' := c4 q hq
 have c5' := c5 q f
 refine eZ ?_
 have fx := aPQ r1 <| aPQ g1 <| aPQ g2 <| aPQ g3 <| aPQ g4 <| aPQ k1 <| aPQ k2 <| aPQ k3 <| aPQ b1 <| aPQ b2 <| aPQ c0 <| aPQ c1 <| aPQ c2 <| aPQ c3 <| aPQ z1 <| aPQ z2 <| aPQ e16 <| aPQ e17 <| aPQ k17 <| aPQ st' <| aPQ c4' <| c5'
 refine kM ?_
 exact oF (iU G q hq f true)
theorem aNm (G : aG) (k : Nat) (d n m a imm : Int) (hw : aT ⟨2, d, n, m, a, imm⟩ = true) (r : List Nat) (hr : RgOk r) (f : FL) :
  aM.f G (k + 7) [mV 2 d n m a imm, eQ r, f.a] [] = some (pT ((dD ⟨2, d, n, m, a, imm⟩ r f).1, (dD ⟨2, d, n, m, a, imm⟩ r f).2, true), []) := by
 have r1 : ∀ H, aD (aI.f G (k + 6)) [mV 2 d n m a imm] H = _ := fun H => aE (H := H) (hU G k ⟨2, d, n, m, a, imm⟩) rfl rfl
 rw [hw] at r1
 obtain ⟨_, hd, hn, hm, ha, hf⟩ := jG hw
 have himm : 0 ≤ imm ∧ imm < 65536 := by
  unfold aT at hw
  rw [Bool.and_eq_true] at hw
  obtain ⟨_, h⟩ := hw
  simp [aO, fD, gI, dU, gS, fC, dS] at h
  omega
 simp only at hd hn hm ha hf
 clear hw
 have ld := hr.get d
 have ln := hr.get n
 have lm := hr.get m
 have la := hr.get a
 have g : ∀ j, 0 ≤ j → j ≤ 31 → ∀ H, aD (aU.f G (k + 6)) [eQ r, I6 j] H = some (Un (cO r j), H) := fun j h0 h1 H => aE (H := H) (iS G (k + 5) r hr.len j h0 h1) (by simp [eO, bC, gX]) rfl
 have g1 := g d hd.1 hd.2
 have g2 := g n hn.1 hn.2
 have g3 := g m hm.1 hm.2
 have g4 := g a ha.1 ha.2
 clear g
 have st : ∀ x H, aD (aV.f G (k + 6)) [eQ r, I6 d, Un x] H = some (eQ (gC r d x), H) := fun x H => aE (H := H) (iT G (k + 5) r hr.len d hd.1 hd.2 x) (by simp [eO, bC, gX]) (by simp [fZ, kR])
 obtain ⟨ki, hki⟩ : ∃ z, z = u64 imm := ⟨_, rfl⟩
 have hkl : ki < 18446744073709551616 := by rw [hki]; exact jD _
 have hkv : (ki : Int) = imm := by rw [hki]; unfold u64; omega
 have k1 : aJ .u64 (I6 imm) = some (Un ki) := by rw [iG, hki]
 have k2 : aQ Tryd.prog .and 3 true (I6 imm) (.int .i64 63) = some (I6 (imm % 64)) := iZ _ _ _ (by omega) (by omega)
 obtain ⟨kj, hkj⟩ : ∃ z : Nat, (z : Int) = imm % 64 := ⟨(imm % 64).toNat, by omega⟩
 rw [← hkj] at k2
 have k3 : aJ .u64 (Nn kj) = some (Un kj) := by rw [fE, fF (by omega) (by omega)]
 have ed : dD ⟨2, d, n, m, a, imm⟩ r f = (gC r d (pC (cO r d) (u64 imm) (16 * a).toNat), f) := by
  unfold dD jN
  simp only [Int.reduceEq, or_false, false_or, or_self, or_true, true_or, if_false, if_true, ↓reduceIte]
 rw [ed]
 clear ed
 simp only
 try rw [← hki]
 generalize cO r d = rd at *
 generalize cO r n = rn at *
 generalize cO r m = rm at *
 generalize cO r a = ra at *
 obtain ⟨a0, a3⟩ := hf.1 (by omega)
 obtain ⟨s, hs⟩ : ∃ s : Nat, s = (16 * a).toNat := ⟨_, rfl⟩
 have e16 : aQ Tryd.prog .mul 3 true (.int .i64 16) (I6 a) = some (Nn s) := by
  rw [zO, fW (by omega) (by omega)]; congr 2; omega
 rw [← hs]
 have e17 : aJ .u64 (Nn s) = some (Un s) := by rw [fE, fF (by omega) (by omega)]
 have k17 := uW Tryd.prog 43 false .u64 ki s (by omega)
 have k18 : aQ Tryd.prog .shl 43 true (.int .u64 65535) (Un s) = some (Un (65535 * 2 ^ s % 18446744073709551616)) := uW Tryd.prog 43 true .u64 65535 s (by omega)
 have k19 := aEW Tryd.prog 43 false .u64 (rd : Int) ((65535 * 2 ^ s % 18446744073709551616 : Nat) : Int)
 have k20 : aQ Tryd.prog .or 43 false (.int .u64 (bits .andNot .u64 (rd : Int) ((65535 * 2 ^ s % 18446744073709551616 : Nat) : Int))) (Un (ki * 2 ^ s % 18446744073709551616)) = some (Un (pC rd ki s)) := by
  rw [aCJ]
  unfold pC
  have hb : ∀ p q : Int, 0 ≤ bits .or .u64 p q ∧ bits .or .u64 p q < 18446744073709551616 := fun p q => by
   show 0 ≤ IntKind.u64.wrap _ ∧ IntKind.u64.wrap _ < _
   rw [nS]; omega
  have := hb (bits .andNot .u64 (rd : Int) ((65535 * 2 ^ s % 18446744073709551616 : Nat) : Int)) ((ki * 2 ^ s % 18446744073709551616 : Nat) : Int)
  congr 2
  unfold u64
  omega
 clear hs
 generalize ki * 2 ^ s % 18446744073709551616 = z1' at *
 generalize 65535 * 2 ^ s % 18446744073709551616 = z2' at *
 generalize pC rd ki s = xx at *
 generalize bits .andNot .u64 (rd : Int) (z2' : Int) = z4' at *
 rw [aM.step]
 unfold aM.c
 rw [kZ, kG]
 have hZ : (List.replicate 31 0 : List Nat).length = 31 := rfl
 have z1 : fG 1 (bT (List.replicate 31 0)) [] = some (eQ (List.replicate 31 0)) := rfl
 have z2 : fG 1 [.bool false, .bool false, .bool false, .bool false] [] = some jO.a := rfl
 have b1 : fI 44 (eQ (List.replicate 31 0)) [] = some (.ptr 0 1 0 0, [⟨44, 31, [eQ (List.replicate 31 0)]⟩]) := mE _ rfl []
 have b2 : fI 53 (.agg [.bool false, .bool false, .bool false, .bool false]) [⟨44, 31, [eQ (List.replicate 31 0)]⟩] = some (.ptr 1 1 0 0, kA (List.replicate 31 0) jO) := rfl
 generalize List.replicate 31 0 = Z at *
 have c0 : ∀ H, dV (eQ r) H = some (.rp false (eQ r) 0, H) := fun H => rfl
 have c1 : ∀ H, dV f.a H = some (.rp false f.a 0, H) := fun H => rfl
 have c2 : ∀ H, aC G true 31 (.rp false (eQ r) 0) H = some (eQ r) := fun H => by
  rw [jU, if_pos (by rw [bN, hr.len]; exact Nat.le_refl _), List.drop_zero, List.take_of_length_le (by rw [bN, hr.len]; exact Nat.le_refl _)]
 have c3 : ∀ H, aC G true 4 (.rp false f.a 0) H = some f.a := fun H => rfl
 have c4 : ∀ q : List Nat, q.length = 31 → fB (aL 31 (.ptr 0 1 0 0) (eQ q) (kA Z jO)) = some (.tup [], kA q jO) := fun q hq => mG hq hZ rfl
 have c5 : ∀ (q : List Nat) (g : FL), fB (aL 4 (.ptr 1 1 0 0) g.a (kA q jO)) = some (.tup [], kA q g) := fun q g => rfl
 have st' := st xx
 have hq := jC r hr.len d xx
 generalize gC r d xx = q at *
 have c4' := c4 q hq
 have c5' := c5 q f
 refine eZ ?_
 have fx := aPQ r1 <| aPQ g1 <| aPQ g2 <| aPQ g3 <| aPQ g4 <| aPQ k1 <| aPQ k2 <| aPQ k3 <| aPQ b1 <| aPQ b2 <| aPQ c0 <| aPQ c1 <| aPQ c2 <| aPQ c3 <| aPQ z1 <| aPQ z2 <| aPQ e16 <| aPQ e17 <| aPQ k17 <| aPQ k18 <| aPQ k19 <| aPQ k20 <| aPQ st' <| aPQ c4' <| c5'
 refine kM ?_
 exact oF (iU G q hq f true)
theorem aMB (G : aG) (k : Nat) (d n m a imm : Int) (hw : aT ⟨3, d, n, m, a, imm⟩ = true) (r : List Nat) (hr : RgOk r) (f : FL) :
  aM.f G (k + 7) [mV 3 d n m a imm, eQ r, f.a] [] = some (pT ((dD ⟨3, d, n, m, a, imm⟩ r f).1, (dD ⟨3, d, n, m, a, imm⟩ r f).2, true), []) := by
 have r1 : ∀ H, aD (aI.f G (k + 6)) [mV 3 d n m a imm] H = _ := fun H => aE (H := H) (hU G k ⟨3, d, n, m, a, imm⟩) rfl rfl
 rw [hw] at r1
 obtain ⟨_, hd, hn, hm, ha, hf⟩ := jG hw
 have himm : 0 ≤ imm ∧ imm < 65536 := by
  unfold aT at hw
  rw [Bool.and_eq_true] at hw
  obtain ⟨_, h⟩ := hw
  simp [aO, fD, gI, dU, gS, fC, dS] at h
  omega
 simp only at hd hn hm ha hf
 clear hw
 have ld := hr.get d
 have ln := hr.get n
 have lm := hr.get m
 have la := hr.get a
 have g : ∀ j, 0 ≤ j → j ≤ 31 → ∀ H, aD (aU.f G (k + 6)) [eQ r, I6 j] H = some (Un (cO r j), H) := fun j h0 h1 H => aE (H := H) (iS G (k + 5) r hr.len j h0 h1) (by simp [eO, bC, gX]) rfl
 have g1 := g d hd.1 hd.2
 have g2 := g n hn.1 hn.2
 have g3 := g m hm.1 hm.2
 have g4 := g a ha.1 ha.2
 clear g
 have st : ∀ x H, aD (aV.f G (k + 6)) [eQ r, I6 d, Un x] H = some (eQ (gC r d x), H) := fun x H => aE (H := H) (iT G (k + 5) r hr.len d hd.1 hd.2 x) (by simp [eO, bC, gX]) (by simp [fZ, kR])
 obtain ⟨ki, hki⟩ : ∃ z, z = u64 imm := ⟨_, rfl⟩
 have hkl : ki < 18446744073709551616 := by rw [hki]; exact jD _
 have hkv : (ki : Int) = imm := by rw [hki]; unfold u64; omega
 have k1 : aJ .u64 (I6 imm) = some (Un ki) := by rw [iG, hki]
 have k2 : aQ Tryd.prog .and 3 true (I6 imm) (.int .i64 63) = some (I6 (imm % 64)) := iZ _ _ _ (by omega) (by omega)
 obtain ⟨kj, hkj⟩ : ∃ z : Nat, (z : Int) = imm % 64 := ⟨(imm % 64).toNat, by omega⟩
 rw [← hkj] at k2
 have k3 : aJ .u64 (Nn kj) = some (Un kj) := by rw [fE, fF (by omega) (by omega)]
 have ed : dD ⟨3, d, n, m, a, imm⟩ r f = (gC r d ((cO r n + cO r m) % 18446744073709551616), f) := by
  unfold dD jN
  simp only [Int.reduceEq, or_false, false_or, or_self, or_true, true_or, if_false, if_true, ↓reduceIte]
 rw [ed]
 clear ed
 simp only
 try rw [← hki]
 generalize cO r d = rd at *
 generalize cO r n = rn at *
 generalize cO r m = rm at *
 generalize cO r a = ra at *
 have o1 := qN Tryd.prog 43 false rn rm
 generalize (rn + rm) % 18446744073709551616 = xx at *
 rw [aM.step]
 unfold aM.c
 rw [kZ, kG]
 have hZ : (List.replicate 31 0 : List Nat).length = 31 := rfl
 have z1 : fG 1 (bT (List.replicate 31 0)) [] = some (eQ (List.replicate 31 0)) := rfl
 have z2 : fG 1 [.bool false, .bool false, .bool false, .bool false] [] = some jO.a := rfl
 have b1 : fI 44 (eQ (List.replicate 31 0)) [] = some (.ptr 0 1 0 0, [⟨44, 31, [eQ (List.replicate 31 0)]⟩]) := mE _ rfl []
 have b2 : fI 53 (.agg [.bool false, .bool false, .bool false, .bool false]) [⟨44, 31, [eQ (List.replicate 31 0)]⟩] = some (.ptr 1 1 0 0, kA (List.replicate 31 0) jO) := rfl
 generalize List.replicate 31 0 = Z at *
 have c0 : ∀ H, dV (eQ r) H = some (.rp false (eQ r) 0, H) := fun H => rfl
 have c1 : ∀ H, dV f.a H = some (.rp false f.a 0, H) := fun H => rfl
 have c2 : ∀ H, aC G true 31 (.rp false (eQ r) 0) H = some (eQ r) := fun H => by
  rw [jU, if_pos (by rw [bN, hr.len]; exact Nat.le_refl _), List.drop_zero, List.take_of_length_le (by rw [bN, hr.len]; exact Nat.le_refl _)]
 have c3 : ∀ H, aC G true 4 (.rp false f.a 0) H = some f.a := fun H => rfl
 have c4 : ∀ q : List Nat, q.length = 31 → fB (aL 31 (.ptr 0 1 0 0) (eQ q) (kA Z jO)) = some (.tup [], kA q jO) := fun q hq => mG hq hZ rfl
 have c5 : ∀ (q : List Nat) (g : FL), fB (aL 4 (.ptr 1 1 0 0) g.a (kA q jO)) = some (.tup [], kA q g) := fun q g => rfl
 have st' := st xx
 have hq := jC r hr.len d xx
 generalize gC r d xx = q at *
 have c4' := c4 q hq
 have c5' := c5 q f
 refine eZ ?_
 have fx := aPQ r1 <| aPQ g1 <| aPQ g2 <| aPQ g3 <| aPQ g4 <| aPQ k1 <| aPQ k2 <| aPQ k3 <| aPQ b1 <| aPQ b2 <| aPQ c0 <| aPQ c1 <| aPQ c2 <| aPQ c3 <| aPQ z1 <| aPQ z2 <| aPQ o1 <| aPQ st' <| aPQ c4' <| c5'
 refine kM ?_
 exact oF (iU G q hq f true)
theorem aMu (G : aG) (k : Nat) (d n m a imm : Int) (hw : aT ⟨4, d, n, m, a, imm⟩ = true) (r : List Nat) (hr : RgOk r) (f : FL) :
  aM.f G (k + 7) [mV 4 d n m a imm, eQ r, f.a] [] = some (pT ((dD ⟨4, d, n, m, a, imm⟩ r f).1, (dD ⟨4, d, n, m, a, imm⟩ r f).2, true), []) := by
 have r1 : ∀ H, aD (aI.f G (k + 6)) [mV 4 d n m a imm] H = _ := fun H => aE (H := H) (hU G k ⟨4, d, n, m, a, imm⟩) rfl rfl
 rw [hw] at r1
 obtain ⟨_, hd, hn, hm, ha, hf⟩ := jG hw
 have himm : 0 ≤ imm ∧ imm < 65536 := by
  unfold aT at hw
  rw [Bool.and_eq_true] at hw
  obtain ⟨_, h⟩ := hw
  simp [aO, fD, gI, dU, gS, fC, dS] at h
  omega
 simp only at hd hn hm ha hf
 clear hw
 have ld := hr.get d
 have ln := hr.get n
 have lm := hr.get m
 have la := hr.get a
 have g : ∀ j, 0 ≤ j → j ≤ 31 → ∀ H, aD (aU.f G (k + 6)) [eQ r, I6 j] H = some (Un (cO r j), H) := fun j h0 h1 H => aE (H := H) (iS G (k + 5) r hr.len j h0 h1) (by simp [eO, bC, gX]) rfl
 have g1 := g d hd.1 hd.2
 have g2 := g n hn.1 hn.2
 have g3 := g m hm.1 hm.2
 have g4 := g a ha.1 ha.2
 clear g
 have st : ∀ x H, aD (aV.f G (k + 6)) [eQ r, I6 d, Un x] H = some (eQ (gC r d x), H) := fun x H => aE (H := H) (iT G (k + 5) r hr.len d hd.1 hd.2 x) (by simp [eO, bC, gX]) (by simp [fZ, kR])
 obtain ⟨ki, hki⟩ : ∃ z, z = u64 imm := ⟨_, rfl⟩
 have hkl : ki < 18446744073709551616 := by rw [hki]; exact jD _
 have hkv : (ki : Int) = imm := by rw [hki]; unfold u64; omega
 have k1 : aJ .u64 (I6 imm) = some (Un ki) := by rw [iG, hki]
 have k2 : aQ Tryd.prog .and 3 true (I6 imm) (.int .i64 63) = some (I6 (imm % 64)) := iZ _ _ _ (by omega) (by omega)
 obtain ⟨kj, hkj⟩ : ∃ z : Nat, (z : Int) = imm % 64 := ⟨(imm % 64).toNat, by omega⟩
 rw [← hkj] at k2
 have k3 : aJ .u64 (Nn kj) = some (Un kj) := by rw [fE, fF (by omega) (by omega)]
 have ed : dD ⟨4, d, n, m, a, imm⟩ r f = (gC r d ((cO r n + 18446744073709551616 - cO r m) % 18446744073709551616), f) := by
  unfold dD jN
  simp only [Int.reduceEq, or_false, false_or, or_self, or_true, true_or, if_false, if_true, ↓reduceIte]
 rw [ed]
 clear ed
 simp only
 try rw [← hki]
 generalize cO r d = rd at *
 generalize cO r n = rn at *
 generalize cO r m = rm at *
 generalize cO r a = ra at *
 have o1 := zL Tryd.prog 43 false rn rm lm
 generalize (rn + 18446744073709551616 - rm) % 18446744073709551616 = xx at *
 rw [aM.step]
 unfold aM.c
 rw [kZ, kG]
 have hZ : (List.replicate 31 0 : List Nat).length = 31 := rfl
 have z1 : fG 1 (bT (List.replicate 31 0)) [] = some (eQ (List.replicate 31 0)) := rfl
 have z2 : fG 1 [.bool false, .bool false, .bool false, .bool false] [] = some jO.a := rfl
 have b1 : fI 44 (eQ (List.replicate 31 0)) [] = some (.ptr 0 1 0 0, [⟨44, 31, [eQ (List.replicate 31 0)]⟩]) := mE _ rfl []
 have b2 : fI 53 (.agg [.bool false, .bool false, .bool false, .bool false]) [⟨44, 31, [eQ (List.replicate 31 0)]⟩] = some (.ptr 1 1 0 0, kA (List.replicate 31 0) jO) := rfl
 generalize List.replicate 31 0 = Z at *
 have c0 : ∀ H, dV (eQ r) H = some (.rp false (eQ r) 0, H) := fun H => rfl
 have c1 : ∀ H, dV f.a H = some (.rp false f.a 0, H) := fun H => rfl
 have c2 : ∀ H, aC G true 31 (.rp false (eQ r) 0) H = some (eQ r) := fun H => by
  rw [jU, if_pos (by rw [bN, hr.len]; exact Nat.le_refl _), List.drop_zero, List.take_of_length_le (by rw [bN, hr.len]; exact Nat.le_refl _)]
 have c3 : ∀ H, aC G true 4 (.rp false f.a 0) H = some f.a := fun H => rfl
 have c4 : ∀ q : List Nat, q.length = 31 → fB (aL 31 (.ptr 0 1 0 0) (eQ q) (kA Z jO)) = some (.tup [], kA q jO) := fun q hq => mG hq hZ rfl
 have c5 : ∀ (q : List Nat) (g : FL), fB (aL 4 (.ptr 1 1 0 0) g.a (kA q jO)) = some (.tup [], kA q g) := fun q g => rfl
 have st' := st xx
 have hq := jC r hr.len d xx
 generalize gC r d xx = q at *
 have c4' := c4 q hq
 have c5' := c5 q f
 refine eZ ?_
 have fx := aPQ r1 <| aPQ g1 <| aPQ g2 <| aPQ g3 <| aPQ g4 <| aPQ k1 <| aPQ k2 <| aPQ k3 <| aPQ b1 <| aPQ b2 <| aPQ c0 <| aPQ c1 <| aPQ c2 <| aPQ c3 <| aPQ z1 <| aPQ z2 <| aPQ o1 <| aPQ st' <| aPQ c4' <| c5'
 refine kM ?_
 exact oF (iU G q hq f true)
theorem aMD (G : aG) (k : Nat) (d n m a imm : Int) (hw : aT ⟨5, d, n, m, a, imm⟩ = true) (r : List Nat) (hr : RgOk r) (f : FL) :
  aM.f G (k + 7) [mV 5 d n m a imm, eQ r, f.a] [] = some (pT ((dD ⟨5, d, n, m, a, imm⟩ r f).1, (dD ⟨5, d, n, m, a, imm⟩ r f).2, true), []) := by
 have r1 : ∀ H, aD (aI.f G (k + 6)) [mV 5 d n m a imm] H = _ := fun H => aE (H := H) (hU G k ⟨5, d, n, m, a, imm⟩) rfl rfl
 rw [hw] at r1
 obtain ⟨_, hd, hn, hm, ha, hf⟩ := jG hw
 have himm : 0 ≤ imm ∧ imm < 65536 := by
  unfold aT at hw
  rw [Bool.and_eq_true] at hw
  obtain ⟨_, h⟩ := hw
  simp [aO, fD, gI, dU, gS, fC, dS] at h
  omega
 simp only at hd hn hm ha hf
 clear hw
 have ld := hr.get d
 have ln := hr.get n
 have lm := hr.get m
 have la := hr.get a
 have g : ∀ j, 0 ≤ j → j ≤ 31 → ∀ H, aD (aU.f G (k + 6)) [eQ r, I6 j] H = some (Un (cO r j), H) := fun j h0 h1 H => aE (H := H) (iS G (k + 5) r hr.len j h0 h1) (by simp [eO, bC, gX]) rfl
 have g1 := g d hd.1 hd.2
 have g2 := g n hn.1 hn.2
 have g3 := g m hm.1 hm.2
 have g4 := g a ha.1 ha.2
 clear g
 have st : ∀ x H, aD (aV.f G (k + 6)) [eQ r, I6 d, Un x] H = some (eQ (gC r d x), H) := fun x H => aE (H := H) (iT G (k + 5) r hr.len d hd.1 hd.2 x) (by simp [eO, bC, gX]) (by simp [fZ, kR])
 obtain ⟨ki, hki⟩ : ∃ z, z = u64 imm := ⟨_, rfl⟩
 have hkl : ki < 18446744073709551616 := by rw [hki]; exact jD _
 have hkv : (ki : Int) = imm := by rw [hki]; unfold u64; omega
 have k1 : aJ .u64 (I6 imm) = some (Un ki) := by rw [iG, hki]
 have k2 : aQ Tryd.prog .and 3 true (I6 imm) (.int .i64 63) = some (I6 (imm % 64)) := iZ _ _ _ (by omega) (by omega)
 obtain ⟨kj, hkj⟩ : ∃ z : Nat, (z : Int) = imm % 64 := ⟨(imm % 64).toNat, by omega⟩
 rw [← hkj] at k2
 have k3 : aJ .u64 (Nn kj) = some (Un kj) := by rw [fE, fF (by omega) (by omega)]
 have ed : dD ⟨5, d, n, m, a, imm⟩ r f = (gC r d (cO r n &&& cO r m), f) := by
  unfold dD jN
  simp only [Int.reduceEq, or_false, false_or, or_self, or_true, true_or, if_false, if_true, ↓reduceIte]
 rw [ed]
 clear ed
 simp only
 try rw [← hki]
 generalize cO r d = rd at *
 generalize cO r n = rn at *
 generalize cO r m = rm at *
 generalize cO r a = ra at *
 have o1 : aQ Tryd.prog .and 43 false (Un rn) (Un rm) = some (Un (rn &&& rm)) := by rw [pJ, uO rn rm ln lm]
 generalize rn &&& rm = xx at *
 rw [aM.step]
 unfold aM.c
 rw [kZ, kG]
 have hZ : (List.replicate 31 0 : List Nat).length = 31 := rfl
 have z1 : fG 1 (bT (List.replicate 31 0)) [] = some (eQ (List.replicate 31 0)) := rfl
 have z2 : fG 1 [.bool false, .bool false, .bool false, .bool false] [] = some jO.a := rfl
 have b1 : fI 44 (eQ (List.replicate 31 0)) [] = some (.ptr 0 1 0 0, [⟨44, 31, [eQ (List.replicate 31 0)]⟩]) := mE _ rfl []
 have b2 : fI 53 (.agg [.bool false, .bool false, .bool false, .bool false]) [⟨44, 31, [eQ (List.replicate 31 0)]⟩] = some (.ptr 1 1 0 0, kA (List.replicate 31 0) jO) := rfl
 generalize List.replicate 31 0 = Z at *
 have c0 : ∀ H, dV (eQ r) H = some (.rp false (eQ r) 0, H) := fun H => rfl
 have c1 : ∀ H, dV f.a H = some (.rp false f.a 0, H) := fun H => rfl
 have c2 : ∀ H, aC G true 31 (.rp false (eQ r) 0) H = some (eQ r) := fun H => by
  rw [jU, if_pos (by rw [bN, hr.len]; exact Nat.le_refl _), List.drop_zero, List.take_of_length_le (by rw [bN, hr.len]; exact Nat.le_refl _)]
 have c3 : ∀ H, aC G true 4 (.rp false f.a 0) H = some f.a := fun H => rfl
 have c4 : ∀ q : List Nat, q.length = 31 → fB (aL 31 (.ptr 0 1 0 0) (eQ q) (kA Z jO)) = some (.tup [], kA q jO) := fun q hq => mG hq hZ rfl
 have c5 : ∀ (q : List Nat) (g : FL), fB (aL 4 (.ptr 1 1 0 0) g.a (kA q jO)) = some (.tup [], kA q g) := fun q g => rfl
 have st' := st xx
 have hq := jC r hr.len d xx
 generalize gC r d xx = q at *
 have c4' := c4 q hq
 have c5' := c5 q f
 refine eZ ?_
 have fx := aPQ r1 <| aPQ g1 <| aPQ g2 <| aPQ g3 <| aPQ g4 <| aPQ k1 <| aPQ k2 <| aPQ k3 <| aPQ b1 <| aPQ b2 <| aPQ c0 <| aPQ c1 <| aPQ c2 <| aPQ c3 <| aPQ z1 <| aPQ z2 <| aPQ o1 <| aPQ st' <| aPQ c4' <| c5'
 refine kM ?_
 exact oF (iU G q hq f true)
theorem aMU (G : aG) (k : Nat) (d n m a imm : Int) (hw : aT ⟨6, d, n, m, a, imm⟩ = true) (r : List Nat) (hr : RgOk r) (f : FL) :
  aM.f G (k + 7) [mV 6 d n m a imm, eQ r, f.a] [] = some (pT ((dD ⟨6, d, n, m, a, imm⟩ r f).1, (dD ⟨6, d, n, m, a, imm⟩ r f).2, true), []) := by
 have r1 : ∀ H, aD (aI.f G (k + 6)) [mV 6 d n m a imm] H = _ := fun H => aE (H := H) (hU G k ⟨6, d, n, m, a, imm⟩) rfl rfl
 rw [hw] at r1
 obtain ⟨_, hd, hn, hm, ha, hf⟩ := jG hw
 have himm : 0 ≤ imm ∧ imm < 65536 := by
  unfold aT at hw
  rw [Bool.and_eq_true] at hw
  obtain ⟨_, h⟩ := hw
  simp [aO, fD, gI, dU, gS, fC, dS] at h
  omega
 simp only at hd hn hm ha hf
 clear hw
 have ld := hr.get d
 have ln := hr.get n
 have lm := hr.get m
 have la := hr.get a
 have g : ∀ j, 0 ≤ j → j ≤ 31 → ∀ H, aD (aU.f G (k + 6)) [eQ r, I6 j] H = some (Un (cO r j), H) := fun j h0 h1 H => aE (H := H) (iS G (k + 5) r hr.len j h0 h1) (by simp [eO, bC, gX]) rfl
 have g1 := g d hd.1 hd.2
 have g2 := g n hn.1 hn.2
 have g3 := g m hm.1 hm.2
 have g4 := g a ha.1 ha.2
 clear g
 have st : ∀ x H, aD (aV.f G (k + 6)) [eQ r, I6 d, Un x] H = some (eQ (gC r d x), H) := fun x H => aE (H := H) (iT G (k + 5) r hr.len d hd.1 hd.2 x) (by simp [eO, bC, gX]) (by simp [fZ, kR])
 obtain ⟨ki, hki⟩ : ∃ z, z = u64 imm := ⟨_, rfl⟩
 have hkl : ki < 18446744073709551616 := by rw [hki]; exact jD _
 have hkv : (ki : Int) = imm := by rw [hki]; unfold u64; omega
 have k1 : aJ .u64 (I6 imm) = some (Un ki) := by rw [iG, hki]
 have k2 : aQ Tryd.prog .and 3 true (I6 imm) (.int .i64 63) = some (I6 (imm % 64)) := iZ _ _ _ (by omega) (by omega)
 obtain ⟨kj, hkj⟩ : ∃ z : Nat, (z : Int) = imm % 64 := ⟨(imm % 64).toNat, by omega⟩
 rw [← hkj] at k2
 have k3 : aJ .u64 (Nn kj) = some (Un kj) := by rw [fE, fF (by omega) (by omega)]
 have ed : dD ⟨6, d, n, m, a, imm⟩ r f = (gC r d (cO r n ||| cO r m), f) := by
  unfold dD jN
  simp only [Int.reduceEq, or_false, false_or, or_self, or_true, true_or, if_false, if_true, ↓reduceIte]
 rw [ed]
 clear ed
 simp only
 try rw [← hki]
 generalize cO r d = rd at *
 generalize cO r n = rn at *
 generalize cO r m = rm at *
 generalize cO r a = ra at *
 have o1 : aQ Tryd.prog .or 43 false (Un rn) (Un rm) = some (Un (rn ||| rm)) := by rw [aCJ, aIm rn rm ln lm]
 generalize rn ||| rm = xx at *
 rw [aM.step]
 unfold aM.c
 rw [kZ, kG]
 have hZ : (List.replicate 31 0 : List Nat).length = 31 := rfl
 have z1 : fG 1 (bT (List.replicate 31 0)) [] = some (eQ (List.replicate 31 0)) := rfl
 have z2 : fG 1 [.bool false, .bool false, .bool false, .bool false] [] = some jO.a := rfl
 have b1 : fI 44 (eQ (List.replicate 31 0)) [] = some (.ptr 0 1 0 0, [⟨44, 31, [eQ (List.replicate 31 0)]⟩]) := mE _ rfl []
 have b2 : fI 53 (.agg [.bool false, .bool false, .bool false, .bool false]) [⟨44, 31, [eQ (List.replicate 31 0)]⟩] = some (.ptr 1 1 0 0, kA (List.replicate 31 0) jO) := rfl
 generalize List.replicate 31 0 = Z at *
 have c0 : ∀ H, dV (eQ r) H = some (.rp false (eQ r) 0, H) := fun H => rfl
 have c1 : ∀ H, dV f.a H = some (.rp false f.a 0, H) := fun H => rfl
 have c2 : ∀ H, aC G true 31 (.rp false (eQ r) 0) H = some (eQ r) := fun H => by
  rw [jU, if_pos (by rw [bN, hr.len]; exact Nat.le_refl _), List.drop_zero, List.take_of_length_le (by rw [bN, hr.len]; exact Nat.le_refl _)]
 have c3 : ∀ H, aC G true 4 (.rp false f.a 0) H = some f.a := fun H => rfl
 have c4 : ∀ q : List Nat, q.length = 31 → fB (aL 31 (.ptr 0 1 0 0) (eQ q) (kA Z jO)) = some (.tup [], kA q jO) := fun q hq => mG hq hZ rfl
 have c5 : ∀ (q : List Nat) (g : FL), fB (aL 4 (.ptr 1 1 0 0) g.a (kA q jO)) = some (.tup [], kA q g) := fun q g => rfl
 have st' := st xx
 have hq := jC r hr.len d xx
 generalize gC r d xx = q at *
 have c4' := c4 q hq
 have c5' := c5 q f
 refine eZ ?_
 have fx := aPQ r1 <| aPQ g1 <| aPQ g2 <| aPQ g3 <| aPQ g4 <| aPQ k1 <| aPQ k2 <| aPQ k3 <| aPQ b1 <| aPQ b2 <| aPQ c0 <| aPQ c1 <| aPQ c2 <| aPQ c3 <| aPQ z1 <| aPQ z2 <| aPQ o1 <| aPQ st' <| aPQ c4' <| c5'
 refine kM ?_
 exact oF (iU G q hq f true)
theorem aNv (G : aG) (k : Nat) (d n m a imm : Int) (hw : aT ⟨7, d, n, m, a, imm⟩ = true) (r : List Nat) (hr : RgOk r) (f : FL) :
  aM.f G (k + 7) [mV 7 d n m a imm, eQ r, f.a] [] = some (pT ((dD ⟨7, d, n, m, a, imm⟩ r f).1, (dD ⟨7, d, n, m, a, imm⟩ r f).2, true), []) := by
 have r1 : ∀ H, aD (aI.f G (k + 6)) [mV 7 d n m a imm] H = _ := fun H => aE (H := H) (hU G k ⟨7, d, n, m, a, imm⟩) rfl rfl
 rw [hw] at r1
 obtain ⟨_, hd, hn, hm, ha, hf⟩ := jG hw
 have himm : 0 ≤ imm ∧ imm < 65536 := by
  unfold aT at hw
  rw [Bool.and_eq_true] at hw
  obtain ⟨_, h⟩ := hw
  simp [aO, fD, gI, dU, gS, fC, dS] at h
  omega
 simp only at hd hn hm ha hf
 clear hw
 have ld := hr.get d
 have ln := hr.get n
 have lm := hr.get m
 have la := hr.get a
 have g : ∀ j, 0 ≤ j → j ≤ 31 → ∀ H, aD (aU.f G (k + 6)) [eQ r, I6 j] H = some (Un (cO r j), H) := fun j h0 h1 H => aE (H := H) (iS G (k + 5) r hr.len j h0 h1) (by simp [eO, bC, gX]) rfl
 have g1 := g d hd.1 hd.2
 have g2 := g n hn.1 hn.2
 have g3 := g m hm.1 hm.2
 have g4 := g a ha.1 ha.2
 clear g
 have st : ∀ x H, aD (aV.f G (k + 6)) [eQ r, I6 d, Un x] H = some (eQ (gC r d x), H) := fun x H => aE (H := H) (iT G (k + 5) r hr.len d hd.1 hd.2 x) (by simp [eO, bC, gX]) (by simp [fZ, kR])
 obtain ⟨ki, hki⟩ : ∃ z, z = u64 imm := ⟨_, rfl⟩
 have hkl : ki < 18446744073709551616 := by rw [hki]; exact jD _
 have hkv : (ki : Int) = imm := by rw [hki]; unfold u64; omega
 have k1 : aJ .u64 (I6 imm) = some (Un ki) := by rw [iG, hki]
 have k2 : aQ Tryd.prog .and 3 true (I6 imm) (.int .i64 63) = some (I6 (imm % 64)) := iZ _ _ _ (by omega) (by omega)
 obtain ⟨kj, hkj⟩ : ∃ z : Nat, (z : Int) = imm % 64 := ⟨(imm % 64).toNat, by omega⟩
 rw [← hkj] at k2
 have k3 : aJ .u64 (Nn kj) = some (Un kj) := by rw [fE, fF (by omega) (by omega)]
 have ed : dD ⟨7, d, n, m, a, imm⟩ r f = (gC r d (cO r n ^^^ cO r m), f) := by
  unfold dD jN
  simp only [Int.reduceEq, or_false, false_or, or_self, or_true, true_or, if_false, if_true, ↓reduceIte]
 rw [ed]
 clear ed
 simp only
 try rw [← hki]
 generalize cO r d = rd at *
 generalize cO r n = rn at *
 generalize cO r m = rm at *
 generalize cO r a = ra at *
 have o1 : aQ Tryd.prog .xor 43 false (Un rn) (Un rm) = some (Un (rn ^^^ rm)) := by rw [zH, zB rn rm ln lm]
 generalize rn ^^^ rm = xx at *
 rw [aM.step]
 unfold aM.c
 rw [kZ, kG]
 have hZ : (List.replicate 31 0 : List Nat).length = 31 := rfl
 have z1 : fG 1 (bT (List.replicate 31 0)) [] = some (eQ (List.replicate 31 0)) := rfl
 have z2 : fG 1 [.bool false, .bool false, .bool false, .bool false] [] = some jO.a := rfl
 have b1 : fI 44 (eQ (List.replicate 31 0)) [] = some (.ptr 0 1 0 0, [⟨44, 31, [eQ (List.replicate 31 0)]⟩]) := mE _ rfl []
 have b2 : fI 53 (.agg [.bool false, .bool false, .bool false, .bool false]) [⟨44, 31, [eQ (List.replicate 31 0)]⟩] = some (.ptr 1 1 0 0, kA (List.replicate 31 0) jO) := rfl
 generalize List.replicate 31 0 = Z at *
 have c0 : ∀ H, dV (eQ r) H = some (.rp false (eQ r) 0, H) := fun H => rfl
 have c1 : ∀ H, dV f.a H = some (.rp false f.a 0, H) := fun H => rfl
 have c2 : ∀ H, aC G true 31 (.rp false (eQ r) 0) H = some (eQ r) := fun H => by
  rw [jU, if_pos (by rw [bN, hr.len]; exact Nat.le_refl _), List.drop_zero, List.take_of_length_le (by rw [bN, hr.len]; exact Nat.le_refl _)]
 have c3 : ∀ H, aC G true 4 (.rp false f.a 0) H = some f.a := fun H => rfl
 have c4 : ∀ q : List Nat, q.length = 31 → fB (aL 31 (.ptr 0 1 0 0) (eQ q) (kA Z jO)) = some (.tup [], kA q jO) := fun q hq => mG hq hZ rfl
 have c5 : ∀ (q : List Nat) (g : FL), fB (aL 4 (.ptr 1 1 0 0) g.a (kA q jO)) = some (.tup [], kA q g) := fun q g => rfl
 have st' := st xx
 have hq := jC r hr.len d xx
 generalize gC r d xx = q at *
 have c4' := c4 q hq
 have c5' := c5 q f
 refine eZ ?_
 have fx := aPQ r1 <| aPQ g1 <| aPQ g2 <| aPQ g3 <| aPQ g4 <| aPQ k1 <| aPQ k2 <| aPQ k3 <| aPQ b1 <| aPQ b2 <| aPQ c0 <| aPQ c1 <| aPQ c2 <| aPQ c3 <| aPQ z1 <| aPQ z2 <| aPQ o1 <| aPQ st' <| aPQ c4' <| c5'
 refine kM ?_
 exact oF (iU G q hq f true)
theorem aNA (G : aG) (k : Nat) (d n m a imm : Int) (hw : aT ⟨8, d, n, m, a, imm⟩ = true) (r : List Nat) (hr : RgOk r) (f : FL) :
  aM.f G (k + 7) [mV 8 d n m a imm, eQ r, f.a] [] = some (pT ((dD ⟨8, d, n, m, a, imm⟩ r f).1, (dD ⟨8, d, n, m, a, imm⟩ r f).2, true), []) := by
 have r1 : ∀ H, aD (aI.f G (k + 6)) [mV 8 d n m a imm] H = _ := fun H => aE (H := H) (hU G k ⟨8, d, n, m, a, imm⟩) rfl rfl
 rw [hw] at r1
 obtain ⟨_, hd, hn, hm, ha, hf⟩ := jG hw
 have himm : 0 ≤ imm ∧ imm < 65536 := by
  unfold aT at hw
  rw [Bool.and_eq_true] at hw
  obtain ⟨_, h⟩ := hw
  simp [aO, fD, gI, dU, gS, fC, dS] at h
  omega
 simp only at hd hn hm ha hf
 clear hw
 have ld := hr.get d
 have ln := hr.get n
 have lm := hr.get m
 have la := hr.get a
 have g : ∀ j, 0 ≤ j → j ≤ 31 → ∀ H, aD (aU.f G (k + 6)) [eQ r, I6 j] H = some (Un (cO r j), H) := fun j h0 h1 H => aE (H := H) (iS G (k + 5) r hr.len j h0 h1) (by simp [eO, bC, gX]) rfl
 have g1 := g d hd.1 hd.2
 have g2 := g n hn.1 hn.2
 have g3 := g m hm.1 hm.2
 have g4 := g a ha.1 ha.2
 clear g
 have st : ∀ x H, aD (aV.f G (k + 6)) [eQ r, I6 d, Un x] H = some (eQ (gC r d x), H) := fun x H => aE (H := H) (iT G (k + 5) r hr.len d hd.1 hd.2 x) (by simp [eO, bC, gX]) (by simp [fZ, kR])
 obtain ⟨ki, hki⟩ : ∃ z, z = u64 imm := ⟨_, rfl⟩
 have hkl : ki < 18446744073709551616 := by rw [hki]; exact jD _
 have hkv : (ki : Int) = imm := by rw [hki]; unfold u64; omega
 have k1 : aJ .u64 (I6 imm) = some (Un ki) := by rw [iG, hki]
 have k2 : aQ Tryd.prog .and 3 true (I6 imm) (.int .i64 63) = some (I6 (imm % 64)) := iZ _ _ _ (by omega) (by omega)
 obtain ⟨kj, hkj⟩ : ∃ z : Nat, (z : Int) = imm % 64 := ⟨(imm % 64).toNat, by omega⟩
 rw [← hkj] at k2
 have k3 : aJ .u64 (Nn kj) = some (Un kj) := by rw [fE, fF (by omega) (by omega)]
 have ed : dD ⟨8, d, n, m, a, imm⟩ r f = (gC r d ((cO r n * cO r m % 18446744073709551616 + cO r a) % 18446744073709551616), f) := by
  unfold dD jN
  simp only [Int.reduceEq, or_false, false_or, or_self, or_true, true_or, if_false, if_true, ↓reduceIte]
 rw [ed]
 clear ed
 simp only
 try rw [← hki]
 generalize cO r d = rd at *
 generalize cO r n = rn at *
 generalize cO r m = rm at *
 generalize cO r a = ra at *
 have o1 := vH Tryd.prog 43 false rn rm
 generalize rn * rm % 18446744073709551616 = z1' at *
 have o2 := qN Tryd.prog 43 false z1' ra
 generalize (z1' + ra) % 18446744073709551616 = xx at *
 rw [aM.step]
 unfold aM.c
 rw [kZ, kG]
 have hZ : (List.replicate 31 0 : List Nat).length = 31 := rfl
 have z1 : fG 1 (bT (List.replicate 31 0)) [] = some (eQ (List.replicate 31 0)) := rfl
 have z2 : fG 1 [.bool false, .bool false, .bool false, .bool false] [] = some jO.a := rfl
 have b1 : fI 44 (eQ (List.replicate 31 0)) [] = some (.ptr 0 1 0 0, [⟨44, 31, [eQ (List.replicate 31 0)]⟩]) := mE _ rfl []
 have b2 : fI 53 (.agg [.bool false, .bool false, .bool false, .bool false]) [⟨44, 31, [eQ (List.replicate 31 0)]⟩] = some (.ptr 1 1 0 0, kA (List.replicate 31 0) jO) := rfl
 generalize List.replicate 31 0 = Z at *
 have c0 : ∀ H, dV (eQ r) H = some (.rp false (eQ r) 0, H) := fun H => rfl
 have c1 : ∀ H, dV f.a H = some (.rp false f.a 0, H) := fun H => rfl
 have c2 : ∀ H, aC G true 31 (.rp false (eQ r) 0) H = some (eQ r) := fun H => by
  rw [jU, if_pos (by rw [bN, hr.len]; exact Nat.le_refl _), List.drop_zero, List.take_of_length_le (by rw [bN, hr.len]; exact Nat.le_refl _)]
 have c3 : ∀ H, aC G true 4 (.rp false f.a 0) H = some f.a := fun H => rfl
 have c4 : ∀ q : List Nat, q.length = 31 → fB (aL 31 (.ptr 0 1 0 0) (eQ q) (kA Z jO)) = some (.tup [], kA q jO) := fun q hq => mG hq hZ rfl
 have c5 : ∀ (q : List Nat) (g : FL), fB (aL 4 (.ptr 1 1 0 0) g.a (kA q jO)) = some (.tup [], kA q g) := fun q g => rfl
 have st' := st xx
 have hq := jC r hr.len d xx
 generalize gC r d xx = q at *
 have c4' := c4 q hq
 have c5' := c5 q f
 refine eZ ?_
 have fx := aPQ r1 <| aPQ g1 <| aPQ g2 <| aPQ g3 <| aPQ g4 <| aPQ k1 <| aPQ k2 <| aPQ k3 <| aPQ b1 <| aPQ b2 <| aPQ c0 <| aPQ c1 <| aPQ c2 <| aPQ c3 <| aPQ z1 <| aPQ z2 <| aPQ o1 <| aPQ o2 <| aPQ st' <| aPQ c4' <| c5'
 refine kM ?_
 exact oF (iU G q hq f true)
theorem aML (G : aG) (k : Nat) (d n m a imm : Int) (hw : aT ⟨9, d, n, m, a, imm⟩ = true) (r : List Nat) (hr : RgOk r) (f : FL) :
  aM.f G (k + 7) [mV 9 d n m a imm, eQ r, f.a] [] = some (pT ((dD ⟨9, d, n, m, a, imm⟩ r f).1, (dD ⟨9, d, n, m, a, imm⟩ r f).2, true), []) := by
 have r1 : ∀ H, aD (aI.f G (k + 6)) [mV 9 d n m a imm] H = _ := fun H => aE (H := H) (hU G k ⟨9, d, n, m, a, imm⟩) rfl rfl
 rw [hw] at r1
 obtain ⟨_, hd, hn, hm, ha, hf⟩ := jG hw
 have himm : 0 ≤ imm ∧ imm < 65536 := by
  unfold aT at hw
  rw [Bool.and_eq_true] at hw
  obtain ⟨_, h⟩ := hw
  simp [aO, fD, gI, dU, gS, fC, dS] at h
  omega
 simp only at hd hn hm ha hf
 clear hw
 have ld := hr.get d
 have ln := hr.get n
 have lm := hr.get m
 have la := hr.get a
 have g : ∀ j, 0 ≤ j → j ≤ 31 → ∀ H, aD (aU.f G (k + 6)) [eQ r, I6 j] H = some (Un (cO r j), H) := fun j h0 h1 H => aE (H := H) (iS G (k + 5) r hr.len j h0 h1) (by simp [eO, bC, gX]) rfl
 have g1 := g d hd.1 hd.2
 have g2 := g n hn.1 hn.2
 have g3 := g m hm.1 hm.2
 have g4 := g a ha.1 ha.2
 clear g
 have st : ∀ x H, aD (aV.f G (k + 6)) [eQ r, I6 d, Un x] H = some (eQ (gC r d x), H) := fun x H => aE (H := H) (iT G (k + 5) r hr.len d hd.1 hd.2 x) (by simp [eO, bC, gX]) (by simp [fZ, kR])
 obtain ⟨ki, hki⟩ : ∃ z, z = u64 imm := ⟨_, rfl⟩
 have hkl : ki < 18446744073709551616 := by rw [hki]; exact jD _
 have hkv : (ki : Int) = imm := by rw [hki]; unfold u64; omega
 have k1 : aJ .u64 (I6 imm) = some (Un ki) := by rw [iG, hki]
 have k2 : aQ Tryd.prog .and 3 true (I6 imm) (.int .i64 63) = some (I6 (imm % 64)) := iZ _ _ _ (by omega) (by omega)
 obtain ⟨kj, hkj⟩ : ∃ z : Nat, (z : Int) = imm % 64 := ⟨(imm % 64).toNat, by omega⟩
 rw [← hkj] at k2
 have k3 : aJ .u64 (Nn kj) = some (Un kj) := by rw [fE, fF (by omega) (by omega)]
 have ed : dD ⟨9, d, n, m, a, imm⟩ r f = (gC r d (cO r n * cO r m / 18446744073709551616), f) := by
  unfold dD jN
  simp only [Int.reduceEq, or_false, false_or, or_self, or_true, true_or, if_false, if_true, ↓reduceIte]
 rw [ed]
 clear ed
 simp only
 try rw [← hki]
 generalize cO r d = rd at *
 generalize cO r n = rn at *
 generalize cO r m = rm at *
 generalize cO r a = ra at *
 have o1 : ∀ H, aD (cE.f G (k + 6)) [Un rn, Un rm] H = _ := fun H => aE (H := H) (zS G (k + 5) rn rm ln lm) rfl rfl
 generalize rn * rm / 18446744073709551616 = xx at *
 rw [aM.step]
 unfold aM.c
 rw [kZ, kG]
 have hZ : (List.replicate 31 0 : List Nat).length = 31 := rfl
 have z1 : fG 1 (bT (List.replicate 31 0)) [] = some (eQ (List.replicate 31 0)) := rfl
 have z2 : fG 1 [.bool false, .bool false, .bool false, .bool false] [] = some jO.a := rfl
 have b1 : fI 44 (eQ (List.replicate 31 0)) [] = some (.ptr 0 1 0 0, [⟨44, 31, [eQ (List.replicate 31 0)]⟩]) := mE _ rfl []
 have b2 : fI 53 (.agg [.bool false, .bool false, .bool false, .bool false]) [⟨44, 31, [eQ (List.replicate 31 0)]⟩] = some (.ptr 1 1 0 0, kA (List.replicate 31 0) jO) := rfl
 generalize List.replicate 31 0 = Z at *
 have c0 : ∀ H, dV (eQ r) H = some (.rp false (eQ r) 0, H) := fun H => rfl
 have c1 : ∀ H, dV f.a H = some (.rp false f.a 0, H) := fun H => rfl
 have c2 : ∀ H, aC G true 31 (.rp false (eQ r) 0) H = some (eQ r) := fun H => by
  rw [jU, if_pos (by rw [bN, hr.len]; exact Nat.le_refl _), List.drop_zero, List.take_of_length_le (by rw [bN, hr.len]; exact Nat.le_refl _)]
 have c3 : ∀ H, aC G true 4 (.rp false f.a 0) H = some f.a := fun H => rfl
 have c4 : ∀ q : List Nat, q.length = 31 → fB (aL 31 (.ptr 0 1 0 0) (eQ q) (kA Z jO)) = some (.tup [], kA q jO) := fun q hq => mG hq hZ rfl
 have c5 : ∀ (q : List Nat) (g : FL), fB (aL 4 (.ptr 1 1 0 0) g.a (kA q jO)) = some (.tup [], kA q g) := fun q g => rfl
 have st' := st xx
 have hq := jC r hr.len d xx
 generalize gC r d xx = q at *
 have c4' := c4 q hq
 have c5' := c5 q f
 refine eZ ?_
 have fx := aPQ r1 <| aPQ g1 <| aPQ g2 <| aPQ g3 <| aPQ g4 <| aPQ k1 <| aPQ k2 <| aPQ k3 <| aPQ b1 <| aPQ b2 <| aPQ c0 <| aPQ c1 <| aPQ c2 <| aPQ c3 <| aPQ z1 <| aPQ z2 <| aPQ o1 <| aPQ st' <| aPQ c4' <| c5'
 refine kM ?_
 exact oF (iU G q hq f true)
theorem aKH (G : aG) (k : Nat) (d n m a imm : Int) (hw : aT ⟨10, d, n, m, a, imm⟩ = true) (r : List Nat) (hr : RgOk r) (f : FL) :
  aM.f G (k + 7) [mV 10 d n m a imm, eQ r, f.a] [] = some (pT ((dD ⟨10, d, n, m, a, imm⟩ r f).1, (dD ⟨10, d, n, m, a, imm⟩ r f).2, true), []) := by
 have r1 : ∀ H, aD (aI.f G (k + 6)) [mV 10 d n m a imm] H = _ := fun H => aE (H := H) (hU G k ⟨10, d, n, m, a, imm⟩) rfl rfl
 rw [hw] at r1
 obtain ⟨_, hd, hn, hm, ha, hf⟩ := jG hw
 have himm : 0 ≤ imm ∧ imm < 65536 := by
  unfold aT at hw
  rw [Bool.and_eq_true] at hw
  obtain ⟨_, h⟩ := hw
  simp [aO, fD, gI, dU, gS, fC, dS] at h
  omega
 simp only at hd hn hm ha hf
 clear hw
 have ld := hr.get d
 have ln := hr.get n
 have lm := hr.get m
 have la := hr.get a
 have g : ∀ j, 0 ≤ j → j ≤ 31 → ∀ H, aD (aU.f G (k + 6)) [eQ r, I6 j] H = some (Un (cO r j), H) := fun j h0 h1 H => aE (H := H) (iS G (k + 5) r hr.len j h0 h1) (by simp [eO, bC, gX]) rfl
 have g1 := g d hd.1 hd.2
 have g2 := g n hn.1 hn.2
 have g3 := g m hm.1 hm.2
 have g4 := g a ha.1 ha.2
 clear g
 have st : ∀ x H, aD (aV.f G (k + 6)) [eQ r, I6 d, Un x] H = some (eQ (gC r d x), H) := fun x H => aE (H := H) (iT G (k + 5) r hr.len d hd.1 hd.2 x) (by simp [eO, bC, gX]) (by simp [fZ, kR])
 obtain ⟨ki, hki⟩ : ∃ z, z = u64 imm := ⟨_, rfl⟩
 have hkl : ki < 18446744073709551616 := by rw [hki]; exact jD _
 have hkv : (ki : Int) = imm := by rw [hki]; unfold u64; omega
 have k1 : aJ .u64 (I6 imm) = some (Un ki) := by rw [iG, hki]
 have k2 : aQ Tryd.prog .and 3 true (I6 imm) (.int .i64 63) = some (I6 (imm % 64)) := iZ _ _ _ (by omega) (by omega)
 obtain ⟨kj, hkj⟩ : ∃ z : Nat, (z : Int) = imm % 64 := ⟨(imm % 64).toNat, by omega⟩
 rw [← hkj] at k2
 have k3 : aJ .u64 (Nn kj) = some (Un kj) := by rw [fE, fF (by omega) (by omega)]
 have ed : dD ⟨10, d, n, m, a, imm⟩ r f = (gC r d ((cO r n + u64 imm) % 18446744073709551616), f) := by
  unfold dD jN
  simp only [Int.reduceEq, or_false, false_or, or_self, or_true, true_or, if_false, if_true, ↓reduceIte]
 rw [ed]
 clear ed
 simp only
 try rw [← hki]
 generalize cO r d = rd at *
 generalize cO r n = rn at *
 generalize cO r m = rm at *
 generalize cO r a = ra at *
 have o1 := qN Tryd.prog 43 false rn ki
 generalize (rn + ki) % 18446744073709551616 = xx at *
 rw [aM.step]
 unfold aM.c
 rw [kZ, kG]
 have hZ : (List.replicate 31 0 : List Nat).length = 31 := rfl
 have z1 : fG 1 (bT (List.replicate 31 0)) [] = some (eQ (List.replicate 31 0)) := rfl
 have z2 : fG 1 [.bool false, .bool false, .bool false, .bool false] [] = some jO.a := rfl
 have b1 : fI 44 (eQ (List.replicate 31 0)) [] = some (.ptr 0 1 0 0, [⟨44, 31, [eQ (List.replicate 31 0)]⟩]) := mE _ rfl []
 have b2 : fI 53 (.agg [.bool false, .bool false, .bool false, .bool false]) [⟨44, 31, [eQ (List.replicate 31 0)]⟩] = some (.ptr 1 1 0 0, kA (List.replicate 31 0) jO) := rfl
 generalize List.replicate 31 0 = Z at *
 have c0 : ∀ H, dV (eQ r) H = some (.rp false (eQ r) 0, H) := fun H => rfl
 have c1 : ∀ H, dV f.a H = some (.rp false f.a 0, H) := fun H => rfl
 have c2 : ∀ H, aC G true 31 (.rp false (eQ r) 0) H = some (eQ r) := fun H => by
  rw [jU, if_pos (by rw [bN, hr.len]; exact Nat.le_refl _), List.drop_zero, List.take_of_length_le (by rw [bN, hr.len]; exact Nat.le_refl _)]
 have c3 : ∀ H, aC G true 4 (.rp false f.a 0) H = some f.a := fun H => rfl
 have c4 : ∀ q : List Nat, q.length = 31 → fB (aL 31 (.ptr 0 1 0 0) (eQ q) (kA Z jO)) = some (.tup [], kA q jO) := fun q hq => mG hq hZ rfl
 have c5 : ∀ (q : List Nat) (g : FL), fB (aL 4 (.ptr 1 1 0 0) g.a (kA q jO)) = some (.tup [], kA q g) := fun q g => rfl
 have st' := st xx
 have hq := jC r hr.len d xx
 generalize gC r d xx = q at *
 have c4' := c4 q hq
 have c5' := c5 q f
 refine eZ ?_
 have fx := aPQ r1 <| aPQ g1 <| aPQ g2 <| aPQ g3 <| aPQ g4 <| aPQ k1 <| aPQ k2 <| aPQ k3 <| aPQ b1 <| aPQ b2 <| aPQ c0 <| aPQ c1 <| aPQ c2 <| aPQ c3 <| aPQ z1 <| aPQ z2 <| aPQ o1 <| aPQ st' <| aPQ c4' <| c5'
 refine kM ?_
 exact oF (iU G q hq f true)
theorem aLG (G : aG) (k : Nat) (d n m a imm : Int) (hw : aT ⟨11, d, n, m, a, imm⟩ = true) (r : List Nat) (hr : RgOk r) (f : FL) :
  aM.f G (k + 7) [mV 11 d n m a imm, eQ r, f.a] [] = some (pT ((dD ⟨11, d, n, m, a, imm⟩ r f).1, (dD ⟨11, d, n, m, a, imm⟩ r f).2, true), []) := by
 have r1 : ∀ H, aD (aI.f G (k + 6)) [mV 11 d n m a imm] H = _ := fun H => aE (H := H) (hU G k ⟨11, d, n, m, a, imm⟩) rfl rfl
 rw [hw] at r1
 obtain ⟨_, hd, hn, hm, ha, hf⟩ := jG hw
 have himm : 0 ≤ imm ∧ imm < 65536 := by
  unfold aT at hw
  rw [Bool.and_eq_true] at hw
  obtain ⟨_, h⟩ := hw
  simp [aO, fD, gI, dU, gS, fC, dS] at h
  omega
 simp only at hd hn hm ha hf
 clear hw
 have ld := hr.get d
 have ln := hr.get n
 have lm := hr.get m
 have la := hr.get a
 have g : ∀ j, 0 ≤ j → j ≤ 31 → ∀ H, aD (aU.f G (k + 6)) [eQ r, I6 j] H = some (Un (cO r j), H) := fun j h0 h1 H => aE (H := H) (iS G (k + 5) r hr.len j h0 h1) (by simp [eO, bC, gX]) rfl
 have g1 := g d hd.1 hd.2
 have g2 := g n hn.1 hn.2
 have g3 := g m hm.1 hm.2
 have g4 := g a ha.1 ha.2
 clear g
 have st : ∀ x H, aD (aV.f G (k + 6)) [eQ r, I6 d, Un x] H = some (eQ (gC r d x), H) := fun x H => aE (H := H) (iT G (k + 5) r hr.len d hd.1 hd.2 x) (by simp [eO, bC, gX]) (by simp [fZ, kR])
 obtain ⟨ki, hki⟩ : ∃ z, z = u64 imm := ⟨_, rfl⟩
 have hkl : ki < 18446744073709551616 := by rw [hki]; exact jD _
 have hkv : (ki : Int) = imm := by rw [hki]; unfold u64; omega
 have k1 : aJ .u64 (I6 imm) = some (Un ki) := by rw [iG, hki]
 have k2 : aQ Tryd.prog .and 3 true (I6 imm) (.int .i64 63) = some (I6 (imm % 64)) := iZ _ _ _ (by omega) (by omega)
 obtain ⟨kj, hkj⟩ : ∃ z : Nat, (z : Int) = imm % 64 := ⟨(imm % 64).toNat, by omega⟩
 rw [← hkj] at k2
 have k3 : aJ .u64 (Nn kj) = some (Un kj) := by rw [fE, fF (by omega) (by omega)]
 have ed : dD ⟨11, d, n, m, a, imm⟩ r f = (gC r d ((cO r n + 18446744073709551616 - u64 imm) % 18446744073709551616), f) := by
  unfold dD jN
  simp only [Int.reduceEq, or_false, false_or, or_self, or_true, true_or, if_false, if_true, ↓reduceIte]
 rw [ed]
 clear ed
 simp only
 try rw [← hki]
 generalize cO r d = rd at *
 generalize cO r n = rn at *
 generalize cO r m = rm at *
 generalize cO r a = ra at *
 have o1 := zL Tryd.prog 43 false rn ki hkl
 generalize (rn + 18446744073709551616 - ki) % 18446744073709551616 = xx at *
 rw [aM.step]
 unfold aM.c
 rw [kZ, kG]
 have hZ : (List.replicate 31 0 : List Nat).length = 31 := rfl
 have z1 : fG 1 (bT (List.replicate 31 0)) [] = some (eQ (List.replicate 31 0)) := rfl
 have z2 : fG 1 [.bool false, .bool false, .bool false, .bool false] [] = some jO.a := rfl
 have b1 : fI 44 (eQ (List.replicate 31 0)) [] = some (.ptr 0 1 0 0, [⟨44, 31, [eQ (List.replicate 31 0)]⟩]) := mE _ rfl []
 have b2 : fI 53 (.agg [.bool false, .bool false, .bool false, .bool false]) [⟨44, 31, [eQ (List.replicate 31 0)]⟩] = some (.ptr 1 1 0 0, kA (List.replicate 31 0) jO) := rfl
 generalize List.replicate 31 0 = Z at *
 have c0 : ∀ H, dV (eQ r) H = some (.rp false (eQ r) 0, H) := fun H => rfl
 have c1 : ∀ H, dV f.a H = some (.rp false f.a 0, H) := fun H => rfl
 have c2 : ∀ H, aC G true 31 (.rp false (eQ r) 0) H = some (eQ r) := fun H => by
  rw [jU, if_pos (by rw [bN, hr.len]; exact Nat.le_refl _), List.drop_zero, List.take_of_length_le (by rw [bN, hr.len]; exact Nat.le_refl _)]
 have c3 : ∀ H, aC G true 4 (.rp false f.a 0) H = some f.a := fun H => rfl
 have c4 : ∀ q : List Nat, q.length = 31 → fB (aL 31 (.ptr 0 1 0 0) (eQ q) (kA Z jO)) = some (.tup [], kA q jO) := fun q hq => mG hq hZ rfl
 have c5 : ∀ (q : List Nat) (g : FL), fB (aL 4 (.ptr 1 1 0 0) g.a (kA q jO)) = some (.tup [], kA q g) := fun q g => rfl
 have st' := st xx
 have hq := jC r hr.len d xx
 generalize gC r d xx = q at *
 have c4' := c4 q hq
 have c5' := c5 q f
 refine eZ ?_
 have fx := aPQ r1 <| aPQ g1 <| aPQ g2 <| aPQ g3 <| aPQ g4 <| aPQ k1 <| aPQ k2 <| aPQ k3 <| aPQ b1 <| aPQ b2 <| aPQ c0 <| aPQ c1 <| aPQ c2 <| aPQ c3 <| aPQ z1 <| aPQ z2 <| aPQ o1 <| aPQ st' <| aPQ c4' <| c5'
 refine kM ?_
 exact oF (iU G q hq f true)
theorem aKo (G : aG) (k : Nat) (d n m a imm : Int) (hw : aT ⟨12, d, n, m, a, imm⟩ = true) (r : List Nat) (hr : RgOk r) (f : FL) :
  aM.f G (k + 7) [mV 12 d n m a imm, eQ r, f.a] [] = some (pT ((dD ⟨12, d, n, m, a, imm⟩ r f).1, (dD ⟨12, d, n, m, a, imm⟩ r f).2, true), []) := by
 have r1 : ∀ H, aD (aI.f G (k + 6)) [mV 12 d n m a imm] H = _ := fun H => aE (H := H) (hU G k ⟨12, d, n, m, a, imm⟩) rfl rfl
 rw [hw] at r1
 obtain ⟨_, hd, hn, hm, ha, hf⟩ := jG hw
 have himm : 0 ≤ imm ∧ imm < 65536 := by
  unfold aT at hw
  rw [Bool.and_eq_true] at hw
  obtain ⟨_, h⟩ := hw
  simp [aO, fD, gI, dU, gS, fC, dS] at h
  omega
 simp only at hd hn hm ha hf
 clear hw
 have ld := hr.get d
 have ln := hr.get n
 have lm := hr.get m
 have la := hr.get a
 have g : ∀ j, 0 ≤ j → j ≤ 31 → ∀ H, aD (aU.f G (k + 6)) [eQ r, I6 j] H = some (Un (cO r j), H) := fun j h0 h1 H => aE (H := H) (iS G (k + 5) r hr.len j h0 h1) (by simp [eO, bC, gX]) rfl
 have g1 := g d hd.1 hd.2
 have g2 := g n hn.1 hn.2
 have g3 := g m hm.1 hm.2
 have g4 := g a ha.1 ha.2
 clear g
 have st : ∀ x H, aD (aV.f G (k + 6)) [eQ r, I6 d, Un x] H = some (eQ (gC r d x), H) := fun x H => aE (H := H) (iT G (k + 5) r hr.len d hd.1 hd.2 x) (by simp [eO, bC, gX]) (by simp [fZ, kR])
 obtain ⟨ki, hki⟩ : ∃ z, z = u64 imm := ⟨_, rfl⟩
 have hkl : ki < 18446744073709551616 := by rw [hki]; exact jD _
 have hkv : (ki : Int) = imm := by rw [hki]; unfold u64; omega
 have k1 : aJ .u64 (I6 imm) = some (Un ki) := by rw [iG, hki]
 have k2 : aQ Tryd.prog .and 3 true (I6 imm) (.int .i64 63) = some (I6 (imm % 64)) := iZ _ _ _ (by omega) (by omega)
 obtain ⟨kj, hkj⟩ : ∃ z : Nat, (z : Int) = imm % 64 := ⟨(imm % 64).toNat, by omega⟩
 rw [← hkj] at k2
 have k3 : aJ .u64 (Nn kj) = some (Un kj) := by rw [fE, fF (by omega) (by omega)]
 have ed : dD ⟨12, d, n, m, a, imm⟩ r f = (gC r d (cO r n * 2 ^ (u64 imm) % 18446744073709551616), f) := by
  unfold dD jN
  simp only [Int.reduceEq, or_false, false_or, or_self, or_true, true_or, if_false, if_true, ↓reduceIte]
 rw [ed]
 clear ed
 simp only
 try rw [← hki]
 generalize cO r d = rd at *
 generalize cO r n = rn at *
 generalize cO r m = rm at *
 generalize cO r a = ra at *
 have hi := hf.2 (by omega) (by omega)
 have ej : kj = ki := by omega
 subst ej
 have o1 := uW Tryd.prog 43 false .u64 rn kj (by omega)
 generalize rn * 2 ^ kj % 18446744073709551616 = xx at *
 rw [aM.step]
 unfold aM.c
 rw [kZ, kG]
 have hZ : (List.replicate 31 0 : List Nat).length = 31 := rfl
 have z1 : fG 1 (bT (List.replicate 31 0)) [] = some (eQ (List.replicate 31 0)) := rfl
 have z2 : fG 1 [.bool false, .bool false, .bool false, .bool false] [] = some jO.a := rfl
 have b1 : fI 44 (eQ (List.replicate 31 0)) [] = some (.ptr 0 1 0 0, [⟨44, 31, [eQ (List.replicate 31 0)]⟩]) := mE _ rfl []
 have b2 : fI 53 (.agg [.bool false, .bool false, .bool false, .bool false]) [⟨44, 31, [eQ (List.replicate 31 0)]⟩] = some (.ptr 1 1 0 0, kA (List.replicate 31 0) jO) := rfl
 generalize List.replicate 31 0 = Z at *
 have c0 : ∀ H, dV (eQ r) H = some (.rp false (eQ r) 0, H) := fun H => rfl
 have c1 : ∀ H, dV f.a H = some (.rp false f.a 0, H) := fun H => rfl
 have c2 : ∀ H, aC G true 31 (.rp false (eQ r) 0) H = some (eQ r) := fun H => by
  rw [jU, if_pos (by rw [bN, hr.len]; exact Nat.le_refl _), List.drop_zero, List.take_of_length_le (by rw [bN, hr.len]; exact Nat.le_refl _)]
 have c3 : ∀ H, aC G true 4 (.rp false f.a 0) H = some f.a := fun H => rfl
 have c4 : ∀ q : List Nat, q.length = 31 → fB (aL 31 (.ptr 0 1 0 0) (eQ q) (kA Z jO)) = some (.tup [], kA q jO) := fun q hq => mG hq hZ rfl
 have c5 : ∀ (q : List Nat) (g : FL), fB (aL 4 (.ptr 1 1 0 0) g.a (kA q jO)) = some (.tup [], kA q g) := fun q g => rfl
 have st' := st xx
 have hq := jC r hr.len d xx
 generalize gC r d xx = q at *
 have c4' := c4 q hq
 have c5' := c5 q f
 refine eZ ?_
 have fx := aPQ r1 <| aPQ g1 <| aPQ g2 <| aPQ g3 <| aPQ g4 <| aPQ k1 <| aPQ k2 <| aPQ k3 <| aPQ b1 <| aPQ b2 <| aPQ c0 <| aPQ c1 <| aPQ c2 <| aPQ c3 <| aPQ z1 <| aPQ z2 <| aPQ o1 <| aPQ st' <| aPQ c4' <| c5'
 refine kM ?_
 exact oF (iU G q hq f true)
theorem aLe (G : aG) (k : Nat) (d n m a imm : Int) (hw : aT ⟨13, d, n, m, a, imm⟩ = true) (r : List Nat) (hr : RgOk r) (f : FL) :
  aM.f G (k + 7) [mV 13 d n m a imm, eQ r, f.a] [] = some (pT ((dD ⟨13, d, n, m, a, imm⟩ r f).1, (dD ⟨13, d, n, m, a, imm⟩ r f).2, true), []) := by
 have r1 : ∀ H, aD (aI.f G (k + 6)) [mV 13 d n m a imm] H = _ := fun H => aE (H := H) (hU G k ⟨13, d, n, m, a, imm⟩) rfl rfl
 rw [hw] at r1
 obtain ⟨_, hd, hn, hm, ha, hf⟩ := jG hw
 have himm : 0 ≤ imm ∧ imm < 65536 := by
  unfold aT at hw
  rw [Bool.and_eq_true] at hw
  obtain ⟨_, h⟩ := hw
  simp [aO, fD, gI, dU, gS, fC, dS] at h
  omega
 simp only at hd hn hm ha hf
 clear hw
 have ld := hr.get d
 have ln := hr.get n
 have lm := hr.get m
 have la := hr.get a
 have g : ∀ j, 0 ≤ j → j ≤ 31 → ∀ H, aD (aU.f G (k + 6)) [eQ r, I6 j] H = some (Un (cO r j), H) := fun j h0 h1 H => aE (H := H) (iS G (k + 5) r hr.len j h0 h1) (by simp [eO, bC, gX]) rfl
 have g1 := g d hd.1 hd.2
 have g2 := g n hn.1 hn.2
 have g3 := g m hm.1 hm.2
 have g4 := g a ha.1 ha.2
 clear g
 have st : ∀ x H, aD (aV.f G (k + 6)) [eQ r, I6 d, Un x] H = some (eQ (gC r d x), H) := fun x H => aE (H := H) (iT G (k + 5) r hr.len d hd.1 hd.2 x) (by simp [eO, bC, gX]) (by simp [fZ, kR])
 obtain ⟨ki, hki⟩ : ∃ z, z = u64 imm := ⟨_, rfl⟩
 have hkl : ki < 18446744073709551616 := by rw [hki]; exact jD _
 have hkv : (ki : Int) = imm := by rw [hki]; unfold u64; omega
 have k1 : aJ .u64 (I6 imm) = some (Un ki) := by rw [iG, hki]
 have k2 : aQ Tryd.prog .and 3 true (I6 imm) (.int .i64 63) = some (I6 (imm % 64)) := iZ _ _ _ (by omega) (by omega)
 obtain ⟨kj, hkj⟩ : ∃ z : Nat, (z : Int) = imm % 64 := ⟨(imm % 64).toNat, by omega⟩
 rw [← hkj] at k2
 have k3 : aJ .u64 (Nn kj) = some (Un kj) := by rw [fE, fF (by omega) (by omega)]
 have ed : dD ⟨13, d, n, m, a, imm⟩ r f = (gC r d (cO r n / 2 ^ (u64 imm)), f) := by
  unfold dD jN
  simp only [Int.reduceEq, or_false, false_or, or_self, or_true, true_or, if_false, if_true, ↓reduceIte]
 rw [ed]
 clear ed
 simp only
 try rw [← hki]
 generalize cO r d = rd at *
 generalize cO r n = rn at *
 generalize cO r m = rm at *
 generalize cO r a = ra at *
 have hi := hf.2 (by omega) (by omega)
 have ej : kj = ki := by omega
 subst ej
 have o1 := sM Tryd.prog 43 false .u64 rn kj (by omega)
 generalize rn / 2 ^ kj = xx at *
 rw [aM.step]
 unfold aM.c
 rw [kZ, kG]
 have hZ : (List.replicate 31 0 : List Nat).length = 31 := rfl
 have z1 : fG 1 (bT (List.replicate 31 0)) [] = some (eQ (List.replicate 31 0)) := rfl
 have z2 : fG 1 [.bool false, .bool false, .bool false, .bool false] [] = some jO.a := rfl
 have b1 : fI 44 (eQ (List.replicate 31 0)) [] = some (.ptr 0 1 0 0, [⟨44, 31, [eQ (List.replicate 31 0)]⟩]) := mE _ rfl []
 have b2 : fI 53 (.agg [.bool false, .bool false, .bool false, .bool false]) [⟨44, 31, [eQ (List.replicate 31 0)]⟩] = some (.ptr 1 1 0 0, kA (List.replicate 31 0) jO) := rfl
 generalize List.replicate 31 0 = Z at *
 have c0 : ∀ H, dV (eQ r) H = some (.rp false (eQ r) 0, H) := fun H => rfl
 have c1 : ∀ H, dV f.a H = some (.rp false f.a 0, H) := fun H => rfl
 have c2 : ∀ H, aC G true 31 (.rp false (eQ r) 0) H = some (eQ r) := fun H => by
  rw [jU, if_pos (by rw [bN, hr.len]; exact Nat.le_refl _), List.drop_zero, List.take_of_length_le (by rw [bN, hr.len]; exact Nat.le_refl _)]
 have c3 : ∀ H, aC G true 4 (.rp false f.a 0) H = some f.a := fun H => rfl
 have c4 : ∀ q : List Nat, q.length = 31 → fB (aL 31 (.ptr 0 1 0 0) (eQ q) (kA Z jO)) = some (.tup [], kA q jO) := fun q hq => mG hq hZ rfl
 have c5 : ∀ (q : List Nat) (g : FL), fB (aL 4 (.ptr 1 1 0 0) g.a (kA q jO)) = some (.tup [], kA q g) := fun q g => rfl
 have st' := st xx
 have hq := jC r hr.len d xx
 generalize gC r d xx = q at *
 have c4' := c4 q hq
 have c5' := c5 q f
 refine eZ ?_
 have fx := aPQ r1 <| aPQ g1 <| aPQ g2 <| aPQ g3 <| aPQ g4 <| aPQ k1 <| aPQ k2 <| aPQ k3 <| aPQ b1 <| aPQ b2 <| aPQ c0 <| aPQ c1 <| aPQ c2 <| aPQ c3 <| aPQ z1 <| aPQ z2 <| aPQ o1 <| aPQ st' <| aPQ c4' <| c5'
 refine kM ?_
 exact oF (iU G q hq f true)
theorem aKN (G : aG) (k : Nat) (d n m a imm : Int) (hw : aT ⟨14, d, n, m, a, imm⟩ = true) (r : List Nat) (hr : RgOk r) (f : FL) :
  aM.f G (k + 7) [mV 14 d n m a imm, eQ r, f.a] [] = some (pT ((dD ⟨14, d, n, m, a, imm⟩ r f).1, (dD ⟨14, d, n, m, a, imm⟩ r f).2, true), []) := by
 have r1 : ∀ H, aD (aI.f G (k + 6)) [mV 14 d n m a imm] H = _ := fun H => aE (H := H) (hU G k ⟨14, d, n, m, a, imm⟩) rfl rfl
 rw [hw] at r1
 obtain ⟨_, hd, hn, hm, ha, hf⟩ := jG hw
 have himm : 0 ≤ imm ∧ imm < 65536 := by
  unfold aT at hw
  rw [Bool.and_eq_true] at hw
  obtain ⟨_, h⟩ := hw
  simp [aO, fD, gI, dU, gS, fC, dS] at h
  omega
 simp only at hd hn hm ha hf
 clear hw
 have ld := hr.get d
 have ln := hr.get n
 have lm := hr.get m
 have la := hr.get a
 have g : ∀ j, 0 ≤ j → j ≤ 31 → ∀ H, aD (aU.f G (k + 6)) [eQ r, I6 j] H = some (Un (cO r j), H) := fun j h0 h1 H => aE (H := H) (iS G (k + 5) r hr.len j h0 h1) (by simp [eO, bC, gX]) rfl
 have g1 := g d hd.1 hd.2
 have g2 := g n hn.1 hn.2
 have g3 := g m hm.1 hm.2
 have g4 := g a ha.1 ha.2
 clear g
 have st : ∀ x H, aD (aV.f G (k + 6)) [eQ r, I6 d, Un x] H = some (eQ (gC r d x), H) := fun x H => aE (H := H) (iT G (k + 5) r hr.len d hd.1 hd.2 x) (by simp [eO, bC, gX]) (by simp [fZ, kR])
 obtain ⟨ki, hki⟩ : ∃ z, z = u64 imm := ⟨_, rfl⟩
 have hkl : ki < 18446744073709551616 := by rw [hki]; exact jD _
 have hkv : (ki : Int) = imm := by rw [hki]; unfold u64; omega
 have k1 : aJ .u64 (I6 imm) = some (Un ki) := by rw [iG, hki]
 have k2 : aQ Tryd.prog .and 3 true (I6 imm) (.int .i64 63) = some (I6 (imm % 64)) := iZ _ _ _ (by omega) (by omega)
 obtain ⟨kj, hkj⟩ : ∃ z : Nat, (z : Int) = imm % 64 := ⟨(imm % 64).toNat, by omega⟩
 rw [← hkj] at k2
 have k3 : aJ .u64 (Nn kj) = some (Un kj) := by rw [fE, fF (by omega) (by omega)]
 have ed : dD ⟨14, d, n, m, a, imm⟩ r f = (gC r d (aCw (cO r n) (u64 imm)), f) := by
  unfold dD jN
  simp only [Int.reduceEq, or_false, false_or, or_self, or_true, true_or, if_false, if_true, ↓reduceIte]
 rw [ed]
 clear ed
 simp only
 try rw [← hki]
 generalize cO r d = rd at *
 generalize cO r n = rn at *
 generalize cO r m = rm at *
 generalize cO r a = ra at *
 have hi := hf.2 (by omega) (by omega)
 have ej : kj = ki := by omega
 subst ej
 have o1 := uS rn ln
 have o2 : aQ Tryd.prog .shr 2 false (I6 (mT rn)) (Un kj) = some (I6 ((mT rn).fdiv (2 ^ kj))) := by
  rw [zA _ _ _ _ _ _ _ (Int.natCast_nonneg kj)]
  have e : min ((kj : Int)).toNat IntKind.i64.bits = kj := by rw [Int.toNat_natCast]; exact Nat.min_eq_left (by have : IntKind.i64.bits = 64 := rfl; omega)
  rw [e]
 have o3 := iG .i64 ((mT rn).fdiv (2 ^ kj))
 have hq : u64 ((mT rn).fdiv (2 ^ kj)) = aCw rn kj := rfl
 rw [hq] at o3
 clear hq
 generalize aCw rn kj = xx at *
 generalize (mT rn).fdiv (2 ^ kj) = yy at *
 rw [aM.step]
 unfold aM.c
 rw [kZ, kG]
 have hZ : (List.replicate 31 0 : List Nat).length = 31 := rfl
 have z1 : fG 1 (bT (List.replicate 31 0)) [] = some (eQ (List.replicate 31 0)) := rfl
 have z2 : fG 1 [.bool false, .bool false, .bool false, .bool false] [] = some jO.a := rfl
 have b1 : fI 44 (eQ (List.replicate 31 0)) [] = some (.ptr 0 1 0 0, [⟨44, 31, [eQ (List.replicate 31 0)]⟩]) := mE _ rfl []
 have b2 : fI 53 (.agg [.bool false, .bool false, .bool false, .bool false]) [⟨44, 31, [eQ (List.replicate 31 0)]⟩] = some (.ptr 1 1 0 0, kA (List.replicate 31 0) jO) := rfl
 generalize List.replicate 31 0 = Z at *
 have c0 : ∀ H, dV (eQ r) H = some (.rp false (eQ r) 0, H) := fun H => rfl
 have c1 : ∀ H, dV f.a H = some (.rp false f.a 0, H) := fun H => rfl
 have c2 : ∀ H, aC G true 31 (.rp false (eQ r) 0) H = some (eQ r) := fun H => by
  rw [jU, if_pos (by rw [bN, hr.len]; exact Nat.le_refl _), List.drop_zero, List.take_of_length_le (by rw [bN, hr.len]; exact Nat.le_refl _)]
 have c3 : ∀ H, aC G true 4 (.rp false f.a 0) H = some f.a := fun H => rfl
 have c4 : ∀ q : List Nat, q.length = 31 → fB (aL 31 (.ptr 0 1 0 0) (eQ q) (kA Z jO)) = some (.tup [], kA q jO) := fun q hq => mG hq hZ rfl
 have c5 : ∀ (q : List Nat) (g : FL), fB (aL 4 (.ptr 1 1 0 0) g.a (kA q jO)) = some (.tup [], kA q g) := fun q g => rfl
 have st' := st xx
 have hq := jC r hr.len d xx
 generalize gC r d xx = q at *
 have c4' := c4 q hq
 have c5' := c5 q f
 refine eZ ?_
 have fx := aPQ r1 <| aPQ g1 <| aPQ g2 <| aPQ g3 <| aPQ g4 <| aPQ k1 <| aPQ k2 <| aPQ k3 <| aPQ b1 <| aPQ b2 <| aPQ c0 <| aPQ c1 <| aPQ c2 <| aPQ c3 <| aPQ z1 <| aPQ z2 <| aPQ o1 <| aPQ o2 <| aPQ o3 <| aPQ st' <| aPQ c4' <| c5'
 refine kM ?_
 exact oF (iU G q hq f true)
theorem aLu (G : aG) (k : Nat) (d n m a imm : Int) (hw : aT ⟨15, d, n, m, a, imm⟩ = true) (r : List Nat) (hr : RgOk r) (f : FL) :
  aM.f G (k + 7) [mV 15 d n m a imm, eQ r, f.a] [] = some (pT ((dD ⟨15, d, n, m, a, imm⟩ r f).1, (dD ⟨15, d, n, m, a, imm⟩ r f).2, true), []) := by
 have r1 : ∀ H, aD (aI.f G (k + 6)) [mV 15 d n m a imm] H = _ := fun H => aE (H := H) (hU G k ⟨15, d, n, m, a, imm⟩) rfl rfl
 rw [hw] at r1
 obtain ⟨_, hd, hn, hm, ha, hf⟩ := jG hw
 have himm : 0 ≤ imm ∧ imm < 65536 := by
  unfold aT at hw
  rw [Bool.and_eq_true] at hw
  obtain ⟨_, h⟩ := hw
  simp [aO, fD, gI, dU, gS, fC, dS] at h
  omega
 simp only at hd hn hm ha hf
 clear hw
 have ld := hr.get d
 have ln := hr.get n
 have lm := hr.get m
 have la := hr.get a
 have g : ∀ j, 0 ≤ j → j ≤ 31 → ∀ H, aD (aU.f G (k + 6)) [eQ r, I6 j] H = some (Un (cO r j), H) := fun j h0 h1 H => aE (H := H) (iS G (k + 5) r hr.len j h0 h1) (by simp [eO, bC, gX]) rfl
 have g1 := g d hd.1 hd.2
 have g2 := g n hn.1 hn.2
 have g3 := g m hm.1 hm.2
 have g4 := g a ha.1 ha.2
 clear g
 have st : ∀ x H, aD (aV.f G (k + 6)) [eQ r, I6 d, Un x] H = some (eQ (gC r d x), H) := fun x H => aE (H := H) (iT G (k + 5) r hr.len d hd.1 hd.2 x) (by simp [eO, bC, gX]) (by simp [fZ, kR])
 obtain ⟨ki, hki⟩ : ∃ z, z = u64 imm := ⟨_, rfl⟩
 have hkl : ki < 18446744073709551616 := by rw [hki]; exact jD _
 have hkv : (ki : Int) = imm := by rw [hki]; unfold u64; omega
 have k1 : aJ .u64 (I6 imm) = some (Un ki) := by rw [iG, hki]
 have k2 : aQ Tryd.prog .and 3 true (I6 imm) (.int .i64 63) = some (I6 (imm % 64)) := iZ _ _ _ (by omega) (by omega)
 obtain ⟨kj, hkj⟩ : ∃ z : Nat, (z : Int) = imm % 64 := ⟨(imm % 64).toNat, by omega⟩
 rw [← hkj] at k2
 have k3 : aJ .u64 (Nn kj) = some (Un kj) := by rw [fE, fF (by omega) (by omega)]
 have ed : dD ⟨15, d, n, m, a, imm⟩ r f = (r, tH (cO r n) (cO r m)) := rfl
 rw [ed]
 clear ed
 simp only
 generalize cO r d = rd at *
 generalize cO r n = rn at *
 generalize cO r m = rm at *
 generalize cO r a = ra at *
 unfold tH
 have k1' := zL Tryd.prog 43 false rn rm lm
 obtain ⟨x, hx⟩ : ∃ x, x = (rn + 18446744073709551616 - rm) % 18446744073709551616 := ⟨_, rfl⟩
 have hxl : x < 18446744073709551616 := by omega
 rw [← hx] at k1' ⊢
 unfold aGk
 have k2' : aQ Tryd.prog .shr 43 true (Un x) (.int .u64 63) = some (Un (x / 2 ^ 63)) := sM Tryd.prog 43 true .u64 x 63 (by omega)
 have k3' : aQ Tryd.prog .eql 43 true (Un (x / 2 ^ 63)) (.int .u64 1) = some (.bool (decide (x / 2 ^ 63 = 1))) := by rw [kV]; congr 2; simp only [decide_eq_decide]; omega
 have k4' : aQ Tryd.prog .eql 43 true (Un x) (.int .u64 0) = some (.bool (decide (x = 0))) := by rw [kV]; congr 2; simp only [decide_eq_decide]; omega
 have k5' : aQ Tryd.prog .geq 43 false (Un rn) (Un rm) = some (.bool (decide (rm ≤ rn))) := by rw [mH]; congr 2; simp only [decide_eq_decide]; omega
 have k6' : aQ Tryd.prog .xor 43 false (Un rn) (Un rm) = some (Un (rn ^^^ rm)) := by rw [zH, zB rn rm ln lm]
 have k7' : aQ Tryd.prog .xor 43 false (Un rn) (Un x) = some (Un (rn ^^^ x)) := by rw [zH, zB rn x ln hxl]
 have l6 : rn ^^^ rm < 2 ^ 64 := Nat.xor_lt_two_pow ln lm
 have l7 : rn ^^^ x < 2 ^ 64 := Nat.xor_lt_two_pow ln hxl
 obtain ⟨y, hy⟩ : ∃ y, y = (rn ^^^ rm) &&& (rn ^^^ x) := ⟨_, rfl⟩
 have k8' : aQ Tryd.prog .and 43 false (Un (rn ^^^ rm)) (Un (rn ^^^ x)) = some (Un y) := by rw [pJ, uO _ _ (by omega) (by omega), hy]
 rw [← hy]
 have k9' : aQ Tryd.prog .shr 43 true (Un y) (.int .u64 63) = some (Un (y / 2 ^ 63)) := sM Tryd.prog 43 true .u64 y 63 (by omega)
 have k10' : aQ Tryd.prog .eql 43 true (Un (y / 2 ^ 63)) (.int .u64 1) = some (.bool (decide (y / 2 ^ 63 = 1))) := by rw [kV]; congr 2; simp only [decide_eq_decide]; omega
 have x2 : ∀ p q r s, fG 1 [.bool false, .bool false, .bool false, .bool false] [(0, .bool p), (1, .bool q), (2, .bool r), (3, .bool s)] = some (FL.a ⟨p, q, r, s⟩) := fun p q r s => rfl
 clear hx hy l6 l7 hxl
 generalize rn ^^^ rm = z1' at *
 generalize rn ^^^ x = z2' at *
 generalize decide (x / 2 ^ 63 = 1) = t1 at *
 generalize decide (x = 0) = t2 at *
 generalize decide (rm ≤ rn) = t3 at *
 generalize decide (y / 2 ^ 63 = 1) = t4 at *
 generalize x / 2 ^ 63 = z3' at *
 generalize y / 2 ^ 63 = z4' at *
 obtain ⟨ff, hff⟩ : ∃ ff : FL, ff = ⟨t1, t2, t3, t4⟩ := ⟨_, rfl⟩
 have x3 := x2 t1 t2 t3 t4
 rw [← hff] at x3 ⊢
 clear x2 hff
 rw [aM.step]
 unfold aM.c
 rw [kZ, kG]
 have hZ : (List.replicate 31 0 : List Nat).length = 31 := rfl
 have z1 : fG 1 (bT (List.replicate 31 0)) [] = some (eQ (List.replicate 31 0)) := rfl
 have z2 : fG 1 [.bool false, .bool false, .bool false, .bool false] [] = some jO.a := rfl
 have b1 : fI 44 (eQ (List.replicate 31 0)) [] = some (.ptr 0 1 0 0, [⟨44, 31, [eQ (List.replicate 31 0)]⟩]) := mE _ rfl []
 have b2 : fI 53 (.agg [.bool false, .bool false, .bool false, .bool false]) [⟨44, 31, [eQ (List.replicate 31 0)]⟩] = some (.ptr 1 1 0 0, kA (List.replicate 31 0) jO) := rfl
 generalize List.replicate 31 0 = Z at *
 have c0 : ∀ H, dV (eQ r) H = some (.rp false (eQ r) 0, H) := fun H => rfl
 have c1 : ∀ H, dV f.a H = some (.rp false f.a 0, H) := fun H => rfl
 have c2 : ∀ H, aC G true 31 (.rp false (eQ r) 0) H = some (eQ r) := fun H => by
  rw [jU, if_pos (by rw [bN, hr.len]; exact Nat.le_refl _), List.drop_zero, List.take_of_length_le (by rw [bN, hr.len]; exact Nat.le_refl _)]
 have c3 : ∀ H, aC G true 4 (.rp false f.a 0) H = some f.a := fun H => rfl
 have c4 : ∀ q : List Nat, q.length = 31 → fB (aL 31 (.ptr 0 1 0 0) (eQ q) (kA Z jO)) = some (.tup [], kA q jO) := fun q hq => mG hq hZ rfl
 have c5 : ∀ (q : List Nat) (g : FL), fB (aL 4 (.ptr 1 1 0 0) g.a (kA q jO)) = some (.tup [], kA q g) := fun q g => rfl
 have c4' := c4 r hr.len
 have c5' := c5 r ff
 refine eZ ?_
 have fx := aPQ r1 <| aPQ g1 <| aPQ g2 <| aPQ g3 <| aPQ g4 <| aPQ k1 <| aPQ k2 <| aPQ k3 <| aPQ b1 <| aPQ b2 <| aPQ c0 <| aPQ c1 <| aPQ c2 <| aPQ c3 <| aPQ z1 <| aPQ z2 <| aPQ k1' <| aPQ k2' <| aPQ k3' <| aPQ k4' <| aPQ k5' <| aPQ k6' <| aPQ k7' <| aPQ k8' <| aPQ k9' <| aPQ k10' <| aPQ x3 <| aPQ c4' <| c5'
 refine kM ?_
 exact oF (iU G r hr.len ff true)
theorem aKB (G : aG) (k : Nat) (d n m a imm : Int) (hw : aT ⟨16, d, n, m, a, imm⟩ = true) (r : List Nat) (hr : RgOk r) (f : FL) :
  aM.f G (k + 7) [mV 16 d n m a imm, eQ r, f.a] [] = some (pT ((dD ⟨16, d, n, m, a, imm⟩ r f).1, (dD ⟨16, d, n, m, a, imm⟩ r f).2, true), []) := by
 have r1 : ∀ H, aD (aI.f G (k + 6)) [mV 16 d n m a imm] H = _ := fun H => aE (H := H) (hU G k ⟨16, d, n, m, a, imm⟩) rfl rfl
 rw [hw] at r1
 obtain ⟨_, hd, hn, hm, ha, hf⟩ := jG hw
 have himm : 0 ≤ imm ∧ imm < 65536 := by
  unfold aT at hw
  rw [Bool.and_eq_true] at hw
  obtain ⟨_, h⟩ := hw
  simp [aO, fD, gI, dU, gS, fC, dS] at h
  omega
 simp only at hd hn hm ha hf
 clear hw
 have ld := hr.get d
 have ln := hr.get n
 have lm := hr.get m
 have la := hr.get a
 have g : ∀ j, 0 ≤ j → j ≤ 31 → ∀ H, aD (aU.f G (k + 6)) [eQ r, I6 j] H = some (Un (cO r j), H) := fun j h0 h1 H => aE (H := H) (iS G (k + 5) r hr.len j h0 h1) (by simp [eO, bC, gX]) rfl
 have g1 := g d hd.1 hd.2
 have g2 := g n hn.1 hn.2
 have g3 := g m hm.1 hm.2
 have g4 := g a ha.1 ha.2
 clear g
 have st : ∀ x H, aD (aV.f G (k + 6)) [eQ r, I6 d, Un x] H = some (eQ (gC r d x), H) := fun x H => aE (H := H) (iT G (k + 5) r hr.len d hd.1 hd.2 x) (by simp [eO, bC, gX]) (by simp [fZ, kR])
 obtain ⟨ki, hki⟩ : ∃ z, z = u64 imm := ⟨_, rfl⟩
 have hkl : ki < 18446744073709551616 := by rw [hki]; exact jD _
 have hkv : (ki : Int) = imm := by rw [hki]; unfold u64; omega
 have k1 : aJ .u64 (I6 imm) = some (Un ki) := by rw [iG, hki]
 have k2 : aQ Tryd.prog .and 3 true (I6 imm) (.int .i64 63) = some (I6 (imm % 64)) := iZ _ _ _ (by omega) (by omega)
 obtain ⟨kj, hkj⟩ : ∃ z : Nat, (z : Int) = imm % 64 := ⟨(imm % 64).toNat, by omega⟩
 rw [← hkj] at k2
 have k3 : aJ .u64 (Nn kj) = some (Un kj) := by rw [fE, fF (by omega) (by omega)]
 have ed : dD ⟨16, d, n, m, a, imm⟩ r f = (gC r d ((if jR a f = true then cO r n else cO r m)), f) := by
  unfold dD jN
  simp only [Int.reduceEq, or_false, false_or, or_self, or_true, true_or, if_false, if_true, ↓reduceIte]
 rw [ed]
 clear ed
 simp only
 try rw [← hki]
 generalize cO r d = rd at *
 generalize cO r n = rn at *
 generalize cO r m = rm at *
 generalize cO r a = ra at *
 have o1 : ∀ H, aD (bL.f G (k + 6)) [I6 a, f.a] H = _ := fun H => aE (H := H) (rG G (k + 5) a f) rfl rfl
 generalize jR a f = hh at *
 rw [aM.step]
 unfold aM.c
 rw [kZ, kG]
 have hZ : (List.replicate 31 0 : List Nat).length = 31 := rfl
 have z1 : fG 1 (bT (List.replicate 31 0)) [] = some (eQ (List.replicate 31 0)) := rfl
 have z2 : fG 1 [.bool false, .bool false, .bool false, .bool false] [] = some jO.a := rfl
 have b1 : fI 44 (eQ (List.replicate 31 0)) [] = some (.ptr 0 1 0 0, [⟨44, 31, [eQ (List.replicate 31 0)]⟩]) := mE _ rfl []
 have b2 : fI 53 (.agg [.bool false, .bool false, .bool false, .bool false]) [⟨44, 31, [eQ (List.replicate 31 0)]⟩] = some (.ptr 1 1 0 0, kA (List.replicate 31 0) jO) := rfl
 generalize List.replicate 31 0 = Z at *
 have c0 : ∀ H, dV (eQ r) H = some (.rp false (eQ r) 0, H) := fun H => rfl
 have c1 : ∀ H, dV f.a H = some (.rp false f.a 0, H) := fun H => rfl
 have c2 : ∀ H, aC G true 31 (.rp false (eQ r) 0) H = some (eQ r) := fun H => by
  rw [jU, if_pos (by rw [bN, hr.len]; exact Nat.le_refl _), List.drop_zero, List.take_of_length_le (by rw [bN, hr.len]; exact Nat.le_refl _)]
 have c3 : ∀ H, aC G true 4 (.rp false f.a 0) H = some f.a := fun H => rfl
 have c4 : ∀ q : List Nat, q.length = 31 → fB (aL 31 (.ptr 0 1 0 0) (eQ q) (kA Z jO)) = some (.tup [], kA q jO) := fun q hq => mG hq hZ rfl
 have c5 : ∀ (q : List Nat) (g : FL), fB (aL 4 (.ptr 1 1 0 0) g.a (kA q jO)) = some (.tup [], kA q g) := fun q g => rfl
 refine eZ ?_
 cases hh
 ·simp only [Bool.false_eq_true, if_false, if_true]
  have st' : ∀ H, aD (aV.f G (k + 6)) [eQ r, I6 d, Un rm] H = some (eQ (gC r d rm), H) := st rm
  have hq := jC r hr.len d rm
  generalize gC r d rm = q at *
  have c4' := c4 q hq
  have c5' := c5 q f
  have fx := aPQ r1 <| aPQ g1 <| aPQ g2 <| aPQ g3 <| aPQ g4 <| aPQ k1 <| aPQ k2 <| aPQ k3 <| aPQ b1 <| aPQ b2 <| aPQ c0 <| aPQ c1 <| aPQ c2 <| aPQ c3 <| aPQ z1 <| aPQ z2 <| aPQ o1 <| aPQ st' <| aPQ c4' <| c5'
  refine kM ?_
  exact oF (iU G q hq f true)
 ·simp only [Bool.false_eq_true, if_false, if_true]
  have st' : ∀ H, aD (aV.f G (k + 6)) [eQ r, I6 d, Un rn] H = some (eQ (gC r d rn), H) := st rn
  have hq := jC r hr.len d rn
  generalize gC r d rn = q at *
  have c4' := c4 q hq
  have c5' := c5 q f
  have fx := aPQ r1 <| aPQ g1 <| aPQ g2 <| aPQ g3 <| aPQ g4 <| aPQ k1 <| aPQ k2 <| aPQ k3 <| aPQ b1 <| aPQ b2 <| aPQ c0 <| aPQ c1 <| aPQ c2 <| aPQ c3 <| aPQ z1 <| aPQ z2 <| aPQ o1 <| aPQ st' <| aPQ c4' <| c5'
  refine kM ?_
  exact oF (iU G q hq f true)
theorem aKv (G : aG) (k : Nat) (d n m a imm : Int) (hw : aT ⟨17, d, n, m, a, imm⟩ = true) (r : List Nat) (hr : RgOk r) (f : FL) :
  aM.f G (k + 7) [mV 17 d n m a imm, eQ r, f.a] [] = some (pT ((dD ⟨17, d, n, m, a, imm⟩ r f).1, (dD ⟨17, d, n, m, a, imm⟩ r f).2, true), []) := by
 have r1 : ∀ H, aD (aI.f G (k + 6)) [mV 17 d n m a imm] H = _ := fun H => aE (H := H) (hU G k ⟨17, d, n, m, a, imm⟩) rfl rfl
 rw [hw] at r1
 obtain ⟨_, hd, hn, hm, ha, hf⟩ := jG hw
 have himm : 0 ≤ imm ∧ imm < 65536 := by
  unfold aT at hw
  rw [Bool.and_eq_true] at hw
  obtain ⟨_, h⟩ := hw
  simp [aO, fD, gI, dU, gS, fC, dS] at h
  omega
 simp only at hd hn hm ha hf
 clear hw
 have ld := hr.get d
 have ln := hr.get n
 have lm := hr.get m
 have la := hr.get a
 have g : ∀ j, 0 ≤ j → j ≤ 31 → ∀ H, aD (aU.f G (k + 6)) [eQ r, I6 j] H = some (Un (cO r j), H) := fun j h0 h1 H => aE (H := H) (iS G (k + 5) r hr.len j h0 h1) (by simp [eO, bC, gX]) rfl
 have g1 := g d hd.1 hd.2
 have g2 := g n hn.1 hn.2
 have g3 := g m hm.1 hm.2
 have g4 := g a ha.1 ha.2
 clear g
 have st : ∀ x H, aD (aV.f G (k + 6)) [eQ r, I6 d, Un x] H = some (eQ (gC r d x), H) := fun x H => aE (H := H) (iT G (k + 5) r hr.len d hd.1 hd.2 x) (by simp [eO, bC, gX]) (by simp [fZ, kR])
 obtain ⟨ki, hki⟩ : ∃ z, z = u64 imm := ⟨_, rfl⟩
 have hkl : ki < 18446744073709551616 := by rw [hki]; exact jD _
 have hkv : (ki : Int) = imm := by rw [hki]; unfold u64; omega
 have k1 : aJ .u64 (I6 imm) = some (Un ki) := by rw [iG, hki]
 have k2 : aQ Tryd.prog .and 3 true (I6 imm) (.int .i64 63) = some (I6 (imm % 64)) := iZ _ _ _ (by omega) (by omega)
 obtain ⟨kj, hkj⟩ : ∃ z : Nat, (z : Int) = imm % 64 := ⟨(imm % 64).toNat, by omega⟩
 rw [← hkj] at k2
 have k3 : aJ .u64 (Nn kj) = some (Un kj) := by rw [fE, fF (by omega) (by omega)]
 have ed : dD ⟨17, d, n, m, a, imm⟩ r f = (gC r d ((if jR a f = true then 1 else 0)), f) := by
  unfold dD jN
  simp only [Int.reduceEq, or_false, false_or, or_self, or_true, true_or, if_false, if_true, ↓reduceIte]
 rw [ed]
 clear ed
 simp only
 try rw [← hki]
 generalize cO r d = rd at *
 generalize cO r n = rn at *
 generalize cO r m = rm at *
 generalize cO r a = ra at *
 have o1 : ∀ H, aD (bL.f G (k + 6)) [I6 a, f.a] H = _ := fun H => aE (H := H) (rG G (k + 5) a f) rfl rfl
 generalize jR a f = hh at *
 rw [aM.step]
 unfold aM.c
 rw [kZ, kG]
 have hZ : (List.replicate 31 0 : List Nat).length = 31 := rfl
 have z1 : fG 1 (bT (List.replicate 31 0)) [] = some (eQ (List.replicate 31 0)) := rfl
 have z2 : fG 1 [.bool false, .bool false, .bool false, .bool false] [] = some jO.a := rfl
 have b1 : fI 44 (eQ (List.replicate 31 0)) [] = some (.ptr 0 1 0 0, [⟨44, 31, [eQ (List.replicate 31 0)]⟩]) := mE _ rfl []
 have b2 : fI 53 (.agg [.bool false, .bool false, .bool false, .bool false]) [⟨44, 31, [eQ (List.replicate 31 0)]⟩] = some (.ptr 1 1 0 0, kA (List.replicate 31 0) jO) := rfl
 generalize List.replicate 31 0 = Z at *
 have c0 : ∀ H, dV (eQ r) H = some (.rp false (eQ r) 0, H) := fun H => rfl
 have c1 : ∀ H, dV f.a H = some (.rp false f.a 0, H) := fun H => rfl
 have c2 : ∀ H, aC G true 31 (.rp false (eQ r) 0) H = some (eQ r) := fun H => by
  rw [jU, if_pos (by rw [bN, hr.len]; exact Nat.le_refl _), List.drop_zero, List.take_of_length_le (by rw [bN, hr.len]; exact Nat.le_refl _)]
 have c3 : ∀ H, aC G true 4 (.rp false f.a 0) H = some f.a := fun H => rfl
 have c4 : ∀ q : List Nat, q.length = 31 → fB (aL 31 (.ptr 0 1 0 0) (eQ q) (kA Z jO)) = some (.tup [], kA q jO) := fun q hq => mG hq hZ rfl
 have c5 : ∀ (q : List Nat) (g : FL), fB (aL 4 (.ptr 1 1 0 0) g.a (kA q jO)) = some (.tup [], kA q g) := fun q g => rfl
 refine eZ ?_
 cases hh
 ·simp only [Bool.false_eq_true, if_false, if_true]
  have st' : ∀ H, aD (aV.f G (k + 6)) [eQ r, I6 d, .int .u64 0] H = some (eQ (gC r d 0), H) := st 0
  have hq := jC r hr.len d 0
  generalize gC r d 0 = q at *
  have c4' := c4 q hq
  have c5' := c5 q f
  have fx := aPQ r1 <| aPQ g1 <| aPQ g2 <| aPQ g3 <| aPQ g4 <| aPQ k1 <| aPQ k2 <| aPQ k3 <| aPQ b1 <| aPQ b2 <| aPQ c0 <| aPQ c1 <| aPQ c2 <| aPQ c3 <| aPQ z1 <| aPQ z2 <| aPQ o1 <| aPQ st' <| aPQ c4' <| c5'
  refine kM ?_
  exact oF (iU G q hq f true)
 ·simp only [Bool.false_eq_true, if_false, if_true]
  have st' : ∀ H, aD (aV.f G (k + 6)) [eQ r, I6 d, .int .u64 1] H = some (eQ (gC r d 1), H) := st 1
  have hq := jC r hr.len d 1
  generalize gC r d 1 = q at *
  have c4' := c4 q hq
  have c5' := c5 q f
  have fx := aPQ r1 <| aPQ g1 <| aPQ g2 <| aPQ g3 <| aPQ g4 <| aPQ k1 <| aPQ k2 <| aPQ k3 <| aPQ b1 <| aPQ b2 <| aPQ c0 <| aPQ c1 <| aPQ c2 <| aPQ c3 <| aPQ z1 <| aPQ z2 <| aPQ o1 <| aPQ st' <| aPQ c4' <| c5'
  refine kM ?_
  exact oF (iU G q hq f true)
theorem aHG (G : aG) (k : Nat) (i : MI) (r : List Nat) (hr : RgOk r) (f : FL) : aM.f G (k + 7) [i.v, eQ r, f.a] [] = some (pT (aJe i r f), []) := by
 unfold aJe
 by_cases h : aT i = true ∧ i.op ≤ 17
 ·rw [if_pos h]
  have h24 := qO h.1
  obtain ⟨op, d, n, m, a, imm⟩ := i
  obtain ⟨hw, h17⟩ := h
  simp only at h17 h24
  show aM.f G (k + 7) [mV op d n m a imm, eQ r, f.a] [] = _
  have h17' : op = 1 ∨ op = 2 ∨ op = 3 ∨ op = 4 ∨ op = 5 ∨ op = 6 ∨ op = 7 ∨ op = 8 ∨ op = 9 ∨ op = 10 ∨ op = 11 ∨ op = 12 ∨ op = 13 ∨ op = 14 ∨ op = 15 ∨ op = 16 ∨ op = 17 := by omega
  rcases h17' with rfl | rfl | rfl | rfl | rfl | rfl | rfl | rfl | rfl | rfl | rfl | rfl | rfl | rfl | rfl | rfl | rfl
  ·exact aNK G k d n m a imm hw r hr f
  ·exact aNm G k d n m a imm hw r hr f
  ·exact aMB G k d n m a imm hw r hr f
  ·exact aMu G k d n m a imm hw r hr f
  ·exact aMD G k d n m a imm hw r hr f
  ·exact aMU G k d n m a imm hw r hr f
  ·exact aNv G k d n m a imm hw r hr f
  ·exact aNA G k d n m a imm hw r hr f
  ·exact aML G k d n m a imm hw r hr f
  ·exact aKH G k d n m a imm hw r hr f
  ·exact aLG G k d n m a imm hw r hr f
  ·exact aKo G k d n m a imm hw r hr f
  ·exact aLe G k d n m a imm hw r hr f
  ·exact aKN G k d n m a imm hw r hr f
  ·exact aLu G k d n m a imm hw r hr f
  ·exact aKB G k d n m a imm hw r hr f
  ·exact aKv G k d n m a imm hw r hr f
 ·rw [if_neg h]
  have r1 : ∀ H, aD (aI.f G (k + 6)) [i.v] H = _ := fun H => aE (H := H) (hU G k i) rfl rfl
  rw [aM.step]
  unfold aM.c
  rw [kZ, kG]
  have hZ : (List.replicate 31 0 : List Nat).length = 31 := rfl
  have z1 : fG 1 (bT (List.replicate 31 0)) [] = some (eQ (List.replicate 31 0)) := rfl
  have z2 : fG 1 [.bool false, .bool false, .bool false, .bool false] [] = some jO.a := rfl
  have b1 : fI 44 (eQ (List.replicate 31 0)) [] = some (.ptr 0 1 0 0, [⟨44, 31, [eQ (List.replicate 31 0)]⟩]) := mE _ rfl []
  have b2 : fI 53 (.agg [.bool false, .bool false, .bool false, .bool false]) [⟨44, 31, [eQ (List.replicate 31 0)]⟩] = some (.ptr 1 1 0 0, kA (List.replicate 31 0) jO) := rfl
  have c0 : ∀ H, dV (eQ r) H = some (.rp false (eQ r) 0, H) := fun H => rfl
  have c1 : ∀ H, dV f.a H = some (.rp false f.a 0, H) := fun H => rfl
  have c4 : fB (aL 31 (.ptr 0 1 0 0) (eQ (List.replicate 31 0)) (kA (List.replicate 31 0) jO)) = some (.tup [], kA (List.replicate 31 0) jO) := mG hZ hZ rfl
  have c5 : ∀ (q : List Nat) (g : FL), fB (aL 4 (.ptr 1 1 0 0) g.a (kA q jO)) = some (.tup [], kA q g) := fun q g => rfl
  generalize List.replicate 31 0 = Z at *
  obtain ⟨op, d, n, m, a, imm⟩ := i
  simp only at h
  generalize aT ⟨op, d, n, m, a, imm⟩ = b at *
  unfold MI.v at *
  simp only at *
  refine eZ ?_
  cases b
  ·have fx := aPQ r1 <| aPQ b1 <| aPQ b2 <| aPQ c0 <| aPQ c1 <| aPQ z1 <| aPQ z2 <| aPQ c4 <| c5
   refine kM ?_
   exact oF (iU G Z hZ jO false)
  ·have h17 : ¬ op ≤ 17 := fun h2 => h ⟨rfl, h2⟩
   have fx := aPQ r1 <| aPQ b1 <| aPQ b2 <| aPQ c0 <| aPQ c1 <| aPQ z1 <| aPQ z2 <| aPQ c4 <| c5
   refine kM ?_
   exact oF (iU G Z hZ jO false)
def QS.tailR (s : QS) : List AV := [.sl 6 s.leaks.length 0 s.leaks.length 2, Nn s.steps]
def QS.cellsR (s : QS) : List AV := I6 s.code :: .sl 2 s.mem.length 0 s.mem.length 1 :: (bT s.regs ++ s.tailR)
def kH (b0 : ABlk) (T : aF) (s : QS) : aF :=
 b0 :: ⟨43, 1, []⟩ :: ⟨43, 1, bT s.mem⟩ :: ⟨46, 35, [.agg s.cellsR]⟩ :: ⟨53, 4, [s.flags.a]⟩ :: ⟨107, 2, []⟩ :: ⟨107, 2, iM s.leaks⟩ :: T
abbrev RX : AV := .ptr 3 1 0 0
section
variable (G : aG) (b0 : ABlk) (T : aF) (s : QS)
theorem aPd (o : Nat) : aC G false 1 (.ptr 3 1 0 o) (kH b0 T s) = s.cellsR[o]? := rfl
theorem aLI (o z : Nat) : aC G true z (.ptr 3 1 0 o) (kH b0 T s) = if o + z ≤ s.cellsR.length then some (.agg ((s.cellsR.drop o).take z)) else none := rfl
variable (hr : s.regs.length = 31)
theorem aHs (j : Nat) (hr : s.regs.length = 31) : s.cellsR[33 + j]? = s.tailR[j]? := by
 unfold QS.cellsR
 have e : 33 + j = 31 + j + 1 + 1 := by omega
 rw [e, List.getElem?_cons_succ, List.getElem?_cons_succ, List.getElem?_append_right (by rw [bN]; omega), bN, hr]
 congr 1; omega
theorem kN (hr : s.regs.length = 31) : s.cellsR.length = 35 := by
 simp [QS.cellsR, QS.tailR, bN, hr]
include hr in
theorem aGL (j : Nat) : aC G false 1 (.ptr 3 1 0 (33 + j)) (kH b0 T s) = s.tailR[j]? := by
 rw [aPd, aHs _ _ hr]
include hr in
theorem aIy : aC G false 1 (.ptr 3 1 0 33) (kH b0 T s) = some (.sl 6 s.leaks.length 0 s.leaks.length 2) := aGL G b0 T s hr 0
include hr in
theorem aLJ : aC G false 1 (.ptr 3 1 0 34) (kH b0 T s) = some (Nn s.steps) := aGL G b0 T s hr 1
theorem aPm : aC G false 1 (.ptr 3 1 0 1) (kH b0 T s) = some (.sl 2 s.mem.length 0 s.mem.length 1) := rfl
include hr in
theorem aGl : aC G true 31 (.ptr 3 1 0 2) (kH b0 T s) = some (eQ s.regs) := by
 rw [aLI, kN _ hr, if_pos (by omega)]
 have hl : (bT s.regs).length = 31 := by rw [bN, hr]
 have e : (s.cellsR.drop 2).take 31 = bT s.regs := by
  unfold QS.cellsR
  rw [show 2 = 0 + 1 + 1 from rfl, List.drop_succ_cons, List.drop_succ_cons, List.drop_zero, List.take_append, hl, List.take_of_length_le (by omega)]
  simp
 rw [e]
theorem aLU : aC G true 4 (.ptr 4 1 0 0) (kH b0 T s) = some s.flags.a := rfl
include hr in
theorem aFC : aC G true 35 RX (kH b0 T s) = some (.agg s.cellsR) := by
 rw [aLI, kN _ hr, if_pos (by omega), List.drop_zero, List.take_of_length_le (by rw [kN _ hr]; exact Nat.le_refl _)]
theorem aOh (o : Nat) (v : AV) (hv : fQ v = true) (h1 : v.cells = [v]) (ho : o < 35) (hr : s.regs.length = 31) : fB (aL 1 (.ptr 3 1 0 o) v (kH b0 T s)) =
  some (.tup [], (kH b0 T s).set 3 ⟨46, 35, [.agg (jY s.cellsR o [v])]⟩) := by
 have e : (kH b0 T s)[3]? = some ⟨46, 35, [.agg s.cellsR]⟩ := rfl
 have e2 : (AV.agg s.cellsR).cells = s.cellsR := rfl
 unfold aL
 simp only [e, List.length_singleton, hv, List.getElem?_cons_zero, h1]
 rw [if_pos (by simp), e2, if_pos (by rw [kN _ hr]; omega)]
 rfl
theorem aCc (j : Nat) (v : AV) (hr : s.regs.length = 31) : jY s.cellsR (33 + j) [v] = I6 s.code :: .sl 2 s.mem.length 0 s.mem.length 1 :: (bT s.regs ++ jY s.tailR j [v]) := by
 have hl : (bT s.regs).length = 31 := by rw [bN, hr]
 unfold QS.cellsR jY
 rw [show 33 + j = 31 + j + 1 + 1 by omega, List.take_succ_cons, List.take_succ_cons, show 31 + j + 1 + 1 + [v].length = 31 + (j + [v].length) + 1 + 1 by omega, List.drop_succ_cons, List.drop_succ_cons,
  List.take_append, hl, List.take_of_length_le (by omega), List.drop_append, hl, List.drop_of_length_le (by omega)]
 simp only [Nat.add_sub_cancel_left, List.nil_append, List.cons_append, List.append_assoc]
theorem aOa (n : Int) (hr : s.regs.length = 31) : fB (aL 1 (.ptr 3 1 0 0) (I6 n) (kH b0 T s)) = some (.tup [], kH b0 T { s with code := n }) := aOh b0 T s 0 (I6 n) rfl rfl (by decide) hr
theorem aOz (n : Nat) (hr : s.regs.length = 31) : fB (aL 1 (.ptr 3 1 0 34) (Nn n) (kH b0 T s)) = some (.tup [], kH b0 T { s with steps := n }) := by
 rw [aOh b0 T s 34 (Nn n) rfl rfl (by decide) hr, aCc s 1 (Nn n) hr]; rfl
theorem aOe (f : FL) : fB (aL 4 (.ptr 4 1 0 0) f.a (kH b0 T s)) = some (.tup [], kH b0 T { s with flags := f }) := rfl
theorem aLL (q : List Nat) (hq : q.length = 31) (hr : s.regs.length = 31) : fB (aL 31 (.ptr 3 1 0 2) (eQ q) (kH b0 T s)) = some (.tup [], kH b0 T { s with regs := q }) := by
 have e : (kH b0 T s)[3]? = some ⟨46, 35, [.agg s.cellsR]⟩ := rfl
 have e2 : (AV.agg s.cellsR).cells = s.cellsR := rfl
 have e3 : (eQ q).cells = bT q := rfl
 have hs : fQ (eQ q) = true := rfl
 have hl : (bT s.regs).length = 31 := by rw [bN, hr]
 have hlq : (bT q).length = 31 := by rw [bN, hq]
 have e4 : jY s.cellsR 2 (bT q) = QS.cellsR { s with regs := q } := by
  show jY (I6 s.code :: .sl 2 s.mem.length 0 s.mem.length 1 :: (bT s.regs ++ s.tailR)) 2 _ = I6 s.code :: .sl 2 s.mem.length 0 s.mem.length 1 :: (bT q ++ s.tailR)
  unfold jY
  rw [hlq, show 2 = 0 + 1 + 1 from rfl, List.take_succ_cons, List.take_succ_cons, List.take_zero, show 0 + 1 + 1 + 31 = 31 + 1 + 1 from rfl, List.drop_succ_cons, List.drop_succ_cons, List.drop_append, hl, List.drop_of_length_le (by omega)]
  simp
 unfold aL
 simp only [e, List.length_singleton, hs, List.getElem?_cons_zero, e3]
 rw [if_pos (by refine ⟨?_, ?_, ?_⟩ <;> first | trivial | exact hlq), e2, if_pos (by rw [kN _ hr]; decide), e4]
 rfl
theorem aMI (n : Nat) : cJ 1 (.sl 2 s.mem.length 0 s.mem.length 1) (Un n) = if n < s.mem.length then some (.ptr 2 s.mem.length n 0) else none := by
 have h0 : (0 : Int) ≤ (n : Int) := by omega
 by_cases h : n < s.mem.length
 ·have h' : (n : Int) < (s.mem.length : Int) := by omega
  rw [if_pos h]
  simp [cJ, h0, h']
 ·have h' : ¬ (n : Int) < (s.mem.length : Int) := by omega
  rw [if_neg h]
  simp [cJ, h0, h']
theorem aPl (j : Nat) (h : j < s.mem.length) : aC G false 1 (.ptr 2 s.mem.length j 0) (kH b0 T s) = some (Un (s.mem.getD j 0)) := by
 have e : (kH b0 T s)[2]? = some ⟨43, 1, bT s.mem⟩ := rfl
 unfold aC
 simp only [e, bN, lQ _ _ h, if_true]
 rfl
theorem aOW (j x : Nat) (h : j < s.mem.length) : fB (aL 1 (.ptr 2 s.mem.length j 0) (Un x) (kH b0 T s)) = some (.tup [], kH b0 T { s with mem := s.mem.set j x }) := by
 have e : (kH b0 T s)[2]? = some ⟨43, 1, bT s.mem⟩ := rfl
 have e2 : QS.cellsR { s with mem := s.mem.set j x } = s.cellsR := by
  unfold QS.cellsR QS.tailR
  simp only [List.length_set]
 unfold aL
 simp only [e, bN, lQ _ _ h]
 unfold kH
 rw [e2]
 simp only [sQ]
 rfl
theorem aLn (p : Int × Int) (hl : s.leaks.length ≤ 1000000) : fS 107 2 (.sl 6 s.leaks.length 0 s.leaks.length 2) (.ro false [kW p]) (kH b0 T s) =
  some (.sl 6 (s.leaks.length + 1) 0 (s.leaks.length + 1) 2, (kH b0 T s).set 6 ⟨107, 2, iM (s.leaks ++ [p])⟩) := by
 have e : (kH b0 T s)[6]? = some ⟨107, 2, iM s.leaks⟩ := rfl
 unfold fS
 simp only [e, jF, kO, List.length_singleton]
 rw [if_pos (by refine ⟨?_, ?_, ?_, ?_, ?_⟩ <;> first | trivial | rfl | omega)]
 have e2 : (iM s.leaks).take s.leaks.length = iM s.leaks := List.take_of_length_le (by rw [kO]; exact Nat.le_refl _)
 have e3 : (iM s.leaks).drop (s.leaks.length + 1) = [] := List.drop_of_length_le (by rw [kO]; omega)
 rw [e2, e3, List.append_nil]
 have e4 : iM s.leaks ++ [kW p] = iM (s.leaks ++ [p]) := by simp [iM]
 rw [e4, kO]; simp
theorem aKY (p : Int × Int) (hr : s.regs.length = 31) : fB (aL 1 (.ptr 3 1 0 33) (.sl 6 (s.leaks.length + 1) 0 (s.leaks.length + 1) 2) ((kH b0 T s).set 6 ⟨107, 2, iM (s.leaks ++ [p])⟩)) =
  some (.tup [], kH b0 T (s.leak p.1 p.2)) := by
 have e : ((kH b0 T s).set 6 ⟨107, 2, iM (s.leaks ++ [p])⟩)[3]? = some ⟨46, 35, [.agg s.cellsR]⟩ := rfl
 have e2 : (AV.agg s.cellsR).cells = s.cellsR := rfl
 have e3 : QS.cellsR (s.leak p.1 p.2) = I6 s.code :: .sl 2 s.mem.length 0 s.mem.length 1 :: (bT s.regs ++ jY s.tailR 0 [.sl 6 (s.leaks.length + 1) 0 (s.leaks.length + 1) 2]) := by
  unfold QS.cellsR QS.tailR QS.leak
  simp only [List.length_append, List.length_singleton]
  rfl
 have e4 := aCc s 0 (.sl 6 (s.leaks.length + 1) 0 (s.leaks.length + 1) 2) hr
 unfold aL
 simp only [e, List.length_singleton, List.getElem?_cons_zero]
 rw [if_pos (by refine ⟨?_, ?_, ?_⟩ <;> first | trivial | rfl), e2, if_pos (by rw [kN _ hr]; decide)]
 have e5 : (AV.sl 6 (s.leaks.length + 1) 0 (s.leaks.length + 1) 2).cells = [.sl 6 (s.leaks.length + 1) 0 (s.leaks.length + 1) 2] := rfl
 have e4' : jY s.cellsR 33 [.sl 6 (s.leaks.length + 1) 0 (s.leaks.length + 1) 2] = _ := e4
 rw [e5, e4', ← e3]
 rfl
theorem oQ (n : Nat) : ∀ xs ys : List AV, dH n xs = true → dH n ys = true → dH n (xs ++ ys) = true
 | [], ys, _, h => h
 | x :: xs, ys, h1, h2 => by
  simp only [dH, Bool.and_eq_true] at h1
  simp [dH, h1.1, oQ n xs ys h1.2 h2]
theorem aLS (hb : dH 7 b0.elems = true) (xs : List AV) (hx : dH 7 xs = true) : iR 7 xs (kH b0 T s) = some (kH b0 [] s) := by
 have e : (kH b0 T s).take 7 = kH b0 [] s := rfl
 have h1 : dH 7 s.cellsR = true := by
  unfold QS.cellsR
  simp [dH, cG, oQ, gY, QS.tailR]
 have h2 : dY 7 (kH b0 [] s) = true := by
  simp [kH, dY, dH, cG, hb, gY, oH, h1, FL.a]
 unfold iR
 rw [e, hx, h2]; rfl
theorem aFs (T' : Nat) (z cs : List AV) (hz : z.length = 35) (hc : cs.length = 35) : fB (aL 35 (.ptr 0 1 0 0) (.agg cs) (kH (bR T' z) T s)) = some (.tup [], kH (bR T' cs) T s) := by
 have e : (kH (bR T' z) T s)[0]? = some ⟨T', 35, [.agg z]⟩ := rfl
 have e2 : jY z 0 cs = cs := by
  unfold jY
  rw [List.take_zero, List.nil_append, List.drop_of_length_le (by omega), List.append_nil]
 have e3 : (AV.agg cs).cells = cs := rfl
 have e4 : (AV.agg z).cells = z := rfl
 have hs : fQ (.agg cs) = true := rfl
 unfold aL
 simp only [e, List.length_singleton, hs, List.getElem?_cons_zero, e3]
 rw [if_pos (by refine ⟨?_, ?_, ?_⟩ <;> first | trivial | exact hc), e4, if_pos (by omega), e2]
 rfl
end
theorem aOx {b : Bool} {xs : List AV} {j : Nat} {k : IntKind} {n : Int} (h : xs[j]? = some (.int k n)) : cJ 1 (.ro b xs) (Nn j) = some (.rp b (.int k n) 0) := by
 have h0 : (0 : Int) ≤ (j : Int) := by omega
 unfold cJ
 simp only [Int.toNat_natCast, h]
 rw [if_pos h0]
 rfl
abbrev bZ : ABlk := ⟨46, 35, [.agg (I6 0 :: .nils :: (bT (List.replicate 31 0) ++ [.nils, .int .i64 0]))]⟩
theorem aDE (n : Nat) : dH n bZ.elems = true := by simp [bZ, dH, cG, oQ, gY]
def yU (l : List Nat) : aF := [bZ, ⟨43, 1, []⟩, ⟨43, 1, bT l⟩]
theorem aAG (G : aG) (k : Nat) (self : cN) (b : Bool) (mem : List Nat) (hml : mem.length ≤ 1000000) : ∀ (suf pre : List Nat) (f : Nat), mem = pre ++ suf → suf.length < f →
  gV (aX.l3 G k 3 self) f [.ro b (bT mem), .sl 2 pre.length 0 pre.length 1, Nn pre.length] (yU pre) = some (.exit 0, [.ro b (bT mem), .sl 2 mem.length 0 mem.length 1, Nn mem.length], yU mem)
 | suf, pre, 0, hm, hf => by omega
 | [], pre, f + 1, hm, hf => by
  rw [fJ, aX.l3]
  have hl : mem = pre := by rw [hm]; simp
  have hc : iR 3 [.ro b (bT mem), .sl 2 pre.length 0 pre.length 1, Nn pre.length] (yU pre) = some (yU pre) := by
   have hz := aDE 3; simp only [bZ] at hz; simp [iR, yU, dH, cG, dY, gY, oQ]
  have lc : dQ (.ro b (bT mem)) = some (I6 mem.length) := by simp [dQ, bN]
  have q : aQ Tryd.prog .lss 3 false (Nn pre.length) (Nn mem.length) = some (.bool false) := by rw [mA, decide_eq_false (by rw [hl]; omega)]
  refine jT ?_
  refine eC hc ?_
  have fx := aPQ lc <| q
  refine gM ?_
  rw [hl]
  refine iA ?_; rfl
 | a :: suf, pre, f + 1, hm, hf => by
  rw [fJ, aX.l3]
  have hl : mem.length = pre.length + (suf.length + 1) := by rw [hm]; simp
  have hc : iR 3 [.ro b (bT mem), .sl 2 pre.length 0 pre.length 1, Nn pre.length] (yU pre) = some (yU pre) := by
   have hz := aDE 3; simp only [bZ] at hz; simp [iR, yU, dH, cG, dY, gY, oQ]
  have lc : dQ (.ro b (bT mem)) = some (I6 mem.length) := by simp [dQ, bN]
  have q : aQ Tryd.prog .lss 3 false (Nn pre.length) (Nn mem.length) = some (.bool true) := by rw [mA, decide_eq_true (by omega)]
  have ha : mem.getD pre.length 0 = a := by rw [hm]; simp [List.getD]
  have d1 : cJ 1 (.ro b (bT mem)) (Nn pre.length) = some (.rp b (Un a) 0) := by
   have := lQ mem pre.length (by omega)
   rw [ha] at this
   exact aOx this
  have d2 : ∀ H, aC G false 1 (.rp b (Un a) 0) H = some (Un a) := fun H => rfl
  have d3 : fS 43 1 (.sl 2 pre.length 0 pre.length 1) (.ro false [Un a]) (yU pre) = some (.sl 2 (pre ++ [a]).length 0 (pre ++ [a]).length 1, yU (pre ++ [a])) := by
   have e : (yU pre)[2]? = some ⟨43, 1, bT pre⟩ := rfl
   unfold fS
   simp only [e, jF, bN, List.length_singleton]
   rw [if_pos (by refine ⟨?_, ?_, ?_, ?_, ?_⟩ <;> first | trivial | rfl | omega)]
   have e2 : (bT pre).take pre.length = bT pre := List.take_of_length_le (by rw [bN]; exact Nat.le_refl _)
   have e3 : (bT pre).drop (pre.length + 1) = [] := List.drop_of_length_le (by rw [bN]; omega)
   rw [e2, e3, List.append_nil]
   have e4 : bT pre ++ [Un a] = bT (pre ++ [a]) := by simp [bT]
   rw [e4, bN]; simp [yU]
  have d4 : aQ Tryd.prog .add 3 true (Nn pre.length) (.int .i64 1) = some (Nn (pre ++ [a]).length) := by
   rw [kL, fW (by omega) (by omega)]; congr 2; simp
  have ih := aAG G k self b mem hml suf (pre ++ [a]) f (by rw [hm]; simp) (by simp at hf; omega)
  refine jT ?_
  refine eC hc ?_
  have fx := aPQ lc <| aPQ q <| aPQ d1 <| aPQ d2 <| aPQ d3 <| d4
  refine gM ?_
  exact ih
theorem aFK (G : aG) (k : Nat) (b : Bool) (mem : List Nat) (hml : mem.length ≤ 1000000) (hk : mem.length < k) : aX.f G (k + 1) [.ro b (bT mem)] [bZ] = some (.sl 2 mem.length 0 mem.length 1, yU mem) := by
 rw [aX.step]
 unfold aX.c
 have lc : dQ (.ro b (bT mem)) = some (I6 mem.length) := by simp [dQ, bN]
 have ms : jP 43 1 (.int .u64 0) (.int .i64 0) (I6 mem.length) [bZ, ⟨43, 1, []⟩] = some (.sl 2 0 0 0 1, yU []) := by
  unfold jP
  simp only
  rw [if_pos (by omega)]
  rfl
 have lp : gV (aX.l3 G k 3 (aX.f G k)) k [.ro b (bT mem), .sl 2 0 0 0 1, .int .i64 0] (yU []) = _ := aAG G k (aX.f G k) b mem hml mem [] k rfl hk
 refine eZ ?_
 have fx := aPQ lc <| ms
 have lx1 := lp
 refine gM ?_
 refine iA ?_; rfl
theorem aHk (G : aG) (k : Nat) (b : Bool) : bY.f G (k + 1) [.bool b] [] = some (I6 (if b = true then 1 else 0), []) := by
 rw [bY.step]
 unfold bY.c
 refine eZ ?_
 cases b
 ·have fx := True.intro
  refine gM ?_
  exact tA rfl
 ·have fx := True.intro
  refine gM ?_
  exact tA rfl
def xsR (fuel : Int) (bor : Bool) (cs : List Int) (pc : Int) : List AV := [.ro bor (iC cs), I6 fuel, .ptr 0 1 0 0, RX, .ptr 4 1 0 0, I6 pc]
theorem aBS (fuel : Int) (bor : Bool) (cs : List Int) (pc : Int) : dH 7 (xsR fuel bor cs pc) = true := by simp [xsR, dH, cG, nL]
section
variable (G : aG) (k : Nat) (self : cN) (z : List AV) (hz : z.length = 35) (hzb : dH 7 z = true) (bor : Bool) (cs : List Int) (fuel : Int) (lp : iP)
theorem t7v (b0 : ABlk) (i : MI) (l : aF) (t : QS) : aC G true 6 (.ptr 7 1 0 0) (kH b0 (⟨57, 6, [i.v]⟩ :: l) t) = some i.v := rfl
theorem t70 (b0 : ABlk) (i : MI) (l : aF) (t : QS) : aC G false 1 (.ptr 7 1 0 0) (kH b0 (⟨57, 6, [i.v]⟩ :: l) t) = some (I6 i.op) := rfl
theorem t71 (b0 : ABlk) (i : MI) (l : aF) (t : QS) : aC G false 1 (.ptr 7 1 0 1) (kH b0 (⟨57, 6, [i.v]⟩ :: l) t) = some (I6 i.d) := rfl
theorem t72 (b0 : ABlk) (i : MI) (l : aF) (t : QS) : aC G false 1 (.ptr 7 1 0 2) (kH b0 (⟨57, 6, [i.v]⟩ :: l) t) = some (I6 i.n) := rfl
theorem t74 (b0 : ABlk) (i : MI) (l : aF) (t : QS) : aC G false 1 (.ptr 7 1 0 4) (kH b0 (⟨57, 6, [i.v]⟩ :: l) t) = some (I6 i.a) := rfl
theorem t75 (b0 : ABlk) (i : MI) (l : aF) (t : QS) : aC G false 1 (.ptr 7 1 0 5) (kH b0 (⟨57, 6, [i.v]⟩ :: l) t) = some (I6 i.imm) := rfl
def aFG (lp : iP) (z : List AV) (fuel : Int) (bor : Bool) (cs : List Int) (q : QS × Bool) (m : Option gH) : Prop :=
 if q.2 = true then ∃ T, m = lp (xsR fuel bor cs q.1.at_) (kH (bR 46 z) T q.1)
 else ∃ T xs, m = some (.ret, xs, kH (bR 46 q.1.cellsR) T q.1) ∧ aH xs 2 = .ptr 0 1 0 0
include hz hzb in
theorem aFv (T0 : aF) (s : QS) (hs : s.Ok) (hc : s.code = 3) (h1 : 0 ≤ s.at_) (h2 : s.at_ < cs.length) (h3 : (s.steps : Int) < fuel) (hf : fuel ≤ 99999) (hcl : cs.length ≤ 100000) (w0 : 0 ≤ cs.getD s.at_.toNat 0 ∧ cs.getD s.at_.toNat 0 < 4294967296) :
  aFG lp z fuel bor cs (s.tick.step (cs.getD s.at_.toNat 0)) (aW.l4 G (k + 41) 7 self lp (xsR fuel bor cs s.at_) (kH (bR 46 z) T0 s)) := by
 have few := hs.few
 have lks := hs.leaks
 have hr := hs.rg.len
 have hb : dH 7 (bR 46 z).elems = true := by simp [bR, dH, cG, hzb]
 have hcut := aLS (bR 46 z) T0 s hb _ (aBS fuel bor cs s.at_)
 rw [aW.l4, kZ]
 have hZ : (List.replicate 31 0 : List Nat).length = 31 := rfl
 generalize List.replicate 31 0 = Z at *
 have c2 : dQ (.ro bor (iC cs)) = some (Nn cs.length) := by simp [dQ, qA]
 have n0 : aQ Tryd.prog .lss 3 true (I6 s.at_) (.int .i64 0) = some (.bool false) := zG (by omega)
 have n1 : aQ Tryd.prog .geq 3 false (I6 s.at_) (Nn cs.length) = some (.bool false) := vP (by omega)
 have n2 : aQ Tryd.prog .geq 2 false (Nn s.steps) (I6 fuel) = some (.bool false) := vP (by omega)
 have n3 : aQ Tryd.prog .add 2 true (Nn s.steps) (.int .i64 1) = some (Nn (s.steps + 1)) := by
  rw [kL, fW (by omega) (by omega)]; congr 2
 have f0 : aA 0 RX = some RX := rfl
 have f1 : aA 1 RX = some (.ptr 3 1 0 1) := rfl
 have f2 : aA 2 RX = some (.ptr 3 1 0 2) := rfl
 have f33 : aA 33 RX = some (.ptr 3 1 0 33) := rfl
 have f34 : aA 34 RX = some (.ptr 3 1 0 34) := rfl
 have c3 := aLJ G (bR 46 z) [] s hr
 have c4 := aOz (bR 46 z) [] s (s.steps + 1) hr
 have c5 := aIy G (bR 46 z) [] { s with steps := s.steps + 1 } hr
 have ll : s.leaks.length ≤ 999990 := by omega
 have c6 := aLn (bR 46 z) [] { s with steps := s.steps + 1 } (1, s.at_) (by simp only; omega)
 have c7 := aKY (bR 46 z) [] { s with steps := s.steps + 1 } (1, s.at_) hr
 have bl : ∀ a b : Int, aY [(0, 1), (1, 1)] [(.int .i64 0), (.int .i64 0)] [(0, I6 a), (1, I6 b)] = some (kW (a, b)) := fun a b => rfl
 have br : ∀ (a b : Int) H, fR 2 1 (.agg [(.int .i64 0), (.int .i64 0)]) [(0, kW (a, b))] H = some (.ro false [kW (a, b)], H) := fun a b H => rfl
 have bl1 : aY [(0, 1), (1, 1)] [(.int .i64 0), (.int .i64 0)] [(0, (.int .i64 1)), (1, I6 s.at_)] = some (kW (1, s.at_)) := rfl
 have br1 := br 1 s.at_
 have et : (({ s with steps := s.steps + 1 } : QS).leak 1 s.at_) = s.tick := rfl
 simp only at c5 c6 c7
 rw [et] at c7
 have c8 := wAt bor cs s.at_ h1 h2
 have c9 : ∀ w H, aC G false 1 (.rp bor (cX w) 0) H = some (cX w) := fun w H => rfl
 have okt : s.tick.Ok := ⟨hs.rg, hs.mem, by simp [QS.tick, QS.leak]; omega, hs.big, by simp [QS.tick, QS.leak]; omega⟩
 have tll : s.tick.leaks.length ≤ 999995 := by simp [QS.tick, QS.leak]; omega
 have tc : s.tick.code = 3 := hc
 have tat : s.tick.at_ = s.at_ := rfl
 generalize cs.getD s.at_.toNat 0 = w at *
 obtain ⟨t, ht⟩ : ∃ t, t = s.tick := ⟨_, rfl⟩
 rw [← ht] at c7 okt tll tc tat ⊢
 have tr := okt.rg.len
 have of : ∀ H, aD (cC.f G (k + 41)) [cX w] H = some (ofV (ofF w), H) := fun H => aE (H := H) (aIS G (k + 1) w w0.1 w0.2) rfl (by unfold ofV; split <;> rfl)
 have bx0 : fI 57 (.agg [.int .i64 0, .int .i64 0, .int .i64 0, .int .i64 0, .int .i64 0, .int .i64 0]) (kH (bR 46 z) [] t) = some (.ptr 7 1 0 0, kH (bR 46 z) (TB ⟨0, 0, 0, 0, 0, 0⟩) t) := rfl
 have s7 : ∀ y : MI, fB (aL 6 (.ptr 7 1 0 0) y.v (kH (bR 46 z) (TB ⟨0, 0, 0, 0, 0, 0⟩) t)) = some (.tup [], kH (bR 46 z) (TB y) t) := fun y => rfl
 have rM : ∀ (T : aF) (q : QS), q.regs.length = 31 → aC G true 35 RX (kH (bR 46 z) T q) = some (.agg q.cellsR) := fun T q hq => aFC G (bR 46 z) T q hq
 have sAll : ∀ (T : aF) (q : QS), q.regs.length = 31 → fB (aL 35 (.ptr 0 1 0 0) (.agg q.cellsR) (kH (bR 46 z) T q)) = some (.tup [], kH (bR 46 q.cellsR) T q) := fun T q hq => aFs T q 46 z _ hz (kN q hq)
 unfold aFG QS.step
 cases ho : ofF w with
 | none =>
  have e3 : ({ t with code := 3 } : QS) = t := by rw [← tc]
  simp only
  rw [if_neg (by simp), e3]
  rw [ho] at of
  unfold ofV at of
  simp only at of
  have s7' := s7 ⟨0, 0, 0, 0, 0, 0⟩
  have z2 : (⟨0, 0, 0, 0, 0, 0⟩ : MI).v = mV 0 0 0 0 0 0 := rfl
  rw [z2] at s7'
  have l1 := rM (TB ⟨0, 0, 0, 0, 0, 0⟩) t tr
  have l2 := sAll (TB ⟨0, 0, 0, 0, 0, 0⟩) t tr
  clear s7 rM sAll z2
  refine ⟨TB ⟨0, 0, 0, 0, 0, 0⟩, [.ro bor (iC cs), I6 fuel, .ptr 0 1 0 0, RX, .ptr 4 1 0 0, I6 s.at_], ?_, rfl⟩
  refine jT ?_
  refine eC hcut ?_
  unfold xsR
  generalize TB ⟨0, 0, 0, 0, 0, 0⟩ = tb at *
  generalize t.cellsR = tcs at *
  generalize kW (1, s.at_) = lv at *
  have fx := aPQ f0 <| aPQ f1 <| aPQ f2 <| aPQ f33 <| aPQ f34 <| aPQ c2 <| aPQ n0 <| aPQ n1 <| aPQ c3 <| aPQ n2 <| aPQ n3 <| aPQ c4 <| aPQ c5 <| aPQ bl1 <| aPQ br1 <| aPQ c6 <| aPQ c7 <| aPQ c8 <| aPQ c9 <| aPQ of <| aPQ bx0 <| aPQ s7' <| aPQ l1 <| l2
  refine kM ?_
  refine iA ?_; rfl
 | some i =>
  have hri := (aCr ho).1
  have h24 := qO hri
  have hok := (jG hri).2
  have him := aHr hri
  rw [ho] at of
  unfold ofV at of
  simp only at of ⊢
  have s7' := s7 i
  have a70 : aA 0 (.ptr 7 1 0 0) = some (.ptr 7 1 0 0) := rfl
  have a71 : aA 1 (.ptr 7 1 0 0) = some (.ptr 7 1 0 1) := rfl
  have a72 : aA 2 (.ptr 7 1 0 0) = some (.ptr 7 1 0 2) := rfl
  have a74 : aA 4 (.ptr 7 1 0 0) = some (.ptr 7 1 0 4) := rfl
  have a75 : aA 5 (.ptr 7 1 0 0) = some (.ptr 7 1 0 5) := rfl
  have l70 := fun l t => t70 G (bR 46 z) i l t
  have l71 := fun l t => t71 G (bR 46 z) i l t
  have l72 := fun l t => t72 G (bR 46 z) i l t
  have l74 := fun l t => t74 G (bR 46 z) i l t
  have l75 := fun l t => t75 G (bR 46 z) i l t
  have l7v := fun l t => t7v G (bR 46 z) i l t
  have pc1 : aQ Tryd.prog .add 3 true (I6 s.at_) (.int .i64 1) = some (I6 (s.at_ + 1)) := aBz (by omega) (by omega)
  have g : ∀ j, 0 ≤ j → j ≤ 31 → ∀ H, aD (aU.f G (k + 41)) [eQ t.regs, I6 j] H = some (Un (cO t.regs j), H) := fun j h0 h1 H => aE (H := H) (iS G (k + 40) t.regs tr j h0 h1) (by simp [eO, bC, gX]) rfl
  have gn := g i.n hok.n.1 hok.n.2
  have gd_ := g i.d hok.d.1 hok.d.2
  clear g s7
  have atn : t.next.at_ = s.at_ + 1 := by rw [← tat]; rfl
  unfold QS.act
  by_cases t1 : i.op = 18 ∨ i.op = 19
  ·rw [if_pos t1]
   have rg := aGl G (bR 46 z) (TB i) t tr
   have d10 : aJ .u64 (I6 i.imm) = some (Un (u64 i.imm)) := iG ..
   have d11 : aQ Tryd.prog .mul 43 true (.int .u64 8) (Un (u64 i.imm)) = some (Un (8 * u64 i.imm % 18446744073709551616)) := vH Tryd.prog 43 true 8 (u64 i.imm)
   have ea : t.next.addr i = t.addr i := rfl
   have d12 : aQ Tryd.prog .add 43 false (Un (cO t.regs i.n)) (Un (8 * u64 i.imm % 18446744073709551616)) = some (Un (t.addr i)) := qN ..
   have hal : t.addr i < 18446744073709551616 := by unfold QS.addr; exact Nat.mod_lt _ (by decide)
   unfold QS.touch
   rw [ea]
   generalize t.addr i = ad at *
   have d13 := uS ad hal
   have x33 := aIy G (bR 46 z) (TB i) t tr
   have x6 := aLn (bR 46 z) (TB i) t (3, mT ad) (by omega)
   have x7 := aKY (bR 46 z) (TB i) t (3, mT ad) tr
   have bl3 : aY [(0, 1), (1, 1)] [(.int .i64 0), (.int .i64 0)] [(0, (.int .i64 3)), (1, I6 (mT ad))] = some (kW (3, mT ad)) := rfl
   have br3 := br 3 (mT ad)
   obtain ⟨t2, ht2⟩ : ∃ t2, t2 = t.leak 3 (mT ad) := ⟨_, rfl⟩
   simp only at x7
   rw [← ht2] at x7
   have hm1 : t2.mem = t.mem := by rw [ht2]; rfl
   have hr1 : t2.regs = t.regs := by rw [ht2]; rfl
   have tr2 : t2.regs.length = 31 := by rw [hr1]; exact tr
   have d15 := aIk Tryd.prog 43 true ad
   have d16 := aJL Tryd.prog 43 true ad hal
   have d17 := aPm G (bR 46 z) (TB i) t2
   have d18 : dQ (.sl 2 t2.mem.length 0 t2.mem.length 1) = some (Nn t2.mem.length) := rfl
   have tb := okt.big
   have d19 : aJ .u64 (Nn t2.mem.length) = some (Un t2.mem.length) := by rw [fE, fF (by omega) (by rw [hm1]; omega)]
   have d20 : aQ Tryd.prog .neq 43 true (Un (ad % 8)) (.int .u64 0) = some (.bool (decide (ad % 8 ≠ 0))) := by rw [vB]; congr 2; simp only [decide_eq_decide]; omega
   have d21 : aQ Tryd.prog .geq 43 false (Un (ad / 8)) (Un t2.mem.length) = some (.bool (decide (t.mem.length ≤ ad / 8))) := by rw [mH, hm1]; congr 2; simp only [decide_eq_decide]; omega
   have nm : t.next.mem = t.mem := rfl
   have nr : t.next.regs = t.regs := rfl
   by_cases hbad : ad % 8 ≠ 0 ∨ t.mem.length ≤ ad / 8
   ·rw [nm, if_pos hbad]
    simp only [Bool.false_eq_true, if_false]
    have e4 : ({ t.next.leak 3 (mT ad) with code := 3 } : QS) = { t2 with at_ := s.at_ + 1 } := by
     rw [ht2, ← tc, ← tat]; rfl
    rw [e4]
    have l1 := rM (TB i) t2 tr2
    have l2 := sAll (TB i) t2 tr2
    have e5 : ({ t2 with at_ := s.at_ + 1 } : QS).cellsR = t2.cellsR := rfl
    rw [e5]
    clear ht2 e4 e5 ea rM sAll hm1 hr1 atn
    refine ⟨TB i, [.ro bor (iC cs), I6 fuel, .ptr 0 1 0 0, RX, .ptr 4 1 0 0, I6 s.at_], ?_, rfl⟩
    show _ = some (Ex.ret, _, kH (bR 46 t2.cellsR) (TB i) t2)
    refine jT ?_
    refine eC hcut ?_
    unfold xsR
    generalize t2.cellsR = tcs at *
    generalize kW (1, s.at_) = lv at *
    generalize kW (3, mT ad) = lv3 at *
    generalize 8 * u64 i.imm % 18446744073709551616 = u8i at *
    by_cases hx : ad % 8 ≠ 0
    ·rw [decide_eq_true hx] at d20
     have fx := aPQ f0 <| aPQ f1 <| aPQ f2 <| aPQ f33 <| aPQ f34 <| aPQ c2 <| aPQ n0 <| aPQ n1 <| aPQ c3 <| aPQ n2 <| aPQ n3 <| aPQ c4 <| aPQ c5 <| aPQ bl1 <| aPQ br1 <| aPQ c6 <| aPQ c7 <| aPQ c8 <| aPQ c9 <| aPQ of <| aPQ bx0 <| aPQ s7' <| aPQ a70 <| aPQ a71 <| aPQ a72 <| aPQ a74 <| aPQ a75 <| aPQ l70 <| aPQ pc1 <| aPQ l72 <| aPQ l75 <| aPQ rg <| aPQ gn <| aPQ d10 <| aPQ d11 <| aPQ d12 <| aPQ d13 <| aPQ x33 <| aPQ x6 <| aPQ x7 <| aPQ bl3 <| aPQ br3 <| aPQ d15 <| aPQ d16 <| aPQ d17 <| aPQ d18 <| aPQ d19 <| aPQ d20 <| aPQ d21 <| aPQ l1 <| l2
     refine gM ?_
     all_goals first | omega | (refine iA ?_; rfl)
    ·rw [decide_eq_false hx] at d20
     rw [decide_eq_true (by rcases hbad with h | h; exact absurd h hx; exact h)] at d21
     have fx := aPQ f0 <| aPQ f1 <| aPQ f2 <| aPQ f33 <| aPQ f34 <| aPQ c2 <| aPQ n0 <| aPQ n1 <| aPQ c3 <| aPQ n2 <| aPQ n3 <| aPQ c4 <| aPQ c5 <| aPQ bl1 <| aPQ br1 <| aPQ c6 <| aPQ c7 <| aPQ c8 <| aPQ c9 <| aPQ of <| aPQ bx0 <| aPQ s7' <| aPQ a70 <| aPQ a71 <| aPQ a72 <| aPQ a74 <| aPQ a75 <| aPQ l70 <| aPQ pc1 <| aPQ l72 <| aPQ l75 <| aPQ rg <| aPQ gn <| aPQ d10 <| aPQ d11 <| aPQ d12 <| aPQ d13 <| aPQ x33 <| aPQ x6 <| aPQ x7 <| aPQ bl3 <| aPQ br3 <| aPQ d15 <| aPQ d16 <| aPQ d17 <| aPQ d18 <| aPQ d19 <| aPQ d20 <| aPQ d21 <| aPQ l1 <| l2
     refine gM ?_
     all_goals first | omega | (refine iA ?_; rfl)
   rw [nm, if_neg hbad]
   have hb1 : ¬ (ad % 8 ≠ 0) := fun h => hbad (.inl h)
   have hb2 : ¬ (t.mem.length ≤ ad / 8) := fun h => hbad (.inr h)
   rw [decide_eq_false hb1] at d20
   rw [decide_eq_false hb2] at d21
   have d37 := aMI t2 (ad / 8)
   rw [if_pos (by rw [hm1]; omega)] at d37
   have rg2 := aGl G (bR 46 z) (TB i) t2 tr2
   rw [hr1] at rg2
   by_cases h18 : i.op = 18
   ·rw [if_pos h18]
    simp only [if_true]
    have d38 := aPl G (bR 46 z) (TB i) t2 (ad / 8) (by rw [hm1]; omega)
    have em : t2.mem.getD (ad / 8) 0 = t.mem.getD (ad / 8) 0 := by rw [hm1]
    rw [em] at d38
    have st : ∀ H, aD (aV.f G (k + 41)) [eQ t.regs, I6 i.d, Un (t.mem.getD (ad / 8) 0)] H = some (eQ (gC t.regs i.d (t.mem.getD (ad / 8) 0)), H) := fun H => aE (H := H) (iT G (k + 40) t.regs tr i.d hok.d.1 hok.d.2 _) (by simp [eO, bC, gX]) (by simp [fZ, kR])
    have d40 := aLL (bR 46 z) (TB i) t2 (gC t.regs i.d (t.mem.getD (ad / 8) 0)) (jC _ tr _ _) tr2
    refine ⟨TB i, ?_⟩
    have e6 : kH (bR 46 z) (TB i) { t.next.leak 3 (mT ad) with regs := gC t.next.regs i.d (t.mem.getD (ad / 8) 0) } = kH (bR 46 z) (TB i) { t2 with regs := gC t.regs i.d (t.mem.getD (ad / 8) 0) } := by
     rw [ht2]; rfl
    have e7 : (t.next.leak 3 (mT ad)).at_ = s.at_ + 1 := atn
    rw [e6, e7]
    clear ht2 e6 e7 ea rM sAll hm1 hr1 atn em
    refine jT ?_
    refine eC hcut ?_
    unfold xsR
    generalize kW (1, s.at_) = lv at *
    generalize kW (3, mT ad) = lv3 at *
    generalize 8 * u64 i.imm % 18446744073709551616 = u8i at *
    generalize t.mem.getD (ad / 8) 0 = mv at *
    generalize gC t.regs i.d mv = rq at *
    have fx := aPQ f0 <| aPQ f1 <| aPQ f2 <| aPQ f33 <| aPQ f34 <| aPQ c2 <| aPQ n0 <| aPQ n1 <| aPQ c3 <| aPQ n2 <| aPQ n3 <| aPQ c4 <| aPQ c5 <| aPQ bl1 <| aPQ br1 <| aPQ c6 <| aPQ c7 <| aPQ c8 <| aPQ c9 <| aPQ of <| aPQ bx0 <| aPQ s7' <| aPQ a70 <| aPQ a71 <| aPQ a72 <| aPQ a74 <| aPQ a75 <| aPQ l70 <| aPQ pc1 <| aPQ l71 <| aPQ l72 <| aPQ l75 <| aPQ rg <| aPQ rg2 <| aPQ gn <| aPQ d10 <| aPQ d11 <| aPQ d12 <| aPQ d13 <| aPQ x33 <| aPQ x6 <| aPQ x7 <| aPQ bl3 <| aPQ br3 <| aPQ d15 <| aPQ d16 <| aPQ d17 <| aPQ d18 <| aPQ d19 <| aPQ d20 <| aPQ d21 <| aPQ d37 <| aPQ d38 <| aPQ st <| d40
    refine gM ?_
    all_goals first | omega | (refine iA ?_; rfl)
   ·rw [if_neg h18]
    simp only [if_true]
    have d40 := aOW (bR 46 z) (TB i) t2 (ad / 8) (cO t.regs i.d) (by rw [hm1]; omega)
    refine ⟨TB i, ?_⟩
    have e6 : kH (bR 46 z) (TB i) { t.next.leak 3 (mT ad) with mem := t.mem.set (ad / 8) (cO t.next.regs i.d) } = kH (bR 46 z) (TB i) { t2 with mem := t2.mem.set (ad / 8) (cO t.regs i.d) } := by
     rw [ht2]; rfl
    have e7 : (t.next.leak 3 (mT ad)).at_ = s.at_ + 1 := atn
    rw [e6, e7]
    clear ht2 e6 e7 ea rM sAll hm1 hr1 atn
    refine jT ?_
    refine eC hcut ?_
    unfold xsR
    generalize kW (1, s.at_) = lv at *
    generalize kW (3, mT ad) = lv3 at *
    generalize 8 * u64 i.imm % 18446744073709551616 = u8i at *
    generalize cO t.regs i.d = rd at *
    have fx := aPQ f0 <| aPQ f1 <| aPQ f2 <| aPQ f33 <| aPQ f34 <| aPQ c2 <| aPQ n0 <| aPQ n1 <| aPQ c3 <| aPQ n2 <| aPQ n3 <| aPQ c4 <| aPQ c5 <| aPQ bl1 <| aPQ br1 <| aPQ c6 <| aPQ c7 <| aPQ c8 <| aPQ c9 <| aPQ of <| aPQ bx0 <| aPQ s7' <| aPQ a70 <| aPQ a71 <| aPQ a72 <| aPQ a74 <| aPQ a75 <| aPQ l70 <| aPQ pc1 <| aPQ l71 <| aPQ l72 <| aPQ l75 <| aPQ rg <| aPQ rg2 <| aPQ gn <| aPQ gd_ <| aPQ d10 <| aPQ d11 <| aPQ d12 <| aPQ d13 <| aPQ x33 <| aPQ x6 <| aPQ x7 <| aPQ bl3 <| aPQ br3 <| aPQ d15 <| aPQ d16 <| aPQ d17 <| aPQ d18 <| aPQ d19 <| aPQ d20 <| aPQ d21 <| aPQ d37 <| d40
    refine gM ?_
    all_goals first | omega | (refine iA ?_; rfl)
  rw [if_neg t1]
  by_cases t2 : i.op = 20 ∨ i.op = 21 ∨ i.op = 22 ∨ i.op = 23
  ·rw [if_pos t2]
   simp only [if_true]
   unfold QS.branch
   have jp : aQ Tryd.prog .add 3 false (I6 s.at_) (I6 i.imm) = some (I6 (s.at_ + i.imm)) := aBz (by omega) (by omega)
   have eat : t.next.at_ + (i.imm - 1) = s.at_ + i.imm := by rw [atn]; omega
   by_cases h20 : i.op = 20
   ·rw [if_pos h20]
    refine ⟨TB i, ?_⟩
    simp only
    rw [eat]
    show _ = lp _ (kH (bR 46 z) (TB i) t)
    clear rM sAll ht
    refine jT ?_
    refine eC hcut ?_
    unfold xsR
    generalize kW (1, s.at_) = lv at *
    generalize s.at_ + i.imm = at2 at *
    have fx := aPQ f0 <| aPQ f1 <| aPQ f2 <| aPQ f33 <| aPQ f34 <| aPQ c2 <| aPQ n0 <| aPQ n1 <| aPQ c3 <| aPQ n2 <| aPQ n3 <| aPQ c4 <| aPQ c5 <| aPQ bl1 <| aPQ br1 <| aPQ c6 <| aPQ c7 <| aPQ c8 <| aPQ c9 <| aPQ of <| aPQ bx0 <| aPQ s7' <| aPQ a70 <| aPQ a71 <| aPQ a72 <| aPQ a74 <| aPQ a75 <| aPQ l70 <| aPQ pc1 <| aPQ l75 <| jp
    refine gM ?_
    all_goals first | omega | (refine iA ?_; rfl)
   rw [if_neg h20]
   have fl := aLU G (bR 46 z) (TB i) t
   have rg := aGl G (bR 46 z) (TB i) t tr
   have hh : ∀ H, aD (bL.f G (k + 41)) [I6 i.a, t.flags.a] H = _ := fun H => aE (H := H) (rG G (k + 40) i.a t.flags) (by simp [eO, bC, FL.a]) rfl
   have e1 : aQ Tryd.prog .eql 43 true (Un (cO t.regs i.d)) (.int .u64 0) = some (.bool (decide (cO t.regs i.d = 0))) := by rw [kV]; congr 2; simp only [decide_eq_decide]; omega
   have e22 : aQ Tryd.prog .eql 3 true (I6 i.op) (.int .i64 22) = some (.bool (decide (i.op = 22))) := kV ..
   have eb : aQ Tryd.prog .eql 4 false (.bool (decide (cO t.regs i.d = 0))) (.bool (decide (i.op = 22))) = some (.bool (decide (cO t.regs i.d = 0) == decide (i.op = 22))) := qJ Tryd.underlying4 ..
   have n21 : aQ Tryd.prog .neq 3 true (I6 i.op) (.int .i64 21) = some (.bool (decide (i.op ≠ 21))) := vB ..
   have gg : t.next.goes i = if i.op = 21 then jR i.a t.flags else (decide (cO t.regs i.d = 0) == decide (i.op = 22)) := by
    unfold QS.goes
    have q1 : t.next.flags = t.flags := rfl
    have q2 : t.next.regs = t.regs := rfl
    rw [q1, q2]
    by_cases h21 : i.op = 21
    ·rw [if_pos h21, if_pos h21]
    rw [if_neg h21, if_neg h21]
    by_cases h22 : i.op = 22
    ·rw [if_pos h22, decide_eq_true h22]; simp
    ·rw [if_neg h22, decide_eq_false h22]; by_cases h : cO t.regs i.d = 0 <;> simp [h]
   have x33 := aIy G (bR 46 z) (TB i) t tr
   have one : ∀ b H, aD (bY.f G (k + 41)) [.bool b] H = some (I6 (if b = true then 1 else 0), H) := fun b H => aE (H := H) (aHk G (k + 40) b) rfl rfl
   cases hg : t.next.goes i
   ·have x6 := aLn (bR 46 z) (TB i) t (2, 0) (by omega)
    have x7 := aKY (bR 46 z) (TB i) t (2, 0) tr
    have bl3 : aY [(0, 1), (1, 1)] [(.int .i64 0), (.int .i64 0)] [(0, (.int .i64 2)), (1, .int .i64 0)] = some (kW (2, 0)) := rfl
    have br3 := br 2 0
    have ob : ∀ H, aD (bY.f G (k + 41)) [.bool false] H = some (.int .i64 0, H) := fun H => one false H
    simp only at x7
    simp only [Bool.false_eq_true, if_false]
    rw [hg] at gg
    refine ⟨TB i, ?_⟩
    have ez : (t.next.leak 2 0).at_ = s.at_ + 1 := atn
    rw [ez]
    show _ = lp _ (kH (bR 46 z) (TB i) (t.leak 2 0))
    clear rM sAll ht one br bl hg
    refine jT ?_
    refine eC hcut ?_
    unfold xsR
    generalize kW (1, s.at_) = lv at *
    generalize t.leak 2 0 = tl at *
    generalize kW (2, 0) = lv2 at *
    skip
    generalize jR i.a t.flags = hhh at *
    generalize decide (cO t.regs i.d = 0) = gz1 at *
    generalize cO t.regs i.d = rd at *
    by_cases h21 : i.op = 21
    ·rw [if_pos h21] at gg
     rw [← gg] at hh
     rw [decide_eq_false (fun h => h h21)] at n21
     have fx := aPQ f0 <| aPQ f1 <| aPQ f2 <| aPQ f33 <| aPQ f34 <| aPQ c2 <| aPQ n0 <| aPQ n1 <| aPQ c3 <| aPQ n2 <| aPQ n3 <| aPQ c4 <| aPQ c5 <| aPQ bl1 <| aPQ br1 <| aPQ c6 <| aPQ c7 <| aPQ c8 <| aPQ c9 <| aPQ of <| aPQ bx0 <| aPQ s7' <| aPQ a70 <| aPQ a71 <| aPQ a72 <| aPQ a74 <| aPQ a75 <| aPQ l70 <| aPQ pc1 <| aPQ l71 <| aPQ l74 <| aPQ l75 <| aPQ fl <| aPQ rg <| aPQ hh <| aPQ gd_ <| aPQ e1 <| aPQ e22 <| aPQ eb <| aPQ n21 <| aPQ x33 <| aPQ ob <| aPQ x6 <| aPQ x7 <| aPQ bl3 <| aPQ br3 <| jp
     refine gM ?_
     all_goals first | omega | (refine iA ?_; rfl)
    ·rw [if_neg h21] at gg
     rw [← gg] at eb
     rw [decide_eq_true h21] at n21
     by_cases h22 : i.op = 22
     ·rw [decide_eq_true h22] at e22 eb
      have fx := aPQ f0 <| aPQ f1 <| aPQ f2 <| aPQ f33 <| aPQ f34 <| aPQ c2 <| aPQ n0 <| aPQ n1 <| aPQ c3 <| aPQ n2 <| aPQ n3 <| aPQ c4 <| aPQ c5 <| aPQ bl1 <| aPQ br1 <| aPQ c6 <| aPQ c7 <| aPQ c8 <| aPQ c9 <| aPQ of <| aPQ bx0 <| aPQ s7' <| aPQ a70 <| aPQ a71 <| aPQ a72 <| aPQ a74 <| aPQ a75 <| aPQ l70 <| aPQ pc1 <| aPQ l71 <| aPQ l74 <| aPQ l75 <| aPQ fl <| aPQ rg <| aPQ hh <| aPQ gd_ <| aPQ e1 <| aPQ e22 <| aPQ eb <| aPQ n21 <| aPQ x33 <| aPQ ob <| aPQ x6 <| aPQ x7 <| aPQ bl3 <| aPQ br3 <| jp
      refine gM ?_
      all_goals first | omega | (refine iA ?_; rfl)
     ·rw [decide_eq_false h22] at e22 eb
      have fx := aPQ f0 <| aPQ f1 <| aPQ f2 <| aPQ f33 <| aPQ f34 <| aPQ c2 <| aPQ n0 <| aPQ n1 <| aPQ c3 <| aPQ n2 <| aPQ n3 <| aPQ c4 <| aPQ c5 <| aPQ bl1 <| aPQ br1 <| aPQ c6 <| aPQ c7 <| aPQ c8 <| aPQ c9 <| aPQ of <| aPQ bx0 <| aPQ s7' <| aPQ a70 <| aPQ a71 <| aPQ a72 <| aPQ a74 <| aPQ a75 <| aPQ l70 <| aPQ pc1 <| aPQ l71 <| aPQ l74 <| aPQ l75 <| aPQ fl <| aPQ rg <| aPQ hh <| aPQ gd_ <| aPQ e1 <| aPQ e22 <| aPQ eb <| aPQ n21 <| aPQ x33 <| aPQ ob <| aPQ x6 <| aPQ x7 <| aPQ bl3 <| aPQ br3 <| jp
      refine gM ?_
      all_goals first | omega | (refine iA ?_; rfl)
   ·have x6 := aLn (bR 46 z) (TB i) t (2, 1) (by omega)
    have x7 := aKY (bR 46 z) (TB i) t (2, 1) tr
    have bl3 : aY [(0, 1), (1, 1)] [(.int .i64 0), (.int .i64 0)] [(0, (.int .i64 2)), (1, .int .i64 1)] = some (kW (2, 1)) := rfl
    have br3 := br 2 1
    have ob : ∀ H, aD (bY.f G (k + 41)) [.bool true] H = some (.int .i64 1, H) := fun H => one true H
    simp only at x7
    simp only [if_true]
    rw [hg] at gg
    refine ⟨TB i, ?_⟩
    rw [eat]
    show _ = lp _ (kH (bR 46 z) (TB i) (t.leak 2 1))
    skip
    clear rM sAll ht one br bl hg
    refine jT ?_
    refine eC hcut ?_
    unfold xsR
    generalize kW (1, s.at_) = lv at *
    generalize t.leak 2 1 = tl at *
    generalize kW (2, 1) = lv2 at *
    generalize s.at_ + i.imm = at2 at *
    generalize jR i.a t.flags = hhh at *
    generalize decide (cO t.regs i.d = 0) = gz1 at *
    generalize cO t.regs i.d = rd at *
    by_cases h21 : i.op = 21
    ·rw [if_pos h21] at gg
     rw [← gg] at hh
     rw [decide_eq_false (fun h => h h21)] at n21
     have fx := aPQ f0 <| aPQ f1 <| aPQ f2 <| aPQ f33 <| aPQ f34 <| aPQ c2 <| aPQ n0 <| aPQ n1 <| aPQ c3 <| aPQ n2 <| aPQ n3 <| aPQ c4 <| aPQ c5 <| aPQ bl1 <| aPQ br1 <| aPQ c6 <| aPQ c7 <| aPQ c8 <| aPQ c9 <| aPQ of <| aPQ bx0 <| aPQ s7' <| aPQ a70 <| aPQ a71 <| aPQ a72 <| aPQ a74 <| aPQ a75 <| aPQ l70 <| aPQ pc1 <| aPQ l71 <| aPQ l74 <| aPQ l75 <| aPQ fl <| aPQ rg <| aPQ hh <| aPQ gd_ <| aPQ e1 <| aPQ e22 <| aPQ eb <| aPQ n21 <| aPQ x33 <| aPQ ob <| aPQ x6 <| aPQ x7 <| aPQ bl3 <| aPQ br3 <| jp
     refine gM ?_
     all_goals first | omega | (refine iA ?_; rfl)
    ·rw [if_neg h21] at gg
     rw [← gg] at eb
     rw [decide_eq_true h21] at n21
     by_cases h22 : i.op = 22
     ·rw [decide_eq_true h22] at e22 eb
      have fx := aPQ f0 <| aPQ f1 <| aPQ f2 <| aPQ f33 <| aPQ f34 <| aPQ c2 <| aPQ n0 <| aPQ n1 <| aPQ c3 <| aPQ n2 <| aPQ n3 <| aPQ c4 <| aPQ c5 <| aPQ bl1 <| aPQ br1 <| aPQ c6 <| aPQ c7 <| aPQ c8 <| aPQ c9 <| aPQ of <| aPQ bx0 <| aPQ s7' <| aPQ a70 <| aPQ a71 <| aPQ a72 <| aPQ a74 <| aPQ a75 <| aPQ l70 <| aPQ pc1 <| aPQ l71 <| aPQ l74 <| aPQ l75 <| aPQ fl <| aPQ rg <| aPQ hh <| aPQ gd_ <| aPQ e1 <| aPQ e22 <| aPQ eb <| aPQ n21 <| aPQ x33 <| aPQ ob <| aPQ x6 <| aPQ x7 <| aPQ bl3 <| aPQ br3 <| jp
      refine gM ?_
      all_goals first | omega | (refine iA ?_; rfl)
     ·rw [decide_eq_false h22] at e22 eb
      have fx := aPQ f0 <| aPQ f1 <| aPQ f2 <| aPQ f33 <| aPQ f34 <| aPQ c2 <| aPQ n0 <| aPQ n1 <| aPQ c3 <| aPQ n2 <| aPQ n3 <| aPQ c4 <| aPQ c5 <| aPQ bl1 <| aPQ br1 <| aPQ c6 <| aPQ c7 <| aPQ c8 <| aPQ c9 <| aPQ of <| aPQ bx0 <| aPQ s7' <| aPQ a70 <| aPQ a71 <| aPQ a72 <| aPQ a74 <| aPQ a75 <| aPQ l70 <| aPQ pc1 <| aPQ l71 <| aPQ l74 <| aPQ l75 <| aPQ fl <| aPQ rg <| aPQ hh <| aPQ gd_ <| aPQ e1 <| aPQ e22 <| aPQ eb <| aPQ n21 <| aPQ x33 <| aPQ ob <| aPQ x6 <| aPQ x7 <| aPQ bl3 <| aPQ br3 <| jp
      refine gM ?_
      all_goals first | omega | (refine iA ?_; rfl)
  rw [if_neg t2]
  by_cases t3 : i.op = 24
  ·rw [if_pos t3]
   simp only [Bool.false_eq_true, if_false]
   by_cases t4 : i.imm ≤ 2
   ·rw [if_pos t4]
    have q4 : aQ Tryd.prog .leq 3 true (I6 i.imm) (.int .i64 2) = some (.bool true) := sO t4
    have x0 := aOa (bR 46 z) (TB i) t i.imm tr
    have l1 := rM (TB i) { t with code := i.imm } tr
    have l2 := sAll (TB i) { t with code := i.imm } tr
    refine ⟨TB i, [.ro bor (iC cs), I6 fuel, .ptr 0 1 0 0, RX, .ptr 4 1 0 0, I6 s.at_], ?_, rfl⟩
    show _ = some (Ex.ret, _, kH (bR 46 (QS.cellsR { t with code := i.imm })) (TB i) { t with code := i.imm })
    clear rM sAll ht br bl
    refine jT ?_
    refine eC hcut ?_
    unfold xsR
    generalize kW (1, s.at_) = lv at *
    generalize (QS.cellsR { t with code := i.imm }) = tcs at *
    have fx := aPQ f0 <| aPQ f1 <| aPQ f2 <| aPQ f33 <| aPQ f34 <| aPQ c2 <| aPQ n0 <| aPQ n1 <| aPQ c3 <| aPQ n2 <| aPQ n3 <| aPQ c4 <| aPQ c5 <| aPQ bl1 <| aPQ br1 <| aPQ c6 <| aPQ c7 <| aPQ c8 <| aPQ c9 <| aPQ of <| aPQ bx0 <| aPQ s7' <| aPQ a70 <| aPQ a71 <| aPQ a72 <| aPQ a74 <| aPQ a75 <| aPQ l70 <| aPQ pc1 <| aPQ l75 <| aPQ q4 <| aPQ x0 <| aPQ l1 <| l2
    refine gM ?_
    all_goals first | omega | (refine iA ?_; rfl)
   ·rw [if_neg t4]
    have q4 : aQ Tryd.prog .leq 3 true (I6 i.imm) (.int .i64 2) = some (.bool false) := zK (by omega)
    have l1 := rM (TB i) t tr
    have l2 := sAll (TB i) t tr
    have e5 : ({ t.next with code := 3 } : QS) = { t with at_ := s.at_ + 1 } := by rw [← tc, ← tat]; rfl
    rw [e5]
    refine ⟨TB i, [.ro bor (iC cs), I6 fuel, .ptr 0 1 0 0, RX, .ptr 4 1 0 0, I6 s.at_], ?_, rfl⟩
    show _ = some (Ex.ret, _, kH (bR 46 t.cellsR) (TB i) t)
    clear rM sAll ht br bl e5
    refine jT ?_
    refine eC hcut ?_
    unfold xsR
    generalize kW (1, s.at_) = lv at *
    generalize t.cellsR = tcs at *
    have fx := aPQ f0 <| aPQ f1 <| aPQ f2 <| aPQ f33 <| aPQ f34 <| aPQ c2 <| aPQ n0 <| aPQ n1 <| aPQ c3 <| aPQ n2 <| aPQ n3 <| aPQ c4 <| aPQ c5 <| aPQ bl1 <| aPQ br1 <| aPQ c6 <| aPQ c7 <| aPQ c8 <| aPQ c9 <| aPQ of <| aPQ bx0 <| aPQ s7' <| aPQ a70 <| aPQ a71 <| aPQ a72 <| aPQ a74 <| aPQ a75 <| aPQ l70 <| aPQ pc1 <| aPQ l75 <| aPQ q4 <| aPQ l1 <| l2
    refine gM ?_
    all_goals first | omega | (refine iA ?_; rfl)
  rw [if_neg t3]
  simp only [if_true]
  have h17 : i.op ≤ 17 := by omega
  have rg := aGl G (bR 46 z) (TB i) t tr
  have fl := aLU G (bR 46 z) (TB i) t
  have pl : eO [i.v, eQ t.regs, t.flags.a] = true := by simp [eO, bC, gX, MI.v, FL.a]
  have cl : fZ (pT (aJe i t.regs t.flags)) = true := by simp [fZ, jH, kR, FL.a]
  have on : ∀ H, aD (aM.f G (k + 41)) [i.v, eQ t.regs, t.flags.a] H = _ := fun H => aE (H := H) (aHG G (k + 34) i t.regs okt.rg t.flags) pl cl
  have eo : aJe i t.regs t.flags = ((dD i t.regs t.flags).1, (dD i t.regs t.flags).2, true) := by
   unfold aJe; rw [if_pos ⟨hri, h17⟩]
  have hq := (aEh i okt.rg t.flags).len
  have nr : t.next.regs = t.regs := rfl
  have nf : t.next.flags = t.flags := rfl
  rw [nr, nf]
  rw [eo] at on
  unfold pT at on
  simp only at on
  generalize dD i t.regs t.flags = dd at *
  obtain ⟨q, f⟩ := dd
  simp only at hq on ⊢
  have b44 : fI 44 (eQ Z) (kH (bR 46 z) (TB i) t) = some (.ptr 8 1 0 0, kH (bR 46 z) [⟨57, 6, [i.v]⟩, ⟨44, 31, [eQ Z]⟩] t) := mE Z hZ _
  have b53 : fI 53 (.agg [.bool false, .bool false, .bool false, .bool false]) (kH (bR 46 z) [⟨57, 6, [i.v]⟩, ⟨44, 31, [eQ Z]⟩] t) = some (.ptr 9 1 0 0, kH (bR 46 z) [⟨57, 6, [i.v]⟩, ⟨44, 31, [eQ Z]⟩, ⟨53, 4, [jO.a]⟩] t) := rfl
  have s44 : fB (aL 31 (.ptr 8 1 0 0) (eQ q) (kH (bR 46 z) [⟨57, 6, [i.v]⟩, ⟨44, 31, [eQ Z]⟩, ⟨53, 4, [jO.a]⟩] t)) = some (.tup [], kH (bR 46 z) [⟨57, 6, [i.v]⟩, ⟨44, 31, [eQ q]⟩, ⟨53, 4, [jO.a]⟩] t) := mG hq hZ rfl
  have s53 : fB (aL 4 (.ptr 9 1 0 0) f.a (kH (bR 46 z) [⟨57, 6, [i.v]⟩, ⟨44, 31, [eQ q]⟩, ⟨53, 4, [jO.a]⟩] t)) = some (.tup [], kH (bR 46 z) [⟨57, 6, [i.v]⟩, ⟨44, 31, [eQ q]⟩, ⟨53, 4, [f.a]⟩] t) := rfl
  have l44 : aC G true 31 (.ptr 8 1 0 0) (kH (bR 46 z) [⟨57, 6, [i.v]⟩, ⟨44, 31, [eQ q]⟩, ⟨53, 4, [f.a]⟩] t) = some (eQ q) := aHu G hq rfl
  have w44 := aLL (bR 46 z) [⟨57, 6, [i.v]⟩, ⟨44, 31, [eQ q]⟩, ⟨53, 4, [f.a]⟩] t q hq tr
  have l53 : aC G true 4 (.ptr 9 1 0 0) (kH (bR 46 z) [⟨57, 6, [i.v]⟩, ⟨44, 31, [eQ q]⟩, ⟨53, 4, [f.a]⟩] { t with regs := q }) = some f.a := rfl
  have w53 := aOe (bR 46 z) [⟨57, 6, [i.v]⟩, ⟨44, 31, [eQ q]⟩, ⟨53, 4, [f.a]⟩] { t with regs := q } f
  refine ⟨[⟨57, 6, [i.v]⟩, ⟨44, 31, [eQ q]⟩, ⟨53, 4, [f.a]⟩], ?_⟩
  show _ = lp (xsR fuel bor cs t.next.at_) (kH (bR 46 z) [⟨57, 6, [i.v]⟩, ⟨44, 31, [eQ q]⟩, ⟨53, 4, [f.a]⟩] { t with regs := q, flags := f })
  rw [atn]
  clear rM sAll ht br bl nr nf eo
  refine jT ?_
  refine eC hcut ?_
  unfold xsR
  generalize kW (1, s.at_) = lv at *
  have fx := aPQ f0 <| aPQ f1 <| aPQ f2 <| aPQ f33 <| aPQ f34 <| aPQ c2 <| aPQ n0 <| aPQ n1 <| aPQ c3 <| aPQ n2 <| aPQ n3 <| aPQ c4 <| aPQ c5 <| aPQ bl1 <| aPQ br1 <| aPQ c6 <| aPQ c7 <| aPQ c8 <| aPQ c9 <| aPQ of <| aPQ bx0 <| aPQ s7' <| aPQ a70 <| aPQ a71 <| aPQ a72 <| aPQ a74 <| aPQ a75 <| aPQ l70 <| aPQ pc1 <| aPQ l7v <| aPQ rg <| aPQ fl <| aPQ on <| aPQ b44 <| aPQ b53 <| aPQ s44 <| aPQ s53 <| aPQ l44 <| aPQ w44 <| aPQ l53 <| w53
  refine gM ?_
  all_goals first | omega | (refine iA ?_; rfl)
end
end Go.Proofs.YtdfglgnflldkpaaDoor.Mir
