/- Printed by rowgen.py: the row of AllocMeans, out of its law in plain Lean. -/
import Derived.Test.YtlkgkfgkiidhdaaDoorVh9
import Derived.KernelRfl
import Derived.Test.YtlkgkfgkiidhdaaDoorTie
import Derived.Test.YtlkgkfgkiidhdaaDoorCards
import Derived.SevenTiedAt
namespace Go.Proofs.YtlkgkfgkiidhdaaDoor.Mir
open Go
set_option linter.unusedSimpArgs false
set_option linter.unusedVariables false
set_option maxHeartbeats 8000000
set_option maxRecDepth 20000
def rA (n : Nat) (R M : Int) (m : Nat) : Prop := n ≤ 60 ∧ R ≤ 60 ∧ M ≤ 80 ∧ m ≤ 80
instance (n : Nat) (R M : Int) (m : Nat) : Decidable (rA n R M m) := by unfold rA; infer_instance
theorem aDK (G : aF) (k : Nat) (cs : List WI) (R M : Int) (mem : List Nat) :
  bZ.f G (k + 1) [cV false cs R M, .ro false (dF mem)] [] = some (.bool (decide (rA cs.length R M mem.length)), []) := by
 rw [bZ.step]
 unfold bZ.c cV
 have l1 : dN (.ro false (cL cs)) = some (I6 cs.length) := by simp [dN, fR]
 have l2 : dN (.ro false (dF mem)) = some (I6 mem.length) := by simp [dN, gG]
 refine gS ?_
 repeat' first
  | (with_reducible first | refine eT ?_ | refine eN ?_ | refine eS ?_ | refine eXn ?_ | refine eXr ?_ | refine eX ?_ | refine eI ?_ | refine eK ?_ | refine eV0 ?_ | refine yC ?_ | refine yF ?_ | refine xZ ?_ | refine yE ?_ | refine yA ?_ | refine yB ?_)
  | ((with_reducible apply eCn); (simp only [fF, fE]; first | done | (with_reducible exact rfl)))
  | ((with_reducible apply eJ); (rfl))
  | ((with_reducible apply yD); (first | rfl | (simp only [fF, fE]; rfl)))
  | ((with_reducible apply eB); (first | (with_reducible exact rfl) | (simp (disch := omega) only [qf, l1, l2]; first | done | (with_reducible exact rfl) | (with_reducible exact ⟨rfl, rfl⟩)) | (simp (disch := omega) only [qa, kD, AV.cells, gH, cX, kG, fS, hO, jJ, Nat.reduceLeDiff, Nat.reduceLT, Nat.reduceAdd, ↓reduceIte, l1, l2]; first | done | (with_reducible exact rfl) | (with_reducible exact ⟨rfl, rfl⟩))))
  | ((with_reducible apply eR); (simp only [fF, fE]; (with_reducible exact rfl)))
  | ((with_reducible first | refine aBn ?_ ?_ | refine aBs ?_ ?_ | refine aBr ?_ ?_ | refine aBq ?_ ?_ | refine aBp ?_ ?_ | refine aBo ?_ ?_ | refine aBt ?_ ?_ | refine sV ?_ ?_ | refine sGd ?_ ?_ | refine rW ?_ ?_) <;> intro hq <;> try subst hq)
 all_goals (refine w1b ?_; first | exact (decide_eq_true (by unfold rA; omega)).symm | exact (decide_eq_false (by unfold rA; omega)).symm)
theorem aDS (G : aF) (k : Nat) (cs : List WI) (R M : Int) : bS.f G (k + 1) [cV false cs R M] [] = some (cV false cs R M, []) := by
 rw [bS.step]
 unfold bS.c cV
 refine gS ?_
 repeat' first
  | (with_reducible first | refine eT ?_ | refine eN ?_ | refine eS ?_ | refine eXn ?_ | refine eXr ?_ | refine eX ?_ | refine eI ?_ | refine eK ?_ | refine eV0 ?_ | refine yC ?_ | refine yF ?_ | refine xZ ?_ | refine yE ?_ | refine yA ?_ | refine yB ?_)
  | ((with_reducible apply eCn); (simp only [fF, fE]; first | done | (with_reducible exact rfl)))
  | ((with_reducible apply eJ); (rfl))
  | ((with_reducible apply yD); (first | rfl | (simp only [fF, fE]; rfl)))
  | ((with_reducible apply eB); (first | (with_reducible exact rfl) | (simp (disch := omega) only [qa, kD, AV.cells, gH, cX, kG, fS, hO, jJ, Nat.reduceLeDiff, Nat.reduceLT, Nat.reduceAdd, ↓reduceIte]; first | done | (with_reducible exact rfl) | (with_reducible exact ⟨rfl, rfl⟩))))
  | ((with_reducible apply eR); (simp only [fF, fE]; (with_reducible exact rfl)))
  | ((with_reducible first | refine aBn ?_ ?_ | refine aBs ?_ ?_ | refine aBr ?_ ?_ | refine aBq ?_ ?_ | refine aBp ?_ ?_ | refine aBo ?_ ?_ | refine aBt ?_ ?_ | refine sV ?_ ?_ | refine sGd ?_ ?_ | refine rW ?_ ?_) <;> intro hq <;> try subst hq)
 refine oF ?_
 unfold hJ
 exact mG (by simp [cE, cJ, gD, AV.cells]) _
theorem aIm (G : aF) (k : Nat) : cZ.f G (k + 150) [] [] = some (.bool true, []) := by kernel_rfl
theorem aFC (n : Nat) : List.replicate n (AV.int .u64 0) = dF (List.replicate n 0) := by unfold dF; rw [List.map_replicate]; rfl
theorem aDE (G : aF) (k : Nat) (bm : Bool) (mem : List Nat) (n : Nat) (hn : n ≤ 100000) : bY.f G (k + 1) [.ro bm (dF mem), Nn n] [] = some (.ro false (dF (gX mem n)), []) := by
 rw [bY.step]
 unfold bY.c
 have m1 : fA 30 1 (.int .u64 0) (Nn n) (Nn n) [] = some (.sl 0 n 0 n 1, [⟨30, 1, dF (List.replicate n 0)⟩]) := by
  unfold fA
  simp only [Int.toNat_natCast]
  rw [if_pos (by omega), aFC]; rfl
 have c1 : wE (.sl 0 n 0 n 1) (.ro bm (dF mem)) [⟨30, 1, dF (List.replicate n 0)⟩] = some (.int .i64 ((min mem.length n : Nat) : Int), [⟨30, 1, dF (gX mem n)⟩]) := by
  have e2 : iF (.ro bm (dF mem)) [⟨30, 1, dF (List.replicate n 0)⟩] = some (dF mem) := rfl
  have e1 : ([⟨30, 1, dF (List.replicate n 0)⟩] : aB)[0]? = some ⟨30, 1, dF (List.replicate n 0)⟩ := rfl
  unfold wE
  simp only [e1, e2, gG, List.length_replicate, rK]
  rw [if_pos (by refine ⟨trivial, trivial, ?_, trivial⟩; omega)]
  have e3 : (dF (List.replicate n 0)).take 0 ++ ((dF mem).take n ++ (dF (List.replicate n 0)).drop (0 + ((dF mem).take n).length)) = dF (gX mem n) := by
   unfold gX dF
   simp only [List.take_zero, List.nil_append, Nat.zero_add, List.map_append, List.map_take, List.map_replicate, List.length_take, List.length_map, List.drop_replicate]
   congr 2
   omega
  rw [e3]; rfl
 have gl := aAP (x := .sl 0 n 0 n 1) (y := .ro false (dF (gX mem n))) (n := 0) (H := [⟨30, 1, dF (gX mem n)⟩]) (by
  by_cases h : mem.length ≤ n
  ·exact tI (ty := 30) (xs := dF (gX mem n)) rfl (by omega) (by rw [gG, tK _ _ h]) (rK _) (iV 0 _)
  ·refine tI (ty := 30) (xs := dF (gX mem n)) rfl (by omega) ?_ (rK _) (iV 0 _)
   rw [gG]; unfold gX; simp; omega) rfl
 refine gS ?_
 have fx := aMC m1 <| c1
 refine gV ?_
 exact oF gl
theorem aGo {l m : List Nat} (hl : l.length = m.length) (h : ∀ j, j < l.length → l.getD j 0 = m.getD j 0) : l = m := by
 refine List.ext_getElem hl fun i h1 h2 => ?_
 have := h i h1
 rw [List.getD_eq_getElem?_getD, List.getD_eq_getElem?_getD, List.getElem?_eq_getElem h1, List.getElem?_eq_getElem h2] at this
 exact this
structure Does (ws : List WI) (R M : Nat) (ot : List WI) (R2 M2 : Nat) : Prop where
 valid : gO ot R2 M2 = .ok
 ge : M ≤ M2
 le : M2 ≤ M + R
 len : ot.length ≤ 480
 run : ∃ ml : List (Int × Int) → List (Int × Int), ∀ (mem : List Nat) (s' : MS), mem.length = M → (∀ x ∈ mem, x < 18446744073709551616) → jW ws 400 7999 (s0 R mem) = some s' → s'.code ≠ 4 →
  ∃ q', jW ot 3264 7999 (s0 R2 (gX mem M2)) = some q' ∧ q'.code = s'.code ∧ q'.mem.take M = s'.mem ∧ q'.mem.length = M2 ∧ s'.mem.length = M ∧ q'.leaks = ml s'.leaks
theorem aFX (G : aF) (hg : GOk G) (bor : Bool) (ws : List WI) (R M S : Nat) (h : gO ws R M = .ok) (hl : ws.length ≤ 60) (hR : R ≤ 60) (hM : M ≤ 80) (hs : 6 ≤ S ∧ S ≤ 28) :
  ∃ (ot : List WI) (R2 M2 : Nat), bX.f G 8000 [cV bor ws R M, Nn S] [] = some (.tup [cV false ot R2 M2, .nili], []) ∧ R2 ≤ S ∧ Does ws R M ot R2 M2 := by
 have hok := rE h
 rw [Int.toNat_natCast] at hok
 by_cases hRS : R ≤ S
 ·refine ⟨ws, R, M, aFg G hg 7991 bor ws R M S (by omega) (by omega) h hs hRS, hRS, ⟨h, Nat.le_refl _, by omega, by omega, id, fun mem s' hm hmm hrun hc => ?_⟩⟩
  have eg : gX mem M = mem := by unfold gX; rw [List.take_of_length_le (by omega), hm, Nat.sub_self]; simp
  have hml := (aEV ws 400 R (by decide) (fun j hj => (hok j hj).ok) _ _ _ hrun (aHG R mem hmm (by omega)) (by simp [s0]) (by simp [s0])).2.2
  have hml' : s'.mem.length = M := by rw [hml]; exact hm
  refine ⟨s', by rw [eg]; exact xB (by decide) _ _ _ hrun hc (by simp [s0]), rfl, List.take_of_length_le (by omega), hml', hml', rfl⟩
 ·obtain ⟨o, pm, ha⟩ := aDm G hg 7960 bor ws R M S (by omega) h hs (by omega) (by omega) (by omega) (by decide) (by omega) (by omega)
  have hL := aIs (M := M) pm hs.1 (by omega) (by omega)
  have hnone := aDf h
  have hgood := uU h
  rw [Int.toNat_natCast] at hgood
  have hout := aFF hL (by omega) hnone (by omega)
  have hlen : ((kR R S M o).out ws).length ≤ 480 := by
   have := qB (kR R S M o) ws
   rw [oL]; omega
  refine ⟨_, S, M + (R + 4 - S), ha, Nat.le_refl _, ⟨hout, by omega, by omega, hlen, (kR R S M o).mlk ws 0, fun mem s' hm hmm hrun hc => ?_⟩⟩
  obtain ⟨q', e1, e2, e3, e4⟩ := aIL (K := 7999) (f := 7999) (fuel := 3264) (F := 400) hL hgood (by decide) (by decide) (by decide) mem hm hmm s' hrun hc (by decide)
  refine ⟨q', e1, e2, ?_, e3.qml, e3.sml, e4⟩
  have hsm : s'.mem.length = M := e3.sml
  have hqm := e3.qml
  refine aGo (by rw [List.length_take, hsm, hqm]; omega) fun j hj => ?_
  rw [List.length_take, hqm] at hj
  have := e3.mem j (by show j < M; omega)
  rw [← this, List.getD_eq_getElem?_getD, List.getElem?_take_of_lt (by omega), ← List.getD_eq_getElem?_getD]
end Go.Proofs.YtlkgkfgkiidhdaaDoor.Mir
namespace Go.Proofs.YtlkgkfgkiidhdaaDoor
open Go Go.Proofs.YtlkgkfgkiidhdaaDoor.Mir
set_option linter.unusedVariables false
set_option linter.unusedSimpArgs false
set_option maxHeartbeats 8000000
set_option maxRecDepth 20000
theorem aFB (ws : List WI) (r m s : Int) (mem : List Nat) (hmm : ∀ x ∈ mem, x < 18446744073709551616) :
  alembiclaw21_AllocMeans.f GA 8001 [cV false ws r m, I6 s, .ro false (dF mem)] [] = some (.bool true, []) := by
 have hG := aKL
 have pc := lH false ws r m
 have plainU : ∀ l, gC (dF l) = true := fun l => rB _ (fun _ => rfl) l
 have rf : ∀ H, aU (cZ.f GA 8000) [] H = _ := fun H => cD (H := H) (aIm GA 7850) rfl rfl
 have rl : ∀ H, aU (bZ.f GA 8000) [cV false ws r m, .ro false (dF mem)] H = _ := fun H => cD (H := H) (aDK GA 7999 ws r m mem) (by simp [gC, pc, bR, plainU]) rfl
 have ro_ : ∀ ws r m H, aU (bS.f GA 8000) [cV false ws r m] H = _ := fun ws r m H => cD (H := H) (aDS GA 7999 ws r m) (by simp [gC, lH]) (by simp [gU, iY, aGi, cV])
 have b1 : ∀ H, gB (cV false ws r m) H = some (.rp false (cV false ws r m) 0, H) := fun H => rfl
 have d1 : ∀ H, aD GA true 3 (.rp false (cV false ws r m) 0) H = some (cV false ws r m) := fun H => rfl
 have d2 : aA 2 (.rp false (cV false ws r m) 0) = some (.rp false (cV false ws r m) 2) := rfl
 have d3 : ∀ H, aD GA false 1 (.rp false (cV false ws r m) 2) H = some (I6 m) := fun H => rfl
 have d4 : aA 1 (.rp false (cV false ws r m) 0) = some (.rp false (cV false ws r m) 1) := rfl
 have d5 : ∀ H, aD GA false 1 (.rp false (cV false ws r m) 1) H = some (I6 r) := fun H => rfl
 have lm : dN (.ro false (dF mem)) = some (I6 mem.length) := by simp [dN, gG]
 have le : dN .nils = some (.int .i64 0) := rfl
 have bx0 : fV 54 (.agg [.int .i64 0, .bool false, .int .i64 0]) [] = some (.ptr 0 1 0 0, [⟨54, 3, [.agg [.int .i64 0, .bool false, .int .i64 0]]⟩]) := rfl
 rw [alembiclaw21_AllocMeans.step]
 unfold alembiclaw21_AllocMeans.c
 refine gS ?_
 by_cases hl : ¬ rA ws.length r m mem.length
 ·rw [decide_eq_false hl] at rl
  generalize cV false ws r m = C at *
  have fx := aMC rf <| aMC rl <| aMC b1 <| d1
  refine gV ?_
  exact w1b rfl
 replace hl := Classical.not_not.1 hl
 rw [decide_eq_true hl] at rl
 unfold rA at hl
 have rv : ∀ H, aU (bF.f GA 8000) [cV false ws r m] H = _ := fun H => cD (H := H) (aCV GA 7997 ws r m (by omega) (by omega)) (by simp [gC, pc]) (zA _)
 have rs : ∀ v, v.low → ∀ H, aU (cW.f GA 8000) [tC v, rZ v] H = _ := fun v hv H => cD (H := H) (aHH 7959 v hv) (by simp [gC, aAc, zB]) rfl
 have rb : ∀ c H, aU (cK.f GA 8000) [I6 c] H = _ := fun c H => cD (H := H) (yN GA 7999 c) rfl rfl
 have st : ∀ v, fP (aT 3 (.ptr 0 1 0 0) (rZ v) [⟨54, 3, [.agg [.int .i64 0, .bool false, .int .i64 0]]⟩]) = some (.tup [], [⟨54, 3, [rZ v]⟩]) := fun v => by cases v <;> rfl
 have ld : ∀ v l, aD GA true 3 (.ptr 0 1 0 0) (⟨54, 3, [rZ v]⟩ :: l) = some (rZ v) := fun v l => by cases v <;> rfl
 have hlow := aEf ws r m
 have k0 : aA 0 (.ptr 0 1 0 0) = some (.ptr 0 1 0 0) := rfl
 have j0 : aA 0 (.ptr 1 1 0 0) = some (.ptr 1 1 0 0) := rfl
 have j1 : aA 1 (.ptr 1 1 0 0) = some (.ptr 1 1 0 1) := rfl
 have j2 : aA 2 (.ptr 1 1 0 0) = some (.ptr 1 1 0 2) := rfl
 have bx1 : ∀ w, fV 27 (.agg [.nils, .int .i64 0, .int .i64 0]) [⟨54, 3, [w]⟩] = some (.ptr 1 1 0 0, [⟨54, 3, [w]⟩, ⟨27, 3, [zC]⟩]) := fun w => rfl
 have sz : ∀ w, fP (aT 3 (.ptr 1 1 0 0) zC [⟨54, 3, [w]⟩, ⟨27, 3, [zC]⟩]) = some (.tup [], [⟨54, 3, [w]⟩, ⟨27, 3, [zC]⟩]) := fun w => rfl
 have z0 : ∀ w l, aD GA false 1 (.ptr 1 1 0 0) (⟨54, 3, [w]⟩ :: ⟨27, 3, [zC]⟩ :: l) = some .nils := fun w l => rfl
 have z1 : ∀ w l, aD GA false 1 (.ptr 1 1 0 1) (⟨54, 3, [w]⟩ :: ⟨27, 3, [zC]⟩ :: l) = some (.int .i64 0) := fun w l => rfl
 have z2 : ∀ w l, aD GA false 1 (.ptr 1 1 0 2) (⟨54, 3, [w]⟩ :: ⟨27, 3, [zC]⟩ :: l) = some (.int .i64 0) := fun w l => rfl
 by_cases hv : gO ws r m ≠ .ok
 ·have rr : ∀ H, aU (bX.f GA 8000) [cV false ws r m, I6 s] H = _ := fun H => cD (H := H) (aFf GA hG 7991 false ws r m s (by omega) (by omega) hv) (by simp [gC, pc, bR]) (by simp [gU, iY, mI])
  obtain ⟨c, p, j, hft, hc⟩ : ∃ c p j, rZ (gO ws r m) = oC c p j ∧ c ≠ 0 := by
   cases h : gO ws r m with
   | ok => exact absurd h hv
   | bare e => exact ⟨_, _, _, rfl, aEr e⟩
   | at_ j e => exact ⟨_, _, _, rfl, aEr e⟩
  have rs' := rs _ hlow
  have sv := st (gO ws r m)
  have lv := ld (gO ws r m)
  rw [hft] at rv rs' sv lv
  have lc : ∀ l, aD GA false 1 (.ptr 0 1 0 0) (⟨54, 3, [oC c p j]⟩ :: l) = some (I6 c) := fun l => rfl
  have q1 : aW Tryd.prog .eql 3 true (I6 c) (.int .i64 0) = some (.bool false) := gW hc
  have q2 : aW Tryd.prog .neq 3 true (I6 c) (.int .i64 0) = some (.bool true) := qF hc
  have ro' := ro_ ws r m
  clear hft hv hlow st ld rs ro_
  generalize tC (gO ws r m) = V at *
  generalize oC c p j = Fv at *
  generalize cV false ws r m = C at *
  generalize zC = Z at *
  have fx := aMC rf <| aMC rl <| aMC b1 <| aMC d1 <| aMC ro' <| aMC rv <| aMC bx0 <| aMC sv <| aMC k0 <| aMC lc <| aMC q1 <| aMC q2 <| aMC rr <| aMC bx1 <| aMC sz <| aMC z0 <| aMC z1 <| aMC z2 <| aMC j0 <| aMC j1 <| aMC j2 <| aMC lv <| aMC rs' <| le
  refine gV ?_
  exact w1b rfl
 replace hv := Classical.not_not.1 hv
 have hvok := (qI hv).1
 have sv := st .ok
 have lv := ld .ok
 rw [hv] at rv
 have f0 : rZ .ok = oC 0 false 0 := rfl
 rw [f0] at rv sv lv
 have lc : ∀ l, aD GA false 1 (.ptr 0 1 0 0) (⟨54, 3, [oC 0 false 0]⟩ :: l) = some (I6 0) := fun l => rfl
 have q1 : aW Tryd.prog .eql 3 true (I6 0) (.int .i64 0) = some (.bool true) := kM rfl
 by_cases hr : s < 6 ∨ 28 < s
 ·have rr : ∀ H, aU (bX.f GA 8000) [cV false ws r m, I6 s] H = _ := fun H => cD (H := H) (aBL GA hG 7991 false ws r m s (by omega) (by omega) hv hr) (by simp [gC, pc, bR]) rfl
  have rs' := rs (.bare 2) (show 2 < 6 by omega)
  have sv2 : fP (aT 3 (.ptr 0 1 0 0) (oC 101 false 0) [⟨54, 3, [oC 0 false 0]⟩]) = some (.tup [], [⟨54, 3, [oC 101 false 0]⟩]) := rfl
  have lv2 : ∀ l, aD GA true 3 (.ptr 0 1 0 0) (⟨54, 3, [oC 101 false 0]⟩ :: l) = some (oC 101 false 0) := fun l => rfl
  have lc2 : ∀ l, aD GA false 1 (.ptr 0 1 0 0) (⟨54, 3, [oC 101 false 0]⟩ :: l) = some (I6 101) := fun l => rfl
  have f1 : rZ (.bare 2) = oC 101 false 0 := rfl
  have f2 : tC (.bare 2) = eV 2 := rfl
  rw [f1, f2] at rs'
  have q2 : aW Tryd.prog .neq 3 true (I6 101) (.int .i64 0) = some (.bool true) := qF (by decide)
  have rb' := rb 101
  have ro' := ro_ ws r m
  clear hlow st ld rs rb ro_ hv hvok
  generalize eV 2 = V at *
  generalize oC 101 false 0 = Fv at *
  generalize oC 0 false 0 = F0 at *
  generalize cV false ws r m = C at *
  generalize zC = Z at *
  by_cases h6 : s < 6
  ·have g1 : aW Tryd.prog .lss 3 true (I6 s) (.int .i64 6) = some (.bool true) := gN h6
   have fx := aMC rf <| aMC rl <| aMC b1 <| aMC d1 <| aMC ro' <| aMC rv <| aMC bx0 <| aMC sv <| aMC k0 <| aMC lc <| aMC q1 <| aMC q2 <| aMC g1 <| aMC rr <| aMC bx1 <| aMC sz <| aMC z0 <| aMC z1 <| aMC z2 <| aMC j0 <| aMC j1 <| aMC j2 <| aMC lv <| aMC rs' <| aMC le <| aMC rb' <| aMC sv2 <| aMC lv2 <| lc2
   refine gV ?_
   exact w1b rfl
  ·have g1 : aW Tryd.prog .lss 3 true (I6 s) (.int .i64 6) = some (.bool false) := gF (by omega)
   have g2 : aW Tryd.prog .gtr 3 true (I6 s) (.int .i64 28) = some (.bool true) := mC (by omega)
   have fx := aMC rf <| aMC rl <| aMC b1 <| aMC d1 <| aMC ro' <| aMC rv <| aMC bx0 <| aMC sv <| aMC k0 <| aMC lc <| aMC q1 <| aMC q2 <| aMC g1 <| aMC g2 <| aMC rr <| aMC bx1 <| aMC sz <| aMC z0 <| aMC z1 <| aMC z2 <| aMC j0 <| aMC j1 <| aMC j2 <| aMC lv <| aMC rs' <| aMC le <| aMC rb' <| aMC sv2 <| aMC lv2 <| lc2
   refine gV ?_
   exact w1b rfl
 obtain ⟨R, rfl⟩ : ∃ R : Nat, r = R := ⟨r.toNat, by omega⟩
 obtain ⟨M, rfl⟩ : ∃ M : Nat, m = M := ⟨m.toNat, by omega⟩
 obtain ⟨S, rfl⟩ : ∃ S : Nat, s = S := ⟨s.toNat, by omega⟩
 have g1 : aW Tryd.prog .lss 3 true (Nn S) (.int .i64 6) = some (.bool false) := gF (by omega)
 have g2 : aW Tryd.prog .gtr 3 true (Nn S) (.int .i64 28) = some (.bool false) := jC (by omega)
 obtain ⟨ot, R2, M2, ha, hR2, hD⟩ := aFX GA hG false ws R M S hv (by omega) (by omega) (by omega) (by omega)
 have hDg := hD.ge
 have hDl := hD.le
 have hDn := hD.len
 have rr : ∀ H, aU (bX.f GA 8000) [cV false ws R M, Nn S] H = _ := fun H => cD (H := H) ha (by simp [gC, pc, bR]) (by simp [gU, iY, aGi, cV])
 have rs' := rs .ok trivial
 rw [f0, show tC .ok = .nili from rfl] at rs'
 have q2 : aW Tryd.prog .neq 3 true (I6 0) (.int .i64 0) = some (.bool false) := qE rfl
 have sd : ∀ w, fP (aT 3 (.ptr 1 1 0 0) (cV false ot R2 M2) [⟨54, 3, [w]⟩, ⟨27, 3, [zC]⟩]) = some (.tup [], [⟨54, 3, [w]⟩, ⟨27, 3, [cV false ot R2 M2]⟩]) := fun w => rfl
 have ldD : ∀ w l, aD GA true 3 (.ptr 1 1 0 0) (⟨54, 3, [w]⟩ :: ⟨27, 3, [cV false ot R2 M2]⟩ :: l) = some (cV false ot R2 M2) := fun w l => rfl
 have y1 : ∀ w l, aD GA false 1 (.ptr 1 1 0 1) (⟨54, 3, [w]⟩ :: ⟨27, 3, [cV false ot R2 M2]⟩ :: l) = some (Nn R2) := fun w l => rfl
 have y2 : ∀ w l, aD GA false 1 (.ptr 1 1 0 2) (⟨54, 3, [w]⟩ :: ⟨27, 3, [cV false ot R2 M2]⟩ :: l) = some (Nn M2) := fun w l => rfl
 have rw_ : ∀ H, aU (cI.f GA 8000) [cV false ot R2 M2] H = _ := fun H => cD (H := H) (mJ GA hG 7992 ot R2 M2 (by omega) (by omega)) (by simp [gC, lH]) (mI _)
 rw [hD.valid] at rw_
 have qv : aW Tryd.prog .neq 33 true (tC .ok) .nili = some (.bool false) := by kernel_rfl
 have c1 : aW Tryd.prog .gtr 3 false (Nn R2) (Nn S) = some (.bool false) := jC (by omega)
 have c2 : aW Tryd.prog .lss 3 false (Nn M2) (Nn M) = some (.bool false) := gF (by omega)
 have c3 : aW Tryd.prog .add 3 false (Nn M) (Nn R) = some (Nn (M + R : Nat)) := nC (by omega)
 have c4 : aW Tryd.prog .gtr 3 false (Nn M2) (Nn (M + R : Nat)) = some (.bool false) := jC (by omega)
 have ro1 := ro_ ws R M
 have ro2 := ro_ ot R2 M2
 by_cases hmne : (mem.length : Int) ≠ M
 ·have q4 : aW Tryd.prog .neq 3 false (I6 mem.length) (Nn M) = some (.bool true) := qF hmne
  clear hlow st ld rs rb ro_ hv ha hD
  generalize tC .ok = E1 at *
  generalize oC 0 false 0 = F0 at *
  generalize cV false ws R M = C at *
  generalize cV false ot R2 M2 = D at *
  generalize zC = Z at *
  generalize dF mem = NM at *
  generalize M + R = MR at *
  have fx := aMC rf <| aMC rl <| aMC b1 <| aMC d1 <| aMC d2 <| aMC d3 <| aMC d4 <| aMC d5 <| aMC ro1 <| aMC rv <| aMC bx0 <| aMC sv <| aMC k0 <| aMC lc <| aMC q1 <| aMC q2 <| aMC g1 <| aMC g2 <| aMC rr <| aMC bx1 <| aMC sd <| aMC ldD <| aMC y1 <| aMC y2 <| aMC j0 <| aMC j1 <| aMC j2 <| aMC lv <| aMC rs' <| aMC rw_ <| aMC qv <| aMC c1 <| aMC c2 <| aMC c3 <| aMC c4 <| aMC lm <| q4
  refine gV ?_
  exact w1b rfl
 replace hmne : (mem.length : Int) = M := Classical.not_not.1 hmne
 have hml : mem.length = M := by omega
 have q4 : aW Tryd.prog .neq 3 false (I6 mem.length) (Nn M) = some (.bool false) := qE hmne
 obtain ⟨s', hs'⟩ := tY ws 400 7999 (s0 R mem) (by simp [s0]) (by simp [s0])
 have hok2 := rE hv
 rw [Int.toNat_natCast] at hok2
 have hok3 := rE hD.valid
 rw [Int.toNat_natCast] at hok3
 have rrun : ∀ H, aU (bK.f GA 8000) [cV false ws R M, .nils, .ro false (dF mem), .int .i64 400] H = _ := fun H => cD (H := H) (zW GA 7996 400 false ws R M mem false (by omega) hmm (by omega) hmne.symm (by decide) (by decide) (by omega) hok2 (by omega) s' hs') (by simp [gC, pc, bR, plainU]) (tA s' (-1))
 have hgl : (gX mem M2).length = M2 := tK _ _ (by omega)
 have rg : ∀ H, aU (bY.f GA 8000) [.ro false (dF mem), Nn M2] H = _ := fun H => cD (H := H) (aDE GA 7999 false mem M2 (by omega)) (by simp [gC, bR, plainU]) (by simp [gU, aGj])
 have hgm : ∀ x ∈ gX mem M2, x < 18446744073709551616 := fun x hx => by
  unfold gX at hx
  rcases List.mem_append.1 hx with hx | hx
  ·exact hmm x (List.mem_of_mem_take hx)
  ·rw [(List.mem_replicate.1 hx).2]; decide
 obtain ⟨Q, hQ⟩ := tY ot 3264 7999 (s0 R2 (gX mem M2)) (by simp [s0]) (by simp [s0])
 have rrun2 : ∀ H, aU (bK.f GA 8000) [cV false ot R2 M2, .nils, .ro false (dF (gX mem M2)), .int .i64 3264] H = _ := fun H => cD (H := H) (zW GA 7996 3264 false ot R2 M2 (gX mem M2) false (by omega) hgm (by omega) (by omega) (by decide) (by decide) (by omega) hok3 (by omega) Q hQ) (by simp [gC, lH, bR, plainU]) (tA Q (-1))
 have bx2 : ∀ w d, fV 38 (.agg [.int .i64 0, .nils, .nils, .int .i64 0, .int .i64 0]) [⟨54, 3, [w]⟩, ⟨27, 3, [d]⟩] = some (.ptr 2 1 0 0, [⟨54, 3, [w]⟩, ⟨27, 3, [d]⟩, xN]) := fun w d => rfl
 have sx2 : ∀ w d, fP (aT 5 (.ptr 2 1 0 0) (iE s' (-1)) [⟨54, 3, [w]⟩, ⟨27, 3, [d]⟩, xN]) = some (.tup [], [⟨54, 3, [w]⟩, ⟨27, 3, [d]⟩, ⟨38, 5, [iE s' (-1)]⟩]) := fun w d => rfl
 have bx3 : ∀ w d, fV 38 (.agg [.int .i64 0, .nils, .nils, .int .i64 0, .int .i64 0]) [⟨54, 3, [w]⟩, ⟨27, 3, [d]⟩, ⟨38, 5, [iE s' (-1)]⟩] = some (.ptr 3 1 0 0, [⟨54, 3, [w]⟩, ⟨27, 3, [d]⟩, ⟨38, 5, [iE s' (-1)]⟩, xN]) := fun w d => rfl
 have sx3 : ∀ w d, fP (aT 5 (.ptr 3 1 0 0) (iE Q (-1)) [⟨54, 3, [w]⟩, ⟨27, 3, [d]⟩, ⟨38, 5, [iE s' (-1)]⟩, xN]) = some (.tup [], [⟨54, 3, [w]⟩, ⟨27, 3, [d]⟩, ⟨38, 5, [iE s' (-1)]⟩, ⟨38, 5, [iE Q (-1)]⟩]) := fun w d => rfl
 have u0 : ∀ w d l, aD GA false 1 (.ptr 2 1 0 0) (⟨54, 3, [w]⟩ :: ⟨27, 3, [d]⟩ :: ⟨38, 5, [iE s' (-1)]⟩ :: l) = some (I6 s'.code) := fun w d l => rfl
 have u1 : ∀ w d l, aD GA false 1 (.ptr 2 1 0 1) (⟨54, 3, [w]⟩ :: ⟨27, 3, [d]⟩ :: ⟨38, 5, [iE s' (-1)]⟩ :: l) = some (.ro false (dF s'.mem)) := fun w d l => rfl
 have x0 : ∀ w d e l, aD GA false 1 (.ptr 3 1 0 0) (⟨54, 3, [w]⟩ :: ⟨27, 3, [d]⟩ :: e :: ⟨38, 5, [iE Q (-1)]⟩ :: l) = some (I6 Q.code) := fun w d e l => rfl
 have x1 : ∀ w d e l, aD GA false 1 (.ptr 3 1 0 1) (⟨54, 3, [w]⟩ :: ⟨27, 3, [d]⟩ :: e :: ⟨38, 5, [iE Q (-1)]⟩ :: l) = some (.ro false (dF Q.mem)) := fun w d e l => rfl
 have fa0 : aA 0 (.ptr 2 1 0 0) = some (.ptr 2 1 0 0) := rfl
 have fa1 : aA 1 (.ptr 2 1 0 0) = some (.ptr 2 1 0 1) := rfl
 have fb0 : aA 0 (.ptr 3 1 0 0) = some (.ptr 3 1 0 0) := rfl
 have fb1 : aA 1 (.ptr 3 1 0 0) = some (.ptr 3 1 0 1) := rfl
 by_cases hcode : s'.code = 4
 ·have q5 : aW Tryd.prog .eql 3 true (I6 s'.code) (.int .i64 4) = some (.bool true) := kM hcode
  clear hlow st ld rs rb ro_ hv ha hD hok2 hok3 hgm hQ hs' hcode
  generalize tC .ok = E1 at *
  generalize oC 0 false 0 = F0 at *
  generalize cV false ws R M = C at *
  generalize cV false ot R2 M2 = D at *
  generalize zC = Z at *
  generalize dF mem = NM at *
  generalize dF (gX mem M2) = NG at *
  generalize iE s' (-1) = EA at *
  generalize iE Q (-1) = EB at *
  generalize M + R = MR at *
  have fx := aMC rf <| aMC rl <| aMC b1 <| aMC d1 <| aMC d2 <| aMC d3 <| aMC d4 <| aMC d5 <| aMC ro1 <| aMC ro2 <| aMC rv <| aMC bx0 <| aMC sv <| aMC k0 <| aMC lc <| aMC q1 <| aMC q2 <| aMC g1 <| aMC g2 <| aMC rr <| aMC bx1 <| aMC sd <| aMC ldD <| aMC y1 <| aMC y2 <| aMC j0 <| aMC j1 <| aMC j2 <| aMC lv <| aMC rs' <| aMC rw_ <| aMC qv <| aMC c1 <| aMC c2 <| aMC c3 <| aMC c4 <| aMC lm <| aMC q4 <| aMC rrun <| aMC rg <| aMC rrun2 <| aMC bx2 <| aMC sx2 <| aMC bx3 <| aMC sx3 <| aMC u0 <| aMC u1 <| aMC x0 <| aMC x1 <| aMC fa0 <| aMC fa1 <| aMC fb0 <| aMC fb1 <| q5
  refine gV ?_
  exact w1b rfl
 obtain ⟨ml, hrun⟩ := hD.run
 obtain ⟨q', e1, e2, e3, e4, e5, e6⟩ := hrun mem s' hml hmm hs' hcode
 rw [hQ] at e1
 simp only [Option.some.injEq] at e1
 subst e1
 have q5 : aW Tryd.prog .eql 3 true (I6 s'.code) (.int .i64 4) = some (.bool false) := gW hcode
 have q6 : aW Tryd.prog .eql 3 false (I6 s'.code) (I6 Q.code) = some (.bool true) := kM e2.symm
 have sl : jD 1 (.ro false (dF Q.mem)) none (some (Nn M)) = some (.ro false (dF s'.mem)) := by
  rw [← e3]
  simp only [jD, vJ, vI, gG]
  rw [if_pos ⟨Nat.zero_le _, by omega, rK _⟩]
  unfold dF
  simp [List.map_take]
 have rsame : ∀ H, aU (aZ.f GA 8000) [.ro false (dF s'.mem), .ro false (dF s'.mem)] H = _ := fun H => cD (H := H) (uA GA 7999 false false s'.mem (by omega) (by omega)) (by simp [gC, bR, plainU]) rfl
 clear hlow st ld rs rb ro_ hv ha hD hok2 hok3 hgm hQ hs' hcode hrun e2 e3 e4 e5 e6
 by_cases h3 : s'.code = 3
 ·have q7 : aW Tryd.prog .eql 3 true (I6 s'.code) (.int .i64 3) = some (.bool true) := kM h3
  clear h3
  generalize tC .ok = E1 at *
  generalize oC 0 false 0 = F0 at *
  generalize cV false ws R M = C at *
  generalize cV false ot R2 M2 = D at *
  generalize zC = Z at *
  generalize dF mem = NM at *
  generalize dF (gX mem M2) = NG at *
  generalize iE s' (-1) = EA at *
  generalize iE Q (-1) = EB at *
  generalize M + R = MR at *
  have fx := aMC rf <| aMC rl <| aMC b1 <| aMC d1 <| aMC d2 <| aMC d3 <| aMC d4 <| aMC d5 <| aMC ro1 <| aMC ro2 <| aMC rv <| aMC bx0 <| aMC sv <| aMC k0 <| aMC lc <| aMC q1 <| aMC q2 <| aMC g1 <| aMC g2 <| aMC rr <| aMC bx1 <| aMC sd <| aMC ldD <| aMC y1 <| aMC y2 <| aMC j0 <| aMC j1 <| aMC j2 <| aMC lv <| aMC rs' <| aMC rw_ <| aMC qv <| aMC c1 <| aMC c2 <| aMC c3 <| aMC c4 <| aMC lm <| aMC q4 <| aMC rrun <| aMC rg <| aMC rrun2 <| aMC bx2 <| aMC sx2 <| aMC bx3 <| aMC sx3 <| aMC u0 <| aMC u1 <| aMC x0 <| aMC x1 <| aMC fa0 <| aMC fa1 <| aMC fb0 <| aMC fb1 <| aMC q5 <| aMC q6 <| q7
  refine gV ?_
  exact w1b rfl
 ·have q7 : aW Tryd.prog .eql 3 true (I6 s'.code) (.int .i64 3) = some (.bool false) := gW h3
  clear h3
  generalize tC .ok = E1 at *
  generalize oC 0 false 0 = F0 at *
  generalize cV false ws R M = C at *
  generalize cV false ot R2 M2 = D at *
  generalize zC = Z at *
  generalize dF mem = NM at *
  generalize dF (gX mem M2) = NG at *
  generalize dF s'.mem = NS at *
  generalize iE s' (-1) = EA at *
  generalize iE Q (-1) = EB at *
  generalize M + R = MR at *
  have fx := aMC rf <| aMC rl <| aMC b1 <| aMC d1 <| aMC d2 <| aMC d3 <| aMC d4 <| aMC d5 <| aMC ro1 <| aMC ro2 <| aMC rv <| aMC bx0 <| aMC sv <| aMC k0 <| aMC lc <| aMC q1 <| aMC q2 <| aMC g1 <| aMC g2 <| aMC rr <| aMC bx1 <| aMC sd <| aMC ldD <| aMC y1 <| aMC y2 <| aMC j0 <| aMC j1 <| aMC j2 <| aMC lv <| aMC rs' <| aMC rw_ <| aMC qv <| aMC c1 <| aMC c2 <| aMC c3 <| aMC c4 <| aMC lm <| aMC q4 <| aMC rrun <| aMC rg <| aMC rrun2 <| aMC bx2 <| aMC sx2 <| aMC bx3 <| aMC sx3 <| aMC u0 <| aMC u1 <| aMC x0 <| aMC x1 <| aMC fa0 <| aMC fa1 <| aMC fb0 <| aMC fb1 <| aMC q5 <| aMC q6 <| aMC q7 <| aMC sl <| rsame
  refine gV ?_
  exact w1b rfl
theorem LAllocMeans.law (xs : List AV) (h : IsTs Tryd.prog [27, 3, 22] xs) : ∃ k, alembiclaw21_AllocMeans.f (zZ 179 [0, 2, 1, 4, 6, 3, 7, 8, 5, 9, 10, 11, 12, 13]) k xs [] = some (.bool true, []) := by
 obtain ⟨x1, _, rfl, hx1, h⟩ := h.uncons
 obtain ⟨x2, _, rfl, hx2, h⟩ := h.uncons
 obtain ⟨x3, _, rfl, hx3, h⟩ := h.uncons
 obtain rfl := h.unnil
 obtain ⟨cs, R, M, rfl, hR, hM⟩ := aIB hx1
 obtain ⟨s, rfl, _⟩ := hx2.of_int (k := .i64) Tryd.underlying3
 obtain ⟨mem, rfl, hm⟩ := aGN Tryd.underlying22 Tryd.underlying30 hx3
 exact ⟨8001, aFB cs R M s mem hm⟩
end Go.Proofs.YtlkgkfgkiidhdaaDoor
namespace Go.Proofs.YtlkgkfgkiidhdaaDoor
open Go Go.ChangeShapes Go.WideShapes Go.RowKit Mir
set_option linter.unusedVariables false
set_option linter.unusedSimpArgs false
namespace RAllocMeans
noncomputable def zL (os : Os) : World :=
 let w0 := World.holding Tryd.prog os ⟨#[.cells #[.string ⟨#[97, 32, 110, 117, 109, 98, 101, 114, 32, 111, 117, 116, 32, 111, 102, 32, 105, 116, 115, 32, 114, 97, 110, 103, 101]⟩] 196, .cells #[.string ⟨#[110, 111, 116, 32, 97, 115, 32, 108, 111, 110, 103, 32, 97, 115, 32, 105, 116, 32, 104, 97, 115, 32, 116, 111, 32, 98, 101]⟩] 196, .cells #[.string ⟨#[116, 111, 111, 32, 109, 97, 110, 121]⟩] 196, .cells #[.string ⟨#[110, 111, 116, 32, 97, 115, 32, 105, 116, 32, 104, 97, 115, 32, 116, 111, 32, 98, 101]⟩] 196, .cells #[.string ⟨#[116, 104, 101, 114, 101, 32, 105, 115, 32, 110, 111, 110, 101]⟩] 196, .cells #[.string ⟨#[110, 111, 32, 115, 117, 99, 104, 32, 116, 104, 105, 110, 103, 32, 116, 111, 32, 100, 111]⟩] 196, .cells #[.string ⟨#[110, 111, 32, 115, 117, 99, 104, 32, 118, 97, 114, 105, 97, 98, 108, 101]⟩] 196, .cells #[.string ⟨#[97, 32, 115, 101, 99, 114, 101, 116, 32, 119, 104, 101, 114, 101, 32, 105, 116, 32, 109, 97, 121, 32, 110, 111, 116, 32, 98, 101]⟩] 196, .cells #[.string ⟨#[110, 111, 32, 115, 117, 99, 104, 32, 112, 108, 97, 99, 101]⟩] 196, .cells #[.string ⟨#[116, 111, 111, 32, 102, 97, 114]⟩] 196, .cells #[.string ⟨#[105, 116, 32, 116, 97, 107, 101, 115, 32, 116, 111, 111, 32, 108, 111, 110, 103]⟩] 196, .cells #[.string ⟨#[119, 104, 101, 114, 101, 32, 116, 104, 101, 114, 101, 32, 105, 115, 32, 110, 111, 116, 104, 105, 110, 103]⟩] 196, .cells #[.string ⟨#[110, 111, 32, 115, 117, 99, 104, 32, 119, 111, 114, 100]⟩] 196, .cells #[.string ⟨#[110, 111, 116, 32, 97, 32, 110, 117, 109, 98, 101, 114]⟩] 196], #[], []⟩
 {w0 with heap := w0.heap
  |>.modify 0 (fun
   | .cells _ t frozen => .cells #[.iface 179 (.pointer (some ⟨Rk.low, 0, none⟩))] t frozen
   | o => o)
  |>.modify 2 (fun
   | .cells _ t frozen => .cells #[.iface 179 (.pointer (some ⟨Rk.low + 1, 0, none⟩))] t frozen
   | o => o)
  |>.modify 1 (fun
   | .cells _ t frozen => .cells #[.iface 179 (.pointer (some ⟨Rk.low + 2, 0, none⟩))] t frozen
   | o => o)
  |>.modify 4 (fun
   | .cells _ t frozen => .cells #[.iface 179 (.pointer (some ⟨Rk.low + 3, 0, none⟩))] t frozen
   | o => o)
  |>.modify 6 (fun
   | .cells _ t frozen => .cells #[.iface 179 (.pointer (some ⟨Rk.low + 4, 0, none⟩))] t frozen
   | o => o)
  |>.modify 3 (fun
   | .cells _ t frozen => .cells #[.iface 179 (.pointer (some ⟨Rk.low + 5, 0, none⟩))] t frozen
   | o => o)
  |>.modify 7 (fun
   | .cells _ t frozen => .cells #[.iface 179 (.pointer (some ⟨Rk.low + 6, 0, none⟩))] t frozen
   | o => o)
  |>.modify 8 (fun
   | .cells _ t frozen => .cells #[.iface 179 (.pointer (some ⟨Rk.low + 7, 0, none⟩))] t frozen
   | o => o)
  |>.modify 5 (fun
   | .cells _ t frozen => .cells #[.iface 179 (.pointer (some ⟨Rk.low + 8, 0, none⟩))] t frozen
   | o => o)
  |>.modify 9 (fun
   | .cells _ t frozen => .cells #[.iface 179 (.pointer (some ⟨Rk.low + 9, 0, none⟩))] t frozen
   | o => o)
  |>.modify 10 (fun
   | .cells _ t frozen => .cells #[.iface 179 (.pointer (some ⟨Rk.low + 10, 0, none⟩))] t frozen
   | o => o)
  |>.modify 11 (fun
   | .cells _ t frozen => .cells #[.iface 179 (.pointer (some ⟨Rk.low + 11, 0, none⟩))] t frozen
   | o => o)
  |>.modify 12 (fun
   | .cells _ t frozen => .cells #[.iface 179 (.pointer (some ⟨Rk.low + 12, 0, none⟩))] t frozen
   | o => o)
  |>.modify 13 (fun
   | .cells _ t frozen => .cells #[.iface 179 (.pointer (some ⟨Rk.low + 13, 0, none⟩))] t frozen
   | o => o) }
theorem yH (os : Os) (args : Array Value) : laidMetH Tryd.prog ([("alembic/api.ErrRange", Rows.laid_alembic_api_ErrRange), ("alembic/api.ErrLength", Rows.laid_alembic_api_ErrLength), ("alembic/api.ErrMany", Rows.laid_alembic_api_ErrMany), ("alembic/api.ErrShape", Rows.laid_alembic_api_ErrShape), ("alembic/api.ErrNone", Rows.laid_alembic_api_ErrNone), ("alembic/api.ErrOp", Rows.laid_alembic_api_ErrOp), ("alembic/api.ErrVar", Rows.laid_alembic_api_ErrVar), ("alembic/api.ErrSecret", Rows.laid_alembic_api_ErrSecret), ("alembic/api.ErrLabel", Rows.laid_alembic_api_ErrLabel), ("alembic/api.ErrFar", Rows.laid_alembic_api_ErrFar), ("alembic/api.ErrFuel", Rows.laid_alembic_api_ErrFuel), ("alembic/api.ErrFault", Rows.laid_alembic_api_ErrFault), ("alembic/api.ErrWord", Rows.laid_alembic_api_ErrWord), ("alembic/api.ErrNumber", Rows.laid_alembic_api_ErrNumber)] : List (String × DataW Unit)) ((zL os).forCall (fun _ _ => 0) ⟨#[], args, []⟩).memory :=
 laidMet_of_run (ps := [.cell 0 0, .cell (Rk.low) 0, .cell 2 0, .cell (Rk.low + 1) 0, .cell 1 0, .cell (Rk.low + 2) 0, .cell 4 0, .cell (Rk.low + 3) 0, .cell 6 0, .cell (Rk.low + 4) 0, .cell 3 0, .cell (Rk.low + 5) 0, .cell 7 0, .cell (Rk.low + 6) 0, .cell 8 0, .cell (Rk.low + 7) 0, .cell 5 0, .cell (Rk.low + 8) 0, .cell 9 0, .cell (Rk.low + 9) 0, .cell 10 0, .cell (Rk.low + 10) 0, .cell 11 0, .cell (Rk.low + 11) 0, .cell 12 0, .cell (Rk.low + 12) 0, .cell 13 0, .cell (Rk.low + 13) 0]) 8 (by kernel_rfl) (by kernel_rfl) (by kernel_rfl)
theorem aLt : aEl Tryd.prog 33 [("alembic/api.ErrRange", Rows.laid_alembic_api_ErrRange), ("alembic/api.ErrLength", Rows.laid_alembic_api_ErrLength), ("alembic/api.ErrMany", Rows.laid_alembic_api_ErrMany), ("alembic/api.ErrShape", Rows.laid_alembic_api_ErrShape), ("alembic/api.ErrNone", Rows.laid_alembic_api_ErrNone), ("alembic/api.ErrOp", Rows.laid_alembic_api_ErrOp), ("alembic/api.ErrVar", Rows.laid_alembic_api_ErrVar), ("alembic/api.ErrSecret", Rows.laid_alembic_api_ErrSecret), ("alembic/api.ErrLabel", Rows.laid_alembic_api_ErrLabel), ("alembic/api.ErrFar", Rows.laid_alembic_api_ErrFar), ("alembic/api.ErrFuel", Rows.laid_alembic_api_ErrFuel), ("alembic/api.ErrFault", Rows.laid_alembic_api_ErrFault), ("alembic/api.ErrWord", Rows.laid_alembic_api_ErrWord), ("alembic/api.ErrNumber", Rows.laid_alembic_api_ErrNumber)] [0, 2, 1, 4, 6, 3, 7, 8, 5, 9, 10, 11, 12, 13] := ⟨by kernel_rfl, by kernel_rfl, ⟨_, rfl⟩, by kernel_rfl, by kernel_rfl, ⟨_, rfl⟩, by kernel_rfl, by kernel_rfl, ⟨_, rfl⟩, by kernel_rfl, by kernel_rfl, ⟨_, rfl⟩, by kernel_rfl, by kernel_rfl, ⟨_, rfl⟩, by kernel_rfl, by kernel_rfl, ⟨_, rfl⟩, by kernel_rfl, by kernel_rfl, ⟨_, rfl⟩, by kernel_rfl, by kernel_rfl, ⟨_, rfl⟩, by kernel_rfl, by kernel_rfl, ⟨_, rfl⟩, by kernel_rfl, by kernel_rfl, ⟨_, rfl⟩, by kernel_rfl, by kernel_rfl, ⟨_, rfl⟩, by kernel_rfl, by kernel_rfl, ⟨_, rfl⟩, by kernel_rfl, by kernel_rfl, ⟨_, rfl⟩, by kernel_rfl, by kernel_rfl, ⟨_, rfl⟩, trivial⟩
theorem sent {W : World} (h : laidMetH Tryd.prog ([("alembic/api.ErrRange", Rows.laid_alembic_api_ErrRange), ("alembic/api.ErrLength", Rows.laid_alembic_api_ErrLength), ("alembic/api.ErrMany", Rows.laid_alembic_api_ErrMany), ("alembic/api.ErrShape", Rows.laid_alembic_api_ErrShape), ("alembic/api.ErrNone", Rows.laid_alembic_api_ErrNone), ("alembic/api.ErrOp", Rows.laid_alembic_api_ErrOp), ("alembic/api.ErrVar", Rows.laid_alembic_api_ErrVar), ("alembic/api.ErrSecret", Rows.laid_alembic_api_ErrSecret), ("alembic/api.ErrLabel", Rows.laid_alembic_api_ErrLabel), ("alembic/api.ErrFar", Rows.laid_alembic_api_ErrFar), ("alembic/api.ErrFuel", Rows.laid_alembic_api_ErrFuel), ("alembic/api.ErrFault", Rows.laid_alembic_api_ErrFault), ("alembic/api.ErrWord", Rows.laid_alembic_api_ErrWord), ("alembic/api.ErrNumber", Rows.laid_alembic_api_ErrNumber)] : List (String × DataW Unit)) W) : ∃ S, SentS W 179 [0, 2, 1, 4, 6, 3, 7, 8, 5, 9, 10, 11, 12, 13] S :=
 aBv Tryd.underlying33 Rk.row Tryd.underlying179 Tryd.underlying196 rfl rfl Tryd.underlying9 (by kernel_rfl) (by kernel_rfl) aLt (by decide) h
theorem aID : ∀ t ∈ ([27, 25, 29, 3, 2, 22, 30] : List Nat), wV Tryd.prog [27, 25, 29, 3, 2, 22, 30] t = true := List.all_eq_true.1 (by kernel_rfl)
set_option maxRecDepth 100000 in
theorem aKe (os : Os) (started : os.Started) (H : Type) (enc : TypeId × Value → H) :
  ReturnsInHanded {} Tryd.checked os 8 .any (fun w args => (Rows.allocMeansSpec.pre enc Tryd.prog Tryd.f8 [] false w args ∧ laidMetH Tryd.prog ([("alembic/api.ErrRange", Rows.laid_alembic_api_ErrRange), ("alembic/api.ErrLength", Rows.laid_alembic_api_ErrLength), ("alembic/api.ErrMany", Rows.laid_alembic_api_ErrMany), ("alembic/api.ErrShape", Rows.laid_alembic_api_ErrShape), ("alembic/api.ErrNone", Rows.laid_alembic_api_ErrNone), ("alembic/api.ErrOp", Rows.laid_alembic_api_ErrOp), ("alembic/api.ErrVar", Rows.laid_alembic_api_ErrVar), ("alembic/api.ErrSecret", Rows.laid_alembic_api_ErrSecret), ("alembic/api.ErrLabel", Rows.laid_alembic_api_ErrLabel), ("alembic/api.ErrFar", Rows.laid_alembic_api_ErrFar), ("alembic/api.ErrFuel", Rows.laid_alembic_api_ErrFuel), ("alembic/api.ErrFault", Rows.laid_alembic_api_ErrFault), ("alembic/api.ErrWord", Rows.laid_alembic_api_ErrWord), ("alembic/api.ErrNumber", Rows.laid_alembic_api_ErrNumber)] : List (String × DataW Unit)) w) ∧ sizedMet enc Tryd.prog Tryd.f8 (OpenSpec.ofChange Rows.allocMeansSpec) false w args)
   (Rows.allocMeansSpec.post enc Tryd.prog Tryd.f8 false true false false) := by
 refine returnsInHanded_of_change_and (C := Tryd.checked) (X := fun w _ => laidMetH Tryd.prog ([("alembic/api.ErrRange", Rows.laid_alembic_api_ErrRange), ("alembic/api.ErrLength", Rows.laid_alembic_api_ErrLength), ("alembic/api.ErrMany", Rows.laid_alembic_api_ErrMany), ("alembic/api.ErrShape", Rows.laid_alembic_api_ErrShape), ("alembic/api.ErrNone", Rows.laid_alembic_api_ErrNone), ("alembic/api.ErrOp", Rows.laid_alembic_api_ErrOp), ("alembic/api.ErrVar", Rows.laid_alembic_api_ErrVar), ("alembic/api.ErrSecret", Rows.laid_alembic_api_ErrSecret), ("alembic/api.ErrLabel", Rows.laid_alembic_api_ErrLabel), ("alembic/api.ErrFar", Rows.laid_alembic_api_ErrFar), ("alembic/api.ErrFuel", Rows.laid_alembic_api_ErrFuel), ("alembic/api.ErrFault", Rows.laid_alembic_api_ErrFault), ("alembic/api.ErrWord", Rows.laid_alembic_api_ErrWord), ("alembic/api.ErrNumber", Rows.laid_alembic_api_ErrNumber)] : List (String × DataW Unit)) w) (fun _ _ _ hh h => h.of_heap hh) Rk.own started (by kernel_rfl) Tryd.func8
  (ChangeSpec.witness_at (enc := enc) (C := Tryd.checked) (os := os) (X := fun w _ => laidMetH Tryd.prog ([("alembic/api.ErrRange", Rows.laid_alembic_api_ErrRange), ("alembic/api.ErrLength", Rows.laid_alembic_api_ErrLength), ("alembic/api.ErrMany", Rows.laid_alembic_api_ErrMany), ("alembic/api.ErrShape", Rows.laid_alembic_api_ErrShape), ("alembic/api.ErrNone", Rows.laid_alembic_api_ErrNone), ("alembic/api.ErrOp", Rows.laid_alembic_api_ErrOp), ("alembic/api.ErrVar", Rows.laid_alembic_api_ErrVar), ("alembic/api.ErrSecret", Rows.laid_alembic_api_ErrSecret), ("alembic/api.ErrLabel", Rows.laid_alembic_api_ErrLabel), ("alembic/api.ErrFar", Rows.laid_alembic_api_ErrFar), ("alembic/api.ErrFuel", Rows.laid_alembic_api_ErrFuel), ("alembic/api.ErrFault", Rows.laid_alembic_api_ErrFault), ("alembic/api.ErrWord", Rows.laid_alembic_api_ErrWord), ("alembic/api.ErrNumber", Rows.laid_alembic_api_ErrNumber)] : List (String × DataW Unit)) w) false (zL os) #[.agg #[.slice none 0 0, .int .i64 0, .int .i64 0], .int .i64 0, .slice none 0 0] 8 rfl (by kernel_rfl) (by kernel_rfl) (by kernel_rfl) (by kernel_rfl) (by kernel_rfl) (yH os _)) ?_
 intro W base args ds gs before hval0 hW _ _ hL _
 obtain ⟨S, hS⟩ := sent hL
 have hval : ∀ (j : Nat) t v, Tryd.f8.params.toList[j]? = some t → args.toList[j]? = some v → Value.okWide Tryd.prog W .any base t v := fun j t v h1 h2 => hval0 j t v (by simpa using h1) (by simpa using h2)
 have hW' := hW
 obtain ⟨p, q, hA, _, _, _, _⟩ := hW
 have hpar : Tryd.f8.params.toList = [27, 3, 22] := by rw [Tryd.params8]
 rw [hpar] at hval
 replace hA : DataW.TrodAll enc Tryd.prog W 0 (fun _ => true) true Tryd.f8.params.toList args.toList ds p := hA
 rw [hpar] at hA
 obtain ⟨xs, h1, h2⟩ := zX aID (by decide) hval hA
 obtain ⟨k, hk⟩ := LAllocMeans.law xs h1
 have hc := aFl (Mir.alembiclaw21_AllocMeans.sound (aCZ _ _) k) hk (aGv hS) h2
 rw [Array.toArray_toList] at hc
 refine hc.mono fun e W' ⟨he, hb⟩ => ⟨_, he, ?_⟩
 exact aGX rfl hpar (by kernel_rfl) Tryd.underlying4 (fun ds hd => by
  obtain ⟨d0, d1, d2, rfl⟩ : ∃ d0 d1 d2, ds = [d0, d1, d2] := by
   match ds, hd with
   | [d0, d1, d2], _ => exact ⟨d0, d1, d2, rfl⟩
  rfl) Rk.laidOut (by kernel_rfl) hW' hb
theorem holds : Rows.AllocMeansSaid :=
 OpenClaim.holds_of_wide 8 Tryd.f8 rfl rfl rfl rfl rfl rfl rfl ⟨rfl, rfl, rfl, rfl, rfl⟩ rfl rfl rfl rfl rfl (by kernel_rfl) Tryd.func8 (by kernel_rfl)
  (of_decide_eq_true (by kernel_rfl)) (by unfold Func.isWrapper; first | (rw [if_pos (by decide +kernel)]; kernel_rfl) | (rw [if_neg (by decide +kernel)]; exact ⟨rfl, rfl⟩))
  (fun os started H enc _ => aKe os started H enc)
theorem cardHolds : Rows.AllocMeansCardSaid :=
 Claim7.holds_tied_plain_at .later [] [.sentinel, .sentinel, .sentinel, .sentinel, .sentinel, .sentinel, .sentinel, .sentinel, .sentinel, .sentinel, .sentinel, .sentinel, .sentinel, .sentinel] true (true, "864f508a8b0e81602785229ebc0405c57cf7b6a36a11fb1b2a55f1a5fb117935") true
  holds (fun _ h => by cases h) (by kernel_rfl) (fun _ h => by cases h) allocMeans_row_tie rfl ⟨rfl, rfl⟩ (by kernel_rfl) rfl
  (fun f fn hf hfn => by
   obtain rfl : f = 8 := Option.some.inj ((show Tryd.prog.funcNamed "alembic/alembiclaw21.AllocMeans" = some 8 by kernel_rfl).symm.trans hf) |>.symm
   obtain rfl : fn = Tryd.f8 := (Option.some.inj (Tryd.func8.symm.trans hfn)).symm
   exact ⟨by kernel_rfl, fun j t ht => by
    have hm : t ∈ ([27, 3, 22] : List Nat) := by
     have := List.mem_of_getElem? (l := Tryd.f8.params.toList) (i := j) (by simpa using ht)
     rw [Tryd.params8] at this
     exact this
    have := List.all_eq_true.1 (show ([27, 3, 22] : List Nat).all (fun t => !Tryd.prog.wantsStandIn t) = true by kernel_rfl) t hm
    exact (by simpa using this : Tryd.prog.wantsStandIn t = false)⟩)
  (by kernel_rfl)
end RAllocMeans
end Go.Proofs.YtlkgkfgkiidhdaaDoor
