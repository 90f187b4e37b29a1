/- Printed by rowgen.py: the row of AllocHides, out of its law in plain Lean. -/
import Derived.Test.YtlkgkfgkiidhdaaDoorVi9
import Derived.KernelRfl
import Derived.Test.YtlkgkfgkiidhdaaDoorTie
import Derived.Test.YtlkgkfgkiidhdaaDoorCards
import Derived.SevenTiedAt
namespace Go.Proofs.YtlkgkfgkiidhdaaDoor.Mir
open Go
set_option linter.unusedSimpArgs false
set_option linter.unusedVariables false
set_option maxHeartbeats 8000000
set_option maxRecDepth 20000
def qY (n : Nat) (R M : Int) (m : Nat) : Prop := n ≤ 60 ∧ R ≤ 60 ∧ M ≤ 80 ∧ m ≤ 80
instance (n : Nat) (R M : Int) (m : Nat) : Decidable (qY n R M m) := by unfold qY; infer_instance
theorem aDJ (G : aF) (k : Nat) (cs : List WI) (R M : Int) (mem : List Nat) :
  bX.f G (k + 1) [cV false cs R M, .ro false (dL mem)] [] = some (.bool (decide (qY cs.length R M mem.length)), []) := by
 rw [bX.step]
 unfold bX.c cV
 have l1 : dD (.ro false (cJ cs)) = some (I6 cs.length) := by simp [dD, fP]
 have l2 : dD (.ro false (dL mem)) = some (I6 mem.length) := by simp [dD, gK]
 refine gQ ?_
 repeat' first
  | (with_reducible first | refine eT ?_ | refine eN ?_ | refine eS ?_ | refine eXn ?_ | refine eXr ?_ | refine eX ?_ | refine eI ?_ | refine eK ?_ | refine eV0 ?_ | refine xZ ?_ | refine yC ?_ | refine xW ?_ | refine yB ?_ | refine xX ?_ | refine xY ?_)
  | ((with_reducible apply eCn); (simp only [fB, fA]; first | done | (with_reducible exact rfl)))
  | ((with_reducible apply eJ); (rfl))
  | ((with_reducible apply yA); (first | rfl | (simp only [fB, fA]; rfl)))
  | ((with_reducible apply eB); (first | (with_reducible exact rfl) | (simp (disch := omega) only [qf, l1, l2]; first | done | (with_reducible exact rfl) | (with_reducible exact ⟨rfl, rfl⟩)) | (simp (disch := omega) only [qa, kA, AV.cells, gD, cP, kD, fQ, gX, jH, Nat.reduceLeDiff, Nat.reduceLT, Nat.reduceAdd, ↓reduceIte, l1, l2]; first | done | (with_reducible exact rfl) | (with_reducible exact ⟨rfl, rfl⟩))))
  | ((with_reducible apply eR); (simp only [fB, fA]; (with_reducible exact rfl)))
  | ((with_reducible first | refine aBl ?_ ?_ | refine aBq ?_ ?_ | refine aBp ?_ ?_ | refine aBo ?_ ?_ | refine aBn ?_ ?_ | refine aBm ?_ ?_ | refine aBr ?_ ?_ | refine sO ?_ ?_ | refine sGd ?_ ?_ | refine rS ?_ ?_) <;> intro hq <;> try subst hq)
 all_goals (refine yJ ?_; first | exact (decide_eq_true (by unfold qY; omega)).symm | exact (decide_eq_false (by unfold qY; omega)).symm)
theorem aDR (G : aF) (k : Nat) (cs : List WI) (R M : Int) : bP.f G (k + 1) [cV false cs R M] [] = some (cV false cs R M, []) := by
 rw [bP.step]
 unfold bP.c cV
 refine gQ ?_
 repeat' first
  | (with_reducible first | refine eT ?_ | refine eN ?_ | refine eS ?_ | refine eXn ?_ | refine eXr ?_ | refine eX ?_ | refine eI ?_ | refine eK ?_ | refine eV0 ?_ | refine xZ ?_ | refine yC ?_ | refine xW ?_ | refine yB ?_ | refine xX ?_ | refine xY ?_)
  | ((with_reducible apply eCn); (simp only [fB, fA]; first | done | (with_reducible exact rfl)))
  | ((with_reducible apply eJ); (rfl))
  | ((with_reducible apply yA); (first | rfl | (simp only [fB, fA]; rfl)))
  | ((with_reducible apply eB); (first | (with_reducible exact rfl) | (simp (disch := omega) only [qa, kA, AV.cells, gD, cP, kD, fQ, gX, jH, Nat.reduceLeDiff, Nat.reduceLT, Nat.reduceAdd, ↓reduceIte]; first | done | (with_reducible exact rfl) | (with_reducible exact ⟨rfl, rfl⟩))))
  | ((with_reducible apply eR); (simp only [fB, fA]; (with_reducible exact rfl)))
  | ((with_reducible first | refine aBl ?_ ?_ | refine aBq ?_ ?_ | refine aBp ?_ ?_ | refine aBo ?_ ?_ | refine aBn ?_ ?_ | refine aBm ?_ ?_ | refine aBr ?_ ?_ | refine sO ?_ ?_ | refine sGd ?_ ?_ | refine rS ?_ ?_) <;> intro hq <;> try subst hq)
 refine oF ?_
 unfold iB
 exact mB (by simp [cB, cI, fY, AV.cells]) _
theorem aIk (G : aF) (k : Nat) : cQ.f G (k + 150) [] [] = some (.bool true, []) := by kernel_rfl
theorem aFE (n : Nat) : List.replicate n (AV.int .u64 0) = dL (List.replicate n 0) := by unfold dL; rw [List.map_replicate]; rfl
theorem wF (G : aF) (k : Nat) (bm : Bool) (mem : List Nat) (n : Nat) (hn : n ≤ 100000) : bR.f G (k + 1) [.ro bm (dL mem), Nn n] [] = some (.ro false (dL (gY mem n)), []) := by
 rw [bR.step]
 unfold bR.c
 have m1 : eW 30 1 (.int .u64 0) (Nn n) (Nn n) [] = some (.sl 0 n 0 n 1, [⟨30, 1, dL (List.replicate n 0)⟩]) := by
  unfold eW
  simp only [Int.toNat_natCast]
  rw [if_pos (by omega), aFE]; rfl
 have c1 : wB (.sl 0 n 0 n 1) (.ro bm (dL mem)) [⟨30, 1, dL (List.replicate n 0)⟩] = some (.int .i64 ((min mem.length n : Nat) : Int), [⟨30, 1, dL (gY mem n)⟩]) := by
  have e2 : iE (.ro bm (dL mem)) [⟨30, 1, dL (List.replicate n 0)⟩] = some (dL mem) := rfl
  have e1 : ([⟨30, 1, dL (List.replicate n 0)⟩] : aB)[0]? = some ⟨30, 1, dL (List.replicate n 0)⟩ := rfl
  unfold wB
  simp only [e1, e2, gK, List.length_replicate, vD]
  rw [if_pos (by refine ⟨trivial, trivial, ?_, trivial⟩; omega)]
  have e3 : (dL (List.replicate n 0)).take 0 ++ ((dL mem).take n ++ (dL (List.replicate n 0)).drop (0 + ((dL mem).take n).length)) = dL (gY mem n) := by
   unfold gY dL
   simp only [List.take_zero, List.nil_append, Nat.zero_add, List.map_append, List.map_take, List.map_replicate, List.length_take, List.length_map, List.drop_replicate]
   congr 2
   omega
  rw [e3]; rfl
 have gl := aAN (x := .sl 0 n 0 n 1) (y := .ro false (dL (gY mem n))) (n := 0) (H := [⟨30, 1, dL (gY mem n)⟩]) (by
  by_cases h : mem.length ≤ n
  ·exact tB (ty := 30) (xs := dL (gY mem n)) rfl (by omega) (by rw [gK, tD _ _ h]) (vD _) (jW 0 _)
  ·refine tB (ty := 30) (xs := dL (gY mem n)) rfl (by omega) ?_ (vD _) (jW 0 _)
   rw [gK]; unfold gY; simp; omega) rfl
 refine gQ ?_
 have fx := aMv m1 <| c1
 refine gT ?_
 exact oF gl
theorem aGp {l m : List Nat} (hl : l.length = m.length) (h : ∀ j, j < l.length → l.getD j 0 = m.getD j 0) : l = m := by
 refine List.ext_getElem hl fun i h1 h2 => ?_
 have := h i h1
 rw [List.getD_eq_getElem?_getD, List.getD_eq_getElem?_getD, List.getElem?_eq_getElem h1, List.getElem?_eq_getElem h2] at this
 exact this
structure Does (ws : List WI) (R M : Nat) (ot : List WI) (R2 M2 : Nat) : Prop where
 valid : gS ot R2 M2 = .ok
 ge : M ≤ M2
 le : M2 ≤ M + R
 len : ot.length ≤ 480
 run : ∃ ml : List (Int × Int) → List (Int × Int), ∀ (mem : List Nat) (s' : MS), mem.length = M → (∀ x ∈ mem, x < 18446744073709551616) → jB ws 400 7999 (s0 R mem) = some s' → s'.code ≠ 4 →
  ∃ q', jB ot 3264 7999 (s0 R2 (gY mem M2)) = some q' ∧ q'.code = s'.code ∧ q'.mem.take M = s'.mem ∧ q'.mem.length = M2 ∧ s'.mem.length = M ∧ q'.leaks = ml s'.leaks
abbrev GH : aF := zV 179 [0, 2, 1, 4, 3, 5]
theorem aKH : GOk GH := ⟨rfl, rfl, rfl, rfl, rfl⟩
theorem aKf (G : aF) (k : Nat) (n m : Int) (h0 : 0 < m) (h1 : m < 9223372036854775808) (hn : -9223372036854775808 ≤ n) (hn' : n < 9223372036854775808) :
  bS.f G (k + 1) [.int .i64 n, .int .i64 m] [] = some (.int .i64 (n % m), []) := by
 rw [bS.step]
 unfold bS.c
 rw [aIb _ _ _ _ _ _ (by omega)]
 have hlt := Int.tmod_lt_of_pos n h0
 have hgt : -m < n.tmod m := by have := Int.tmod_lt_of_pos (-n) h0; rw [Int.neg_tmod] at this; omega
 have hm : n.tmod m % m = n % m := by
  rw [Int.tmod_eq_emod]; split
  ·simp
  ·have e : (m.natAbs : Int) = m := by omega
   simp [e]
 by_cases h : n.tmod m < 0
 ·simp only [tP, aBS, hJ, h, decide_true, aDy, gR, List.length_nil, aCm, aCN]
  rw [eD (by omega) (by omega)]
  congr 3
  rw [← hm, ← Int.add_emod_right]
  exact (Int.emod_eq_of_lt (by omega) (by omega)).symm
 ·simp only [tP, aBS, hJ, h, decide_false, aBY, List.length_nil, aCm, aCN]
  congr 3
  rw [← hm]
  exact (Int.emod_eq_of_lt (by omega) (by omega)).symm
theorem vQ (G : aF) (k : Nat) (x y : Int × Int) : bE.f G (k + 1) [jK x, jK y] [] = some (.bool (decide (x = y)), []) := by
 obtain ⟨a, b⟩ := x
 obtain ⟨c, d⟩ := y
 rw [bE.step]
 unfold bE.c jK
 have q1 : aX Tryd.prog .eql 3 false (I6 a) (I6 c) = some (.bool (decide (a = c))) := jC ..
 have q2 : aX Tryd.prog .eql 2 false (I6 b) (I6 d) = some (.bool (decide (b = d))) := jC ..
 have e : decide ((a, b) = (c, d)) = (decide (a = c) && decide (b = d)) := by
  by_cases h1 : a = c <;> by_cases h2 : b = d <;> simp [h1, h2]
 rw [e]
 generalize decide (a = c) = u at *
 generalize decide (b = d) = v at *
 refine gQ ?_
 cases u <;> cases v
 all_goals (
  have fx := aMv q1 q2
  refine kU ?_
  exact yJ rfl)
theorem zG (p : Bool) (a pre suf : List (Int × Int)) (x : Int × Int) (hm : a = pre ++ x :: suf) : aM 2 (.ro p (dX a)) (Nn pre.length) = some (.rp p (jK x) 0) := by
 have ha : (dX a)[pre.length]? = some (jK x) := by rw [hm]; simp [dX]
 unfold aM
 have h0 : (0 : Int) ≤ (pre.length : Int) := by omega
 simp only [h0, if_true, Int.toNat_natCast, ha]
 rfl
theorem oO (G : aF) (k : Nat) (self : cE) (p q : Bool) (a b : List (Int × Int)) (hla : a.length ≤ 1000000) (hab : a.length = b.length) : ∀ (sa sb pa pb : List (Int × Int)) (f : Nat), a = pa ++ sa → b = pb ++ sb → pa.length = pb.length → sa.length < f →
  ∃ o, dK (aO.l4 G (k + 1) 0 self) f [.ro p (dX a), .ro q (dX b), .bool false, Nn pa.length] [] = some o ∧ (sa = sb → o = (.exit 0, [.ro p (dX a), .ro q (dX b), .bool false, Nn a.length], [])) ∧ (sa ≠ sb → ∃ j, o = (.ret, [.ro p (dX a), .ro q (dX b), .bool false, Nn j], []))
 | sa, sb, pa, pb, 0, _, _, _, hf => by omega
 | [], sb, pa, pb, f + 1, hm, hm2, hp, hf => by
  rw [bB, aO.l4]
  have hl : a = pa := by rw [hm]; simp
  have hsb : sb = [] := by
   have e1 : b.length = pb.length + sb.length := by rw [hm2]; simp
   rw [hl] at hab
   exact List.length_eq_zero_iff.1 (by omega)
  have hc : fN 0 [.ro p (dX a), .ro q (dX b), .bool false, Nn pa.length] [] = some [] := by simp [fN, cI, cB, dI, jE]
  have lc : dD (.ro p (dX a)) = some (I6 a.length) := by simp [dD, hU]
  have qq : aX Tryd.prog .lss 3 false (Nn pa.length) (Nn a.length) = some (.bool false) := by rw [hJ, decide_eq_false (by rw [hl]; omega)]
  refine ⟨(.exit 0, [.ro p (dX a), .ro q (dX b), .bool false, Nn a.length], []), ?_, fun _ => rfl, fun h => absurd hsb.symm h⟩
  refine fV ?_
  refine eC hc ?_
  have fx := aMv lc <| qq
  refine kU ?_
  rw [hl]
  refine gA ?_; rfl
 | x :: sa, [], pa, pb, f + 1, hm, hm2, hp, hf => by
  have e1 : a.length = pa.length + (sa.length + 1) := by rw [hm]; simp
  have e2 : b.length = pb.length := by rw [hm2]; simp
  omega
 | x :: sa, y :: sb, pa, pb, f + 1, hm, hm2, hp, hf => by
  have hl : a.length = pa.length + (sa.length + 1) := by rw [hm]; simp
  have hc : fN 0 [.ro p (dX a), .ro q (dX b), .bool false, Nn pa.length] [] = some [] := by simp [fN, cI, cB, dI, jE]
  have lc : dD (.ro p (dX a)) = some (I6 a.length) := by simp [dD, hU]
  have qq : aX Tryd.prog .lss 3 false (Nn pa.length) (Nn a.length) = some (.bool true) := by rw [hJ, decide_eq_true (by omega)]
  have d1 := zG p a pa sa x hm
  have d1' := zG q b pb sb y hm2
  rw [← hp] at d1'
  have d2 : ∀ c x H, aE G true 2 (.rp c (jK x) 0) H = some (jK x) := fun c x H => rfl
  have d4 : aX Tryd.prog .add 3 true (Nn pa.length) (.int .i64 1) = some (Nn (pa ++ [x]).length) := by
   rw [gR, eD (by omega) (by omega)]; congr 2; simp
  have d5 : ∀ H, aW (bE.f G (k + 1)) [jK x, jK y] H = _ := fun H => cG (H := H) (vQ G k x y) rfl rfl
  by_cases hxy : x = y
  ·subst hxy
   rw [decide_eq_true rfl] at d5
   obtain ⟨o, h1, h2, h3⟩ := oO G k self p q a b hla hab sa sb (pa ++ [x]) (pb ++ [x]) f (by rw [hm]; simp) (by rw [hm2]; simp) (by simp [hp]) (by simp at hf; omega)
   refine ⟨o, ?_, fun h => h2 (by simpa using h), fun h => h3 (by simpa using h)⟩
   rw [bB, aO.l4]
   refine fV ?_
   refine eC hc ?_
   have fx := aMv lc <| aMv qq <| aMv d1 <| aMv d1' <| aMv d2 <| aMv d4 <| d5
   refine kU ?_
   exact h1
  ·rw [decide_eq_false hxy] at d5
   refine ⟨(.ret, [.ro p (dX a), .ro q (dX b), .bool false, Nn pa.length], []), ?_, fun h => absurd (by simpa using h : x = y ∧ sa = sb).1 hxy, fun _ => ⟨pa.length, rfl⟩⟩
   rw [bB, aO.l4]
   refine fV ?_
   refine eC hc ?_
   have fx := aMv lc <| aMv qq <| aMv d1 <| aMv d1' <| aMv d2 <| aMv d4 <| d5
   refine kU ?_
   refine gA ?_; rfl
theorem vR (G : aF) (k : Nat) (p q : Bool) (a b : List (Int × Int)) (hla : a.length ≤ 1000000) (hk : a.length < k + 1) : aO.f G (k + 2) [.ro p (dX a), .ro q (dX b)] [] = some (.bool (decide (a = b)), []) := by
 rw [aO.step]
 unfold aO.c
 have lc : dD (.ro p (dX a)) = some (I6 a.length) := by simp [dD, hU]
 have lc2 : dD (.ro q (dX b)) = some (I6 b.length) := by simp [dD, hU]
 refine gQ ?_
 by_cases hl : a.length = b.length
 ·have q1 : aX Tryd.prog .neq 3 false (I6 a.length) (I6 b.length) = some (.bool false) := oH (by omega)
  obtain ⟨o, h1, h2, h3⟩ := oO G k (aO.f G (k + 1)) p q a b hla hl a b [] [] (k + 1) rfl rfl rfl hk
  have h1' : dK (aO.l4 G (k + 1) 0 (aO.f G (k + 1))) (k + 1) [.ro p (dX a), .ro q (dX b), .bool false, .int .i64 0] [] = some o := h1
  by_cases hab : a = b
  ·rw [decide_eq_true hab]
   rw [h2 hab] at h1'
   clear h1 h2 h3
   have fx := aMv lc <| aMv lc2 <| q1
   have lx1 := h1'
   refine kU ?_
   exact yJ rfl
  ·rw [decide_eq_false hab]
   obtain ⟨j, hj⟩ := h3 hab
   rw [hj] at h1'
   clear h1 h2 h3
   have fx := aMv lc <| aMv lc2 <| q1
   have lx1 := h1'
   refine kU ?_
   exact yJ rfl
 ·have q1 : aX Tryd.prog .neq 3 false (I6 a.length) (I6 b.length) = some (.bool true) := oL (by omega)
  rw [decide_eq_false (fun h => hl (by rw [h]))]
  have fx := aMv lc <| aMv lc2 <| q1
  refine kU ?_
  exact yJ rfl
theorem aFf (G : aF) (k : Nat) (hg : GOk G) (bor : Bool) (ws : List WI) (R M S : Nat) (h : gS ws R M = .ok) (hl : ws.length ≤ 60) (hR : R ≤ 60) (hM : M ≤ 80) (hs : 6 ≤ S ∧ S ≤ 28) :
  ∃ (ot : List WI) (R2 M2 : Nat), cF.f G (k + 8000) [cV bor ws R M, Nn S] [] = some (.tup [cV false ot R2 M2, .nili], []) ∧ R2 ≤ S ∧ Does ws R M ot R2 M2 := by
 have hok := rA h
 rw [Int.toNat_natCast] at hok
 by_cases hRS : R ≤ S
 ·refine ⟨ws, R, M, aFg G hg (k + 7991) bor ws R M S (by omega) (by omega) h hs hRS, hRS, ⟨h, Nat.le_refl _, by omega, by omega, id, fun mem s' hm hmm hrun hc => ?_⟩⟩
  have eg : gY mem M = mem := by unfold gY; rw [List.take_of_length_le (by omega), hm, Nat.sub_self]; simp
  have hml := (vN ws 400 R (by decide) (fun j hj => (hok j hj).ok) _ _ _ hrun (aCZ R mem hmm (by omega)) (by simp [s0]) (by simp [s0])).2.2
  have hml' : s'.mem.length = M := by rw [hml]; exact hm
  refine ⟨s', by rw [eg]; exact wZ (by decide) _ _ _ hrun hc (by simp [s0]), rfl, List.take_of_length_le (by omega), hml', hml', rfl⟩
 ·obtain ⟨o, pm, ha⟩ := aDn G hg (k + 7960) bor ws R M S (by omega) h hs (by omega) (by omega) (by omega) (by omega) (by omega) (by omega)
  have hL := aIq (M := M) pm hs.1 (by omega) (by omega)
  have hnone := aDg h
  have hgood := uQ h
  rw [Int.toNat_natCast] at hgood
  have hout := aFH hL (by omega) hnone (by omega)
  have hlen : ((kO R S M o).out ws).length ≤ 480 := by
   have := qA (kO R S M o) ws
   rw [oC]; omega
  refine ⟨_, S, M + (R + 4 - S), ha, Nat.le_refl _, ⟨hout, by omega, by omega, hlen, (kO R S M o).mlk ws 0, fun mem s' hm hmm hrun hc => ?_⟩⟩
  obtain ⟨q', e1, e2, e3, e4⟩ := aII (K := 7999) (f := 7999) (fuel := 3264) (F := 400) hL hgood (by decide) (by decide) (by decide) mem hm hmm s' hrun hc (by decide)
  refine ⟨q', e1, e2, ?_, e3.qml, e3.sml, e4⟩
  have hsm : s'.mem.length = M := e3.sml
  have hqm := e3.qml
  refine aGp (by rw [List.length_take, hsm, hqm]; omega) fun j hj => ?_
  rw [List.length_take, hqm] at hj
  have := e3.mem j (by show j < M; omega)
  rw [← this, List.getD_eq_getElem?_getD, List.getElem?_take_of_lt (by omega), ← List.getD_eq_getElem?_getD]
end Go.Proofs.YtlkgkfgkiidhdaaDoor.Mir
namespace Go.Proofs.YtlkgkfgkiidhdaaDoor
open Go Go.Proofs.YtlkgkfgkiidhdaaDoor.Mir
set_option linter.unusedVariables false
set_option linter.unusedSimpArgs false
set_option maxHeartbeats 8000000
set_option maxRecDepth 20000
theorem aGw {mem : List Nat} {n : Nat} (hmm : ∀ x ∈ mem, x < 18446744073709551616) : ∀ x ∈ gY mem n, x < 18446744073709551616 := fun x hx => by
 unfold gY at hx
 rcases List.mem_append.1 hx with hx | hx
 ·exact hmm x (List.mem_of_mem_take hx)
 ·rw [(List.mem_replicate.1 hx).2]; decide
theorem aGn (G : aF) {ws : List WI} {R M : Nat} {ot : List WI} {R2 M2 : Nat} (hv : gS ws R M = .ok) (hl : ws.length ≤ 60) (hR : R ≤ 60) (hR2 : R2 ≤ 60) (hM : M ≤ 80) (hD : Does ws R M ot R2 M2) : ∃ ml : List (Int × Int) → List (Int × Int), ∀ mem : List Nat, (∀ x ∈ mem, x < 18446744073709551616) → mem.length = M →
  ∃ s Q : MS, (∀ H, aW (bH.f G 20000) [cV false ws R M, .nils, .ro false (dL mem), .int .i64 400] H = some (gP s (-1), H)) ∧ (∀ H, aW (bH.f G 20000) [cV false ot R2 M2, .nils, .ro false (dL (gY mem M2)), .int .i64 3264] H = some (gP Q (-1), H)) ∧ s.leaks.length ≤ 1200 ∧ Q.leaks.length ≤ 9792 ∧ (s.code ≠ 4 → Q.leaks = ml s.leaks) := by
 obtain ⟨ml, hrun⟩ := hD.run
 have hok2 := rA hv
 rw [Int.toNat_natCast] at hok2
 have hok3 := rA hD.valid
 rw [Int.toNat_natCast] at hok3
 have hDg := hD.ge
 have hDl := hD.le
 have hDn := hD.len
 have pc := fun ws r m => nE false ws r m
 have plainU : ∀ l, gC (dL l) = true := fun l => mH _ (fun _ => rfl) l
 refine ⟨ml, fun mem hmm hml => ?_⟩
 have hgl : (gY mem M2).length = M2 := tD _ _ (by omega)
 have hgm := aGw (n := M2) hmm
 obtain ⟨s, hs⟩ := tU ws 400 7999 (s0 R mem) (by simp [s0]) (by simp [s0])
 have hs2 := tT ws 400 7999 _ _ hs 12000
 obtain ⟨Q, hQ⟩ := tU ot 3264 7999 (s0 R2 (gY mem M2)) (by simp [s0]) (by simp [s0])
 have hQ2 := tT ot 3264 7999 _ _ hQ 12000
 have os := vN ws 400 R (by decide) (fun j hj => (hok2 j hj).ok) _ _ _ hs (aCZ R mem hmm (by omega)) (by simp [s0]) (by simp [s0])
 have oq := vN ot 3264 R2 (by decide) (fun j hj => (hok3 j hj).ok) _ _ _ hQ (aCZ R2 (gY mem M2) hgm (by omega)) (by simp [s0]) (by simp [s0])
 refine ⟨s, Q, fun H => cG (H := H) (zS G 19996 400 false ws R M mem false (by omega) hmm (by omega) (by omega) (by decide) (by decide) (by omega) hok2 (by omega) s hs2) (by simp [gC, pc, bV, plainU]) (sU s (-1)), fun H => cG (H := H) (zS G 19996 3264 false ot R2 M2 (gY mem M2) false (by omega) hgm (by omega) (by omega) (by decide) (by decide) (by omega) hok3 (by omega) Q hQ2) (by simp [gC, pc, bV, plainU]) (sU Q (-1)), ?_, ?_, fun hc => ?_⟩
 ·have := os.1.leaks; have := os.2.1; omega
 ·have := oq.1.leaks; have := oq.2.1; omega
 ·obtain ⟨q', e1, _, _, _, _, e6⟩ := hrun mem s hml hmm hs hc
  rw [hQ] at e1
  simp only [Option.some.injEq] at e1
  rw [e1]; exact e6
theorem aFv (ws : List WI) (r m s : Int) (hs64 : -9223372036854775808 ≤ s ∧ s < 9223372036854775808) (mem more : List Nat) (hmm : ∀ x ∈ mem, x < 18446744073709551616) (hmo : ∀ x ∈ more, x < 18446744073709551616) :
  alembiclaw21_AllocHides.f GH 20001 [cV false ws r m, I6 s, .ro false (dL mem), .ro false (dL more)] [] = some (.bool true, []) := by
 have hG := aKH
 have pc := nE false ws r m
 have plainU : ∀ l, gC (dL l) = true := fun l => mH _ (fun _ => rfl) l
 have plainLk : ∀ l, gC (dX l) = true := fun l => mH _ (fun _ => rfl) l
 have rf : ∀ H, aW (cQ.f GH 20000) [] H = _ := fun H => cG (H := H) (aIk GH 19850) rfl rfl
 have rl : ∀ H, aW (bX.f GH 20000) [cV false ws r m, .ro false (dL mem)] H = _ := fun H => cG (H := H) (aDJ GH 19999 ws r m mem) (by simp [gC, pc, bV, plainU]) rfl
 have ro_ : ∀ ws r m H, aW (bP.f GH 20000) [cV false ws r m] H = _ := fun ws r m H => cG (H := H) (aDR GH 19999 ws r m) (by simp [gC, nE]) (by simp [gO, iV, aGi, cV])
 have b1 : ∀ H, gB (cV false ws r m) H = some (.rp false (cV false ws r m) 0, H) := fun H => rfl
 have d1 : ∀ H, aE GH true 3 (.rp false (cV false ws r m) 0) H = some (cV false ws r m) := fun H => rfl
 have d2 : aA 2 (.rp false (cV false ws r m) 0) = some (.rp false (cV false ws r m) 2) := rfl
 have d3 : ∀ H, aE GH false 1 (.rp false (cV false ws r m) 2) H = some (I6 m) := fun H => rfl
 have lm : dD (.ro false (dL mem)) = some (I6 mem.length) := by simp [dD, gK]
 have lo : dD (.ro false (dL more)) = some (I6 more.length) := by simp [dD, gK]
 rw [alembiclaw21_AllocHides.step]
 unfold alembiclaw21_AllocHides.c
 refine gQ ?_
 by_cases hl : ¬ qY ws.length r m mem.length
 ·rw [decide_eq_false hl] at rl
  generalize cV false ws r m = C at *
  generalize dL mem = NM at *
  generalize dL more = NO at *
  have fx := aMv rf <| aMv rl <| aMv b1 <| aMv d1 <| aMv d2 <| aMv d3 <| aMv lm <| lo
  refine gT ?_
  exact yJ rfl
 replace hl := Classical.not_not.1 hl
 rw [decide_eq_true hl] at rl
 unfold qY at hl
 by_cases hm1 : (mem.length : Int) ≠ m
 ·have q1 : aX Tryd.prog .neq 3 false (I6 mem.length) (I6 m) = some (.bool true) := oL hm1
  generalize cV false ws r m = C at *
  generalize dL mem = NM at *
  generalize dL more = NO at *
  have fx := aMv rf <| aMv rl <| aMv b1 <| aMv d1 <| aMv d2 <| aMv d3 <| aMv lm <| aMv lo <| q1
  refine gT ?_
  exact yJ rfl
 replace hm1 : (mem.length : Int) = m := Classical.not_not.1 hm1
 have q1 : aX Tryd.prog .neq 3 false (I6 mem.length) (I6 m) = some (.bool false) := oH hm1
 by_cases hm2 : (more.length : Int) ≠ m
 ·have q2 : aX Tryd.prog .neq 3 false (I6 more.length) (I6 m) = some (.bool true) := oL hm2
  generalize cV false ws r m = C at *
  generalize dL mem = NM at *
  generalize dL more = NO at *
  have fx := aMv rf <| aMv rl <| aMv b1 <| aMv d1 <| aMv d2 <| aMv d3 <| aMv lm <| aMv lo <| aMv q1 <| q2
  refine gT ?_
  exact yJ rfl
 replace hm2 : (more.length : Int) = m := Classical.not_not.1 hm2
 have q2 : aX Tryd.prog .neq 3 false (I6 more.length) (I6 m) = some (.bool false) := oH hm2
 have rn : ∀ H, aW (bS.f GH 20000) [I6 s, .int .i64 23] H = _ := fun H => cG (H := H) (aKf GH 19999 s 23 (by omega) (by omega) hs64.1 hs64.2) rfl rfl
 obtain ⟨S, hS⟩ : ∃ S : Nat, s % 23 + 6 = (S : Int) ∧ 6 ≤ S ∧ S ≤ 28 := ⟨(s % 23 + 6).toNat, by omega, by omega, by omega⟩
 have a6 : aX Tryd.prog .add 3 true (I6 (s % 23)) (.int .i64 6) = some (Nn S) := by
  rw [gR, eD (by omega) (by omega), hS.1]
 have bx0 : fR 27 (.agg [.nils, .int .i64 0, .int .i64 0]) [] = some (.ptr 0 1 0 0, [⟨27, 3, [zC]⟩]) := rfl
 have j2 : aA 2 (.ptr 0 1 0 0) = some (.ptr 0 1 0 2) := rfl
 by_cases hv : gS ws r m ≠ .ok
 ·have rv : ∀ H, aW (bF.f GH 20000) [cV false ws r m] H = _ := fun H => cG (H := H) (aCV GH 19997 ws r m (by omega) (by omega)) (by simp [gC, pc]) (aFu _)
  have rr : ∀ H, aW (cF.f GH 20000) [cV false ws r m, Nn S] H = _ := fun H => cG (H := H) (aFe GH hG 19991 false ws r m S (by omega) (by omega) hv) (by simp [gC, pc, bV]) (by simp [gO, iV, qG])
  obtain ⟨c, p, j, hft, hc⟩ : ∃ c p j, ftO (gS ws r m) = ftV c p j ∧ c ≠ 0 := by
   cases h : gS ws r m with
   | ok => exact absurd h hv
   | bare e => exact ⟨_, _, _, rfl, aEq e⟩
   | at_ j e => exact ⟨_, _, _, rfl, aEq e⟩
  rw [hft] at rv
  have fv : aAL false 1 0 (ftV c p j) = some (I6 c) := rfl
  have q4 := aEC hv
  have q5 : aX Tryd.prog .neq 3 true (I6 c) (.int .i64 0) = some (.bool true) := oL hc
  have sz : fM (aV 3 (.ptr 0 1 0 0) zC [⟨27, 3, [zC]⟩]) = some (.tup [], [⟨27, 3, [zC]⟩]) := rfl
  have ro' := ro_ ws r m
  clear hft hv ro_
  generalize veV (gS ws r m) = V at *
  generalize ftV c p j = Fv at *
  generalize cV false ws r m = C at *
  generalize dL mem = NM at *
  generalize dL more = NO at *
  generalize zC = Z at *
  generalize s % 23 = s23 at *
  have fx := aMv rf <| aMv rl <| aMv b1 <| aMv d1 <| aMv d2 <| aMv d3 <| aMv lm <| aMv lo <| aMv q1 <| aMv q2 <| aMv rn <| aMv a6 <| aMv rr <| aMv bx0 <| aMv sz <| aMv j2 <| aMv q4 <| aMv ro' <| aMv rv <| aMv fv <| q5
  refine gT ?_
  exact yJ rfl
 replace hv := Classical.not_not.1 hv
 have hvok := (qF hv).1
 obtain ⟨R, rfl⟩ : ∃ R : Nat, r = R := ⟨r.toNat, by omega⟩
 obtain ⟨M, rfl⟩ : ∃ M : Nat, m = M := ⟨m.toNat, by omega⟩
 obtain ⟨ot, R2, M2, ha, hR2, hD⟩ := aFf GH 12000 hG false ws R M S hv (by omega) (by omega) (by omega) hS.2
 have hDg := hD.ge
 have hDl := hD.le
 have rr : ∀ H, aW (cF.f GH 20000) [cV false ws R M, Nn S] H = _ := fun H => cG (H := H) ha (by simp [gC, pc, bV]) (by simp [gO, iV, aGi, cV])
 have q4 : aX Tryd.prog .neq 33 true .nili .nili = some (.bool false) := by kernel_rfl
 have sd : fM (aV 3 (.ptr 0 1 0 0) (cV false ot R2 M2) [⟨27, 3, [zC]⟩]) = some (.tup [], [⟨27, 3, [cV false ot R2 M2]⟩]) := rfl
 have ldD : ∀ l, aE GH true 3 (.ptr 0 1 0 0) (⟨27, 3, [cV false ot R2 M2]⟩ :: l) = some (cV false ot R2 M2) := fun l => rfl
 have y2 : ∀ l, aE GH false 1 (.ptr 0 1 0 2) (⟨27, 3, [cV false ot R2 M2]⟩ :: l) = some (Nn M2) := fun l => rfl
 have c2 : aX Tryd.prog .lss 3 false (Nn M2) (Nn M) = some (.bool false) := gI (by omega)
 have ro1 := ro_ ws R M
 have ro2 := ro_ ot R2 M2
 obtain ⟨ml, each⟩ := aGn GH hv (by omega) (by omega) (by omega) (by omega) hD
 obtain ⟨a, x, ra, rx, ha1, hx1, hax⟩ := each mem hmm (by omega)
 obtain ⟨b, y, rb, ry, hb1, hy1, hby⟩ := each more hmo (by omega)
 have rg1 : ∀ H, aW (bR.f GH 20000) [.ro false (dL mem), Nn M2] H = _ := fun H => cG (H := H) (wF GH 19999 false mem M2 (by omega)) (by simp [gC, bV, plainU]) (by simp [gO, aDw])
 have rg2 : ∀ H, aW (bR.f GH 20000) [.ro false (dL more), Nn M2] H = _ := fun H => cG (H := H) (wF GH 19999 false more M2 (by omega)) (by simp [gC, bV, plainU]) (by simp [gO, aDw])
 have bx1 : ∀ d, fR 38 (.agg [.int .i64 0, .nils, .nils, .int .i64 0, .int .i64 0]) [⟨27, 3, [d]⟩] = some (.ptr 1 1 0 0, [⟨27, 3, [d]⟩, rB]) := fun d => rfl
 have sx1 : ∀ d, fM (aV 5 (.ptr 1 1 0 0) (gP a (-1)) [⟨27, 3, [d]⟩, rB]) = some (.tup [], [⟨27, 3, [d]⟩, ⟨38, 5, [gP a (-1)]⟩]) := fun d => rfl
 have bx2 : ∀ d e, fR 38 (.agg [.int .i64 0, .nils, .nils, .int .i64 0, .int .i64 0]) [⟨27, 3, [d]⟩, ⟨38, 5, [e]⟩] = some (.ptr 2 1 0 0, [⟨27, 3, [d]⟩, ⟨38, 5, [e]⟩, rB]) := fun d e => rfl
 have sx2 : ∀ d e, fM (aV 5 (.ptr 2 1 0 0) (gP b (-1)) [⟨27, 3, [d]⟩, ⟨38, 5, [e]⟩, rB]) = some (.tup [], [⟨27, 3, [d]⟩, ⟨38, 5, [e]⟩, ⟨38, 5, [gP b (-1)]⟩]) := fun d e => rfl
 have bx3 : ∀ d e f, fR 38 (.agg [.int .i64 0, .nils, .nils, .int .i64 0, .int .i64 0]) [⟨27, 3, [d]⟩, ⟨38, 5, [e]⟩, ⟨38, 5, [f]⟩] = some (.ptr 3 1 0 0, [⟨27, 3, [d]⟩, ⟨38, 5, [e]⟩, ⟨38, 5, [f]⟩, rB]) := fun d e f => rfl
 have sx3 : ∀ d e f, fM (aV 5 (.ptr 3 1 0 0) (gP x (-1)) [⟨27, 3, [d]⟩, ⟨38, 5, [e]⟩, ⟨38, 5, [f]⟩, rB]) = some (.tup [], [⟨27, 3, [d]⟩, ⟨38, 5, [e]⟩, ⟨38, 5, [f]⟩, ⟨38, 5, [gP x (-1)]⟩]) := fun d e f => rfl
 have bx4 : ∀ d e f g, fR 38 (.agg [.int .i64 0, .nils, .nils, .int .i64 0, .int .i64 0]) [⟨27, 3, [d]⟩, ⟨38, 5, [e]⟩, ⟨38, 5, [f]⟩, ⟨38, 5, [g]⟩] = some (.ptr 4 1 0 0, [⟨27, 3, [d]⟩, ⟨38, 5, [e]⟩, ⟨38, 5, [f]⟩, ⟨38, 5, [g]⟩, rB]) := fun d e f g => rfl
 have sx4 : ∀ d e f g, fM (aV 5 (.ptr 4 1 0 0) (gP y (-1)) [⟨27, 3, [d]⟩, ⟨38, 5, [e]⟩, ⟨38, 5, [f]⟩, ⟨38, 5, [g]⟩, rB]) = some (.tup [], [⟨27, 3, [d]⟩, ⟨38, 5, [e]⟩, ⟨38, 5, [f]⟩, ⟨38, 5, [g]⟩, ⟨38, 5, [gP y (-1)]⟩]) := fun d e f g => rfl
 have k10 : aA 0 (.ptr 1 1 0 0) = some (.ptr 1 1 0 0) := rfl
 have k12 : aA 2 (.ptr 1 1 0 0) = some (.ptr 1 1 0 2) := rfl
 have k20 : aA 0 (.ptr 2 1 0 0) = some (.ptr 2 1 0 0) := rfl
 have k22 : aA 2 (.ptr 2 1 0 0) = some (.ptr 2 1 0 2) := rfl
 have k32 : aA 2 (.ptr 3 1 0 0) = some (.ptr 3 1 0 2) := rfl
 have k42 : aA 2 (.ptr 4 1 0 0) = some (.ptr 4 1 0 2) := rfl
 have u0 : ∀ d l, aE GH false 1 (.ptr 1 1 0 0) (⟨27, 3, [d]⟩ :: ⟨38, 5, [gP a (-1)]⟩ :: l) = some (I6 a.code) := fun d l => rfl
 have u2 : ∀ d l, aE GH false 1 (.ptr 1 1 0 2) (⟨27, 3, [d]⟩ :: ⟨38, 5, [gP a (-1)]⟩ :: l) = some (.ro false (dX a.leaks)) := fun d l => rfl
 have v0 : ∀ d e l, aE GH false 1 (.ptr 2 1 0 0) (⟨27, 3, [d]⟩ :: ⟨38, 5, [e]⟩ :: ⟨38, 5, [gP b (-1)]⟩ :: l) = some (I6 b.code) := fun d e l => rfl
 have v2 : ∀ d e l, aE GH false 1 (.ptr 2 1 0 2) (⟨27, 3, [d]⟩ :: ⟨38, 5, [e]⟩ :: ⟨38, 5, [gP b (-1)]⟩ :: l) = some (.ro false (dX b.leaks)) := fun d e l => rfl
 have x2 : ∀ d e f l, aE GH false 1 (.ptr 3 1 0 2) (⟨27, 3, [d]⟩ :: ⟨38, 5, [e]⟩ :: ⟨38, 5, [f]⟩ :: ⟨38, 5, [gP x (-1)]⟩ :: l) = some (.ro false (dX x.leaks)) := fun d e f l => rfl
 have y4 : ∀ d e f g l, aE GH false 1 (.ptr 4 1 0 2) (⟨27, 3, [d]⟩ :: ⟨38, 5, [e]⟩ :: ⟨38, 5, [f]⟩ :: ⟨38, 5, [g]⟩ :: ⟨38, 5, [gP y (-1)]⟩ :: l) = some (.ro false (dX y.leaks)) := fun d e f g l => rfl
 have same : ∀ H, aW (aO.f GH 20000) [.ro false (dX a.leaks), .ro false (dX b.leaks)] H = _ := fun H => cG (H := H) (vR GH 19998 false false a.leaks b.leaks (by omega) (by omega)) (by simp [gC, bV, plainLk]) rfl
 clear ro_ hv ha hD each hvok
 by_cases h4 : a.code = 4
 ·have q5 : aX Tryd.prog .eql 3 true (I6 a.code) (.int .i64 4) = some (.bool true) := mX h4
  clear h4 hax hby
  generalize cV false ws R M = C at *
  generalize cV false ot R2 M2 = D at *
  generalize dL mem = NM at *
  generalize dL more = NO at *
  generalize zC = Z at *
  generalize s % 23 = s23 at *
  generalize gP a (-1) = EA at *
  generalize gP b (-1) = EB at *
  have fx := aMv rf <| aMv rl <| aMv b1 <| aMv d1 <| aMv d2 <| aMv d3 <| aMv lm <| aMv lo <| aMv q1 <| aMv q2 <| aMv rn <| aMv a6 <| aMv rr <| aMv bx0 <| aMv sd <| aMv j2 <| aMv q4 <| aMv ldD <| aMv y2 <| aMv c2 <| aMv ro1 <| aMv ro2 <| aMv ra <| aMv rb <| aMv bx1 <| aMv sx1 <| aMv bx2 <| aMv sx2 <| aMv k10 <| aMv k12 <| aMv k20 <| aMv k22 <| aMv u0 <| aMv u2 <| aMv v0 <| aMv v2 <| q5
  refine gT ?_
  exact yJ rfl
 have q5 : aX Tryd.prog .eql 3 true (I6 a.code) (.int .i64 4) = some (.bool false) := gV h4
 by_cases h5 : b.code = 4
 ·have q6 : aX Tryd.prog .eql 3 true (I6 b.code) (.int .i64 4) = some (.bool true) := mX h5
  clear h4 h5 hax hby
  generalize cV false ws R M = C at *
  generalize cV false ot R2 M2 = D at *
  generalize dL mem = NM at *
  generalize dL more = NO at *
  generalize zC = Z at *
  generalize s % 23 = s23 at *
  generalize gP a (-1) = EA at *
  generalize gP b (-1) = EB at *
  have fx := aMv rf <| aMv rl <| aMv b1 <| aMv d1 <| aMv d2 <| aMv d3 <| aMv lm <| aMv lo <| aMv q1 <| aMv q2 <| aMv rn <| aMv a6 <| aMv rr <| aMv bx0 <| aMv sd <| aMv j2 <| aMv q4 <| aMv ldD <| aMv y2 <| aMv c2 <| aMv ro1 <| aMv ro2 <| aMv ra <| aMv rb <| aMv bx1 <| aMv sx1 <| aMv bx2 <| aMv sx2 <| aMv k10 <| aMv k12 <| aMv k20 <| aMv k22 <| aMv u0 <| aMv u2 <| aMv v0 <| aMv v2 <| aMv q5 <| q6
  refine gT ?_
  exact yJ rfl
 have q6 : aX Tryd.prog .eql 3 true (I6 b.code) (.int .i64 4) = some (.bool false) := gV h5
 by_cases hst : a.leaks = b.leaks
 ·rw [decide_eq_true hst] at same
  have hxy : x.leaks = y.leaks := by rw [hax h4, hby h5, hst]
  have same2 : ∀ H, aW (aO.f GH 20000) [.ro false (dX x.leaks), .ro false (dX y.leaks)] H = _ := fun H => cG (H := H) (by rw [← hxy]; exact tW GH 19998 false false x.leaks (by omega) (by omega)) (by simp [gC, bV, plainLk]) rfl
  clear h4 h5 hax hby hst hxy
  generalize cV false ws R M = C at *
  generalize cV false ot R2 M2 = D at *
  generalize dL mem = NM at *
  generalize dL more = NO at *
  generalize zC = Z at *
  generalize s % 23 = s23 at *
  generalize gP a (-1) = EA at *
  generalize gP b (-1) = EB at *
  generalize gP x (-1) = EX at *
  generalize gP y (-1) = EY at *
  generalize dX x.leaks = LX at *
  generalize dX y.leaks = LY_ at *
  have fx := aMv rf <| aMv rl <| aMv b1 <| aMv d1 <| aMv d2 <| aMv d3 <| aMv lm <| aMv lo <| aMv q1 <| aMv q2 <| aMv rn <| aMv a6 <| aMv rr <| aMv bx0 <| aMv sd <| aMv j2 <| aMv q4 <| aMv ldD <| aMv y2 <| aMv c2 <| aMv ro1 <| aMv ro2 <| aMv ra <| aMv rb <| aMv bx1 <| aMv sx1 <| aMv bx2 <| aMv sx2 <| aMv k10 <| aMv k12 <| aMv k20 <| aMv k22 <| aMv k32 <| aMv k42 <| aMv u0 <| aMv u2 <| aMv v0 <| aMv v2 <| aMv q5 <| aMv q6 <| aMv same <| aMv rg1 <| aMv rg2 <| aMv rx <| aMv ry <| aMv bx3 <| aMv sx3 <| aMv bx4 <| aMv sx4 <| aMv x2 <| aMv y4 <| same2
  refine gT ?_
  exact yJ rfl
 ·rw [decide_eq_false hst] at same
  clear h4 h5 hax hby hst
  generalize cV false ws R M = C at *
  generalize cV false ot R2 M2 = D at *
  generalize dL mem = NM at *
  generalize dL more = NO at *
  generalize zC = Z at *
  generalize s % 23 = s23 at *
  generalize gP a (-1) = EA at *
  generalize gP b (-1) = EB at *
  have fx := aMv rf <| aMv rl <| aMv b1 <| aMv d1 <| aMv d2 <| aMv d3 <| aMv lm <| aMv lo <| aMv q1 <| aMv q2 <| aMv rn <| aMv a6 <| aMv rr <| aMv bx0 <| aMv sd <| aMv j2 <| aMv q4 <| aMv ldD <| aMv y2 <| aMv c2 <| aMv ro1 <| aMv ro2 <| aMv ra <| aMv rb <| aMv bx1 <| aMv sx1 <| aMv bx2 <| aMv sx2 <| aMv k10 <| aMv k12 <| aMv k20 <| aMv k22 <| aMv u0 <| aMv u2 <| aMv v0 <| aMv v2 <| aMv q5 <| aMv q6 <| same
  refine gT ?_
  exact yJ rfl
theorem LAllocHides.law (xs : List AV) (h : IsTs Tryd.prog [27, 3, 22, 22] xs) : ∃ k, alembiclaw21_AllocHides.f (zV 179 [0, 2, 1, 4, 3, 5]) k xs [] = some (.bool true, []) := by
 obtain ⟨x1, _, rfl, hx1, h⟩ := h.uncons
 obtain ⟨x2, _, rfl, hx2, h⟩ := h.uncons
 obtain ⟨x3, _, rfl, hx3, h⟩ := h.uncons
 obtain ⟨x4, _, rfl, hx4, h⟩ := h.uncons
 obtain rfl := h.unnil
 obtain ⟨cs, R, M, rfl, hR, hM⟩ := aIy hx1
 obtain ⟨s, rfl, hw⟩ := hx2.of_int (k := .i64) Tryd.underlying3
 obtain ⟨mem, rfl, hm⟩ := aCI Tryd.underlying22 Tryd.underlying30 hx3
 obtain ⟨more, rfl, hm2⟩ := aCI Tryd.underlying22 Tryd.underlying30 hx4
 exact ⟨20001, aFv cs R M s (aBD hw) mem more hm hm2⟩
end Go.Proofs.YtlkgkfgkiidhdaaDoor
namespace Go.Proofs.YtlkgkfgkiidhdaaDoor
open Go Go.ChangeShapes Go.WideShapes Go.RowKit Mir
set_option linter.unusedVariables false
set_option linter.unusedSimpArgs false
namespace RAllocHides
noncomputable def zF (os : Os) : World :=
 let w0 := World.holding Tryd.prog os ⟨#[.cells #[.string ⟨#[97, 32, 110, 117, 109, 98, 101, 114, 32, 111, 117, 116, 32, 111, 102, 32, 105, 116, 115, 32, 114, 97, 110, 103, 101]⟩] 196, .cells #[.string ⟨#[110, 111, 116, 32, 97, 115, 32, 108, 111, 110, 103, 32, 97, 115, 32, 105, 116, 32, 104, 97, 115, 32, 116, 111, 32, 98, 101]⟩] 196, .cells #[.string ⟨#[116, 111, 111, 32, 109, 97, 110, 121]⟩] 196, .cells #[.string ⟨#[110, 111, 116, 32, 97, 115, 32, 105, 116, 32, 104, 97, 115, 32, 116, 111, 32, 98, 101]⟩] 196, .cells #[.string ⟨#[110, 111, 32, 115, 117, 99, 104, 32, 116, 104, 105, 110, 103, 32, 116, 111, 32, 100, 111]⟩] 196, .cells #[.string ⟨#[110, 111, 32, 115, 117, 99, 104, 32, 112, 108, 97, 99, 101]⟩] 196], #[], []⟩
 {w0 with heap := w0.heap
  |>.modify 0 (fun
   | .cells _ t frozen => .cells #[.iface 179 (.pointer (some ⟨Rk.low, 0, none⟩))] t frozen
   | o => o)
  |>.modify 2 (fun
   | .cells _ t frozen => .cells #[.iface 179 (.pointer (some ⟨Rk.low + 1, 0, none⟩))] t frozen
   | o => o)
  |>.modify 1 (fun
   | .cells _ t frozen => .cells #[.iface 179 (.pointer (some ⟨Rk.low + 2, 0, none⟩))] t frozen
   | o => o)
  |>.modify 4 (fun
   | .cells _ t frozen => .cells #[.iface 179 (.pointer (some ⟨Rk.low + 3, 0, none⟩))] t frozen
   | o => o)
  |>.modify 3 (fun
   | .cells _ t frozen => .cells #[.iface 179 (.pointer (some ⟨Rk.low + 4, 0, none⟩))] t frozen
   | o => o)
  |>.modify 5 (fun
   | .cells _ t frozen => .cells #[.iface 179 (.pointer (some ⟨Rk.low + 5, 0, none⟩))] t frozen
   | o => o) }
theorem yE (os : Os) (args : Array Value) : laidMetH Tryd.prog ([("alembic/api.ErrRange", Rows.laid_alembic_api_ErrRange), ("alembic/api.ErrLength", Rows.laid_alembic_api_ErrLength), ("alembic/api.ErrMany", Rows.laid_alembic_api_ErrMany), ("alembic/api.ErrShape", Rows.laid_alembic_api_ErrShape), ("alembic/api.ErrOp", Rows.laid_alembic_api_ErrOp), ("alembic/api.ErrLabel", Rows.laid_alembic_api_ErrLabel)] : List (String × DataW Unit)) ((zF os).forCall (fun _ _ => 0) ⟨#[], args, []⟩).memory :=
 laidMet_of_run (ps := [.cell 0 0, .cell (Rk.low) 0, .cell 2 0, .cell (Rk.low + 1) 0, .cell 1 0, .cell (Rk.low + 2) 0, .cell 4 0, .cell (Rk.low + 3) 0, .cell 3 0, .cell (Rk.low + 4) 0, .cell 5 0, .cell (Rk.low + 5) 0]) 8 (by kernel_rfl) (by kernel_rfl) (by kernel_rfl)
theorem aLm : aEi Tryd.prog 33 [("alembic/api.ErrRange", Rows.laid_alembic_api_ErrRange), ("alembic/api.ErrLength", Rows.laid_alembic_api_ErrLength), ("alembic/api.ErrMany", Rows.laid_alembic_api_ErrMany), ("alembic/api.ErrShape", Rows.laid_alembic_api_ErrShape), ("alembic/api.ErrOp", Rows.laid_alembic_api_ErrOp), ("alembic/api.ErrLabel", Rows.laid_alembic_api_ErrLabel)] [0, 2, 1, 4, 3, 5] := ⟨by kernel_rfl, by kernel_rfl, ⟨_, rfl⟩, by kernel_rfl, by kernel_rfl, ⟨_, rfl⟩, by kernel_rfl, by kernel_rfl, ⟨_, rfl⟩, by kernel_rfl, by kernel_rfl, ⟨_, rfl⟩, by kernel_rfl, by kernel_rfl, ⟨_, rfl⟩, by kernel_rfl, by kernel_rfl, ⟨_, rfl⟩, trivial⟩
theorem sent {W : World} (h : laidMetH Tryd.prog ([("alembic/api.ErrRange", Rows.laid_alembic_api_ErrRange), ("alembic/api.ErrLength", Rows.laid_alembic_api_ErrLength), ("alembic/api.ErrMany", Rows.laid_alembic_api_ErrMany), ("alembic/api.ErrShape", Rows.laid_alembic_api_ErrShape), ("alembic/api.ErrOp", Rows.laid_alembic_api_ErrOp), ("alembic/api.ErrLabel", Rows.laid_alembic_api_ErrLabel)] : List (String × DataW Unit)) W) : ∃ S, SentS W 179 [0, 2, 1, 4, 3, 5] S :=
 aBt Tryd.underlying33 Rk.row Tryd.underlying179 Tryd.underlying196 rfl rfl Tryd.underlying9 (by kernel_rfl) (by kernel_rfl) aLm (by decide) h
theorem aIA : ∀ t ∈ ([27, 25, 29, 3, 2, 22, 30] : List Nat), wT Tryd.prog [27, 25, 29, 3, 2, 22, 30] t = true := List.all_eq_true.1 (by kernel_rfl)
set_option maxRecDepth 100000 in
theorem aJZ (os : Os) (started : os.Started) (H : Type) (enc : TypeId × Value → H) :
  ReturnsInHanded {} Tryd.checked os 9 .any (fun w args => (Rows.allocHidesSpec.pre enc Tryd.prog Tryd.f9 [] false w args ∧ laidMetH Tryd.prog ([("alembic/api.ErrRange", Rows.laid_alembic_api_ErrRange), ("alembic/api.ErrLength", Rows.laid_alembic_api_ErrLength), ("alembic/api.ErrMany", Rows.laid_alembic_api_ErrMany), ("alembic/api.ErrShape", Rows.laid_alembic_api_ErrShape), ("alembic/api.ErrOp", Rows.laid_alembic_api_ErrOp), ("alembic/api.ErrLabel", Rows.laid_alembic_api_ErrLabel)] : List (String × DataW Unit)) w) ∧ sizedMet enc Tryd.prog Tryd.f9 (OpenSpec.ofChange Rows.allocHidesSpec) false w args)
   (Rows.allocHidesSpec.post enc Tryd.prog Tryd.f9 false true false false) := by
 refine returnsInHanded_of_change_and (C := Tryd.checked) (X := fun w _ => laidMetH Tryd.prog ([("alembic/api.ErrRange", Rows.laid_alembic_api_ErrRange), ("alembic/api.ErrLength", Rows.laid_alembic_api_ErrLength), ("alembic/api.ErrMany", Rows.laid_alembic_api_ErrMany), ("alembic/api.ErrShape", Rows.laid_alembic_api_ErrShape), ("alembic/api.ErrOp", Rows.laid_alembic_api_ErrOp), ("alembic/api.ErrLabel", Rows.laid_alembic_api_ErrLabel)] : List (String × DataW Unit)) w) (fun _ _ _ hh h => h.of_heap hh) Rk.own started (by kernel_rfl) Tryd.func9
  (ChangeSpec.witness_at (enc := enc) (C := Tryd.checked) (os := os) (X := fun w _ => laidMetH Tryd.prog ([("alembic/api.ErrRange", Rows.laid_alembic_api_ErrRange), ("alembic/api.ErrLength", Rows.laid_alembic_api_ErrLength), ("alembic/api.ErrMany", Rows.laid_alembic_api_ErrMany), ("alembic/api.ErrShape", Rows.laid_alembic_api_ErrShape), ("alembic/api.ErrOp", Rows.laid_alembic_api_ErrOp), ("alembic/api.ErrLabel", Rows.laid_alembic_api_ErrLabel)] : List (String × DataW Unit)) w) false (zF os) #[.agg #[.slice none 0 0, .int .i64 0, .int .i64 0], .int .i64 0, .slice none 0 0, .slice none 0 0] 8 rfl (by kernel_rfl) (by kernel_rfl) (by kernel_rfl) (by kernel_rfl) (by kernel_rfl) (yE os _)) ?_
 intro W base args ds gs before hval0 hW _ _ hL _
 obtain ⟨S, hS⟩ := sent hL
 have hval : ∀ (j : Nat) t v, Tryd.f9.params.toList[j]? = some t → args.toList[j]? = some v → Value.okWide Tryd.prog W .any base t v := fun j t v h1 h2 => hval0 j t v (by simpa using h1) (by simpa using h2)
 have hW' := hW
 obtain ⟨p, q, hA, _, _, _, _⟩ := hW
 have hpar : Tryd.f9.params.toList = [27, 3, 22, 22] := by rw [Tryd.params9]
 rw [hpar] at hval
 replace hA : DataW.TrodAll enc Tryd.prog W 0 (fun _ => true) true Tryd.f9.params.toList args.toList ds p := hA
 rw [hpar] at hA
 obtain ⟨xs, h1, h2⟩ := zT aIA (by decide) hval hA
 obtain ⟨k, hk⟩ := LAllocHides.law xs h1
 have hc := aFm (Mir.alembiclaw21_AllocHides.sound (aDa _ _) k) hk (aGu hS) h2
 rw [Array.toArray_toList] at hc
 refine hc.mono fun e W' ⟨he, hb⟩ => ⟨_, he, ?_⟩
 exact aGU rfl hpar (by kernel_rfl) Tryd.underlying4 (fun ds hd => by
  obtain ⟨d0, d1, d2, d3, rfl⟩ : ∃ d0 d1 d2 d3, ds = [d0, d1, d2, d3] := by
   match ds, hd with
   | [d0, d1, d2, d3], _ => exact ⟨d0, d1, d2, d3, rfl⟩
  rfl) Rk.laidOut (by kernel_rfl) hW' hb
theorem holds : Rows.AllocHidesSaid :=
 OpenClaim.holds_of_wide 9 Tryd.f9 rfl rfl rfl rfl rfl rfl rfl ⟨rfl, rfl, rfl, rfl, rfl⟩ rfl rfl rfl rfl rfl (by kernel_rfl) Tryd.func9 (by kernel_rfl)
  (of_decide_eq_true (by kernel_rfl)) (by unfold Func.isWrapper; first | (rw [if_pos (by decide +kernel)]; kernel_rfl) | (rw [if_neg (by decide +kernel)]; exact ⟨rfl, rfl⟩))
  (fun os started H enc _ => aJZ os started H enc)
theorem cardHolds : Rows.AllocHidesCardSaid :=
 Claim7.holds_tied_plain_at .later [] [.sentinel, .sentinel, .sentinel, .sentinel, .sentinel, .sentinel] true (true, "864f508a8b0e81602785229ebc0405c57cf7b6a36a11fb1b2a55f1a5fb117935") true
  holds (fun _ h => by cases h) (by kernel_rfl) (fun _ h => by cases h) allocHides_row_tie rfl ⟨rfl, rfl⟩ (by kernel_rfl) rfl
  (fun f fn hf hfn => by
   obtain rfl : f = 9 := Option.some.inj ((show Tryd.prog.funcNamed "alembic/alembiclaw21.AllocHides" = some 9 by kernel_rfl).symm.trans hf) |>.symm
   obtain rfl : fn = Tryd.f9 := (Option.some.inj (Tryd.func9.symm.trans hfn)).symm
   exact ⟨by kernel_rfl, fun j t ht => by
    have hm : t ∈ ([27, 3, 22, 22] : List Nat) := by
     have := List.mem_of_getElem? (l := Tryd.f9.params.toList) (i := j) (by simpa using ht)
     rw [Tryd.params9] at this
     exact this
    have := List.all_eq_true.1 (show ([27, 3, 22, 22] : List Nat).all (fun t => !Tryd.prog.wantsStandIn t) = true by kernel_rfl) t hm
    exact (by simpa using this : Tryd.prog.wantsStandIn t = false)⟩)
  (by kernel_rfl)
end RAllocHides
end Go.Proofs.YtlkgkfgkiidhdaaDoor
