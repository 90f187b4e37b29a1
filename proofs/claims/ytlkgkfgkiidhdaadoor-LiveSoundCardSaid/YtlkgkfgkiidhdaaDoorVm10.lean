/- Printed by rowgen.py: the row of LiveSound, out of its law in plain Lean. -/
import Derived.Test.YtlkgkfgkiidhdaaDoorVm9
import Derived.Test.YtlkgkfgkiidhdaaDoorTie
import Derived.Test.YtlkgkfgkiidhdaaDoorCards
import Derived.SevenTiedAt
namespace Go.Proofs.YtlkgkfgkiidhdaaDoor
open Go Go.Proofs.YtlkgkfgkiidhdaaDoor.Mir
set_option linter.unusedVariables false
set_option linter.unusedSimpArgs false
set_option maxHeartbeats 8000000
set_option maxRecDepth 20000
theorem aJe {l : List Nat} {r : Nat} (h1 : l.Pairwise (· < ·)) (h2 : ∀ q ∈ l, q < r) : l.length ≤ r := by
 have hnd : l.Nodup := h1.imp (fun h => Nat.ne_of_lt h)
 have := List.Nodup.length_le_of_subset hnd (l₂ := List.range r) (fun x hx => by simpa using h2 x hx)
 simpa using this
def GL : aE := xK 179 [0, 2, 1, 4, 3, 5]
theorem aJr : GOk GL := ⟨rfl, rfl, rfl, rfl, rfl⟩
theorem aEY (ws : List WI) (r m : Int) (mem : List Nat) (junk : Nat) (hj : junk < 18446744073709551616) (hmm : ∀ x ∈ mem, x < 18446744073709551616) :
  alembiclaw20_LiveSound.f GL 8001 [cV false ws r m, .ro false (dC mem), Un junk] [] = some (.bool true, []) := by
 have hG := aJr
 have pc : ∀ b ds r m, bQ (cV b ds r m) = true := fun b ds r m => by simp [fF, bQ, cV, pE]
 have rf : ∀ H, aX (bP.f GL 8000) [] H = _ := fun H => cT (H := H) (aHh GL 7850) rfl rfl
 have rl : ∀ H, aX (aZ.f GL 8000) [cV false ws r m] H = _ := fun H => cT (H := H) (aHs GL 7999 ws r m) (by simp [fF, pc]) rfl
 have b1 : ∀ H, cN (cV false ws r m) H = some (.rp false (cV false ws r m) 0, H) := fun H => rfl
 have d1 : ∀ H, aI GL true 3 (.rp false (cV false ws r m) 0) H = some (cV false ws r m) := fun H => rfl
 have f1 : aB 1 (.rp false (cV false ws r m) 0) = some (.rp false (cV false ws r m) 1) := rfl
 have l1 : ∀ H, aI GL false 1 (.rp false (cV false ws r m) 1) H = some (I6 r) := fun H => rfl
 have f2 : aB 2 (.rp false (cV false ws r m) 0) = some (.rp false (cV false ws r m) 2) := rfl
 have l2 : ∀ H, aI GL false 1 (.rp false (cV false ws r m) 2) H = some (I6 m) := fun H => rfl
 have lm : aY (.ro false (dC mem)) = some (Nn mem.length) := by simp [aY, gX]
 have le : aY .nils = some (.int .i64 0) := rfl
 rw [alembiclaw20_LiveSound.step]
 unfold alembiclaw20_LiveSound.c
 refine iE ?_
 by_cases hl : ¬ (ws.length ≤ 60 ∧ r ≤ 40)
 ·rw [decide_eq_false hl] at rl
  generalize cV false ws r m = C at *
  generalize dC mem = NM at *
  have fx := aKE rf <| aKE rl <| aKE b1 <| d1
  refine fV ?_
  exact w1b rfl
 replace hl := Classical.not_not.1 hl
 rw [decide_eq_true hl] at rl
 by_cases hr : r < 1
 ·have q1 : aS Tryd.prog .lss 3 true (I6 r) (.int .i64 1) = some (.bool true) := fO hr
  generalize cV false ws r m = C at *
  generalize dC mem = NM at *
  have fx := aKE rf <| aKE rl <| aKE b1 <| aKE d1 <| aKE f1 <| aKE l1 <| q1
  refine fV ?_
  exact w1b rfl
 have q1 : aS Tryd.prog .lss 3 true (I6 r) (.int .i64 1) = some (.bool false) := fK (by omega)
 by_cases hm : m < 1
 ·have q2 : aS Tryd.prog .lss 3 true (I6 m) (.int .i64 1) = some (.bool true) := fO hm
  generalize cV false ws r m = C at *
  generalize dC mem = NM at *
  have fx := aKE rf <| aKE rl <| aKE b1 <| aKE d1 <| aKE f1 <| aKE l1 <| aKE q1 <| aKE f2 <| aKE l2 <| q2
  refine fV ?_
  exact w1b rfl
 have q2 : aS Tryd.prog .lss 3 true (I6 m) (.int .i64 1) = some (.bool false) := fK (by omega)
 by_cases hm2 : 60 < m
 ·have q3 : aS Tryd.prog .gtr 3 true (I6 m) (.int .i64 60) = some (.bool true) := nO hm2
  generalize cV false ws r m = C at *
  generalize dC mem = NM at *
  have fx := aKE rf <| aKE rl <| aKE b1 <| aKE d1 <| aKE f1 <| aKE l1 <| aKE q1 <| aKE f2 <| aKE l2 <| aKE q2 <| q3
  refine fV ?_
  exact w1b rfl
 have q3 : aS Tryd.prog .gtr 3 true (I6 m) (.int .i64 60) = some (.bool false) := jS (by omega)
 by_cases hml : (mem.length : Int) ≠ m
 ·have q4 : aS Tryd.prog .neq 3 false (Nn mem.length) (I6 m) = some (.bool true) := sP hml
  generalize cV false ws r m = C at *
  generalize dC mem = NM at *
  have fx := aKE rf <| aKE rl <| aKE b1 <| aKE d1 <| aKE f1 <| aKE l1 <| aKE q1 <| aKE f2 <| aKE l2 <| aKE q2 <| aKE q3 <| aKE lm <| q4
  refine fV ?_
  exact w1b rfl
 replace hml : (mem.length : Int) = m := Classical.not_not.1 hml
 have q4 : aS Tryd.prog .neq 3 false (Nn mem.length) (I6 m) = some (.bool false) := lG hml
 by_cases hv : gF ws r m ≠ .ok
 ·have ri : ∀ H, aX (aQ.f GL 8000) [cV false ws r m] H = _ := fun H => cT (H := H) (aGQ GL hG 7991 false ws r m (by omega) (by omega) hv) (by simp [fF, pc]) (by simp [eW, gW, qC])
  have q5 : aS Tryd.prog .neq 33 true (veV (gF ws r m)) .nili = some (.bool true) := zO hv
  generalize veV (gF ws r m) = V at *
  generalize cV false ws r m = C at *
  generalize dC mem = NM at *
  have fx := aKE rf <| aKE rl <| aKE b1 <| aKE d1 <| aKE f1 <| aKE l1 <| aKE q1 <| aKE f2 <| aKE l2 <| aKE q2 <| aKE q3 <| aKE lm <| aKE q4 <| aKE ri <| q5
  refine fV ?_
  exact w1b rfl
 replace hv := Classical.not_not.1 hv
 obtain ⟨R, rfl⟩ : ∃ R : Nat, r = R := ⟨r.toNat, by omega⟩
 have q5 : aS Tryd.prog .neq 33 true .nili .nili = some (.bool false) := by kernel_rfl
 obtain ⟨out, hI, hP⟩ := aFq GL 7999 false ws R m hG hv (by omega) (by omega) (by omega)
 have co : eW (jZ out) = true := by
  unfold jZ
  simp only [eW]
  exact jM _ (fun l => by simp [eW]; exact jM _ (fun _ => rfl) _) out
 have ri : ∀ H, aX (aQ.f GL 8000) [cV false ws R m] H = _ := fun H => cT (H := H) hI (by simp [fF, pc]) (by simp [eW, gW, co])
 have lo : aY (jZ out) = some (Nn out.length) := by simp [aY, jZ]
 by_cases ho : out.length = 0
 ·have q6 : aS Tryd.prog .eql 3 true (Nn out.length) (.int .i64 0) = some (.bool true) := gP (by omega)
  generalize cV false ws R m = C at *
  generalize dC mem = NM at *
  generalize jZ out = O at *
  have fx := aKE rf <| aKE rl <| aKE b1 <| aKE d1 <| aKE f1 <| aKE l1 <| aKE q1 <| aKE f2 <| aKE l2 <| aKE q2 <| aKE q3 <| aKE lm <| aKE q4 <| aKE ri <| aKE q5 <| aKE lo <| q6
  refine fV ?_
  exact w1b rfl
 have q6 : aS Tryd.prog .eql 3 true (Nn out.length) (.int .i64 0) = some (.bool false) := fY (by omega)
 have hlen := hP.len
 have hl0 : (out.getD 0 []).length ≤ R := by
  have := aJe (hP.up 0) (hP.low 0)
  exact this
 have bx : eM 27 (.agg [.nils, .int .i64 0, .int .i64 0]) [] = some (.ptr 0 1 0 0, [⟨27, 3, [.agg [.nils, .int .i64 0, .int .i64 0]]⟩]) := rfl
 have g1 : aB 1 (.ptr 0 1 0 0) = some (.ptr 0 1 0 1) := rfl
 have g2 : aB 2 (.ptr 0 1 0 0) = some (.ptr 0 1 0 2) := rfl
 have s1 : fP (aO 1 (.ptr 0 1 0 1) (I6 R) [⟨27, 3, [.agg [.nils, .int .i64 0, .int .i64 0]]⟩]) = some (.tup [], [⟨27, 3, [.agg [.nils, I6 R, .int .i64 0]]⟩]) := rfl
 have s2 : fP (aO 1 (.ptr 0 1 0 2) (I6 m) [⟨27, 3, [.agg [.nils, I6 R, .int .i64 0]]⟩]) = some (.tup [], [⟨27, 3, [.agg [.nils, I6 R, I6 m]]⟩]) := rfl
 have v1 : mS (.ptr 0 1 0 0, 0, 29, 6) [⟨27, 3, [.agg [.nils, I6 R, I6 m]]⟩] = jC R m [] [] := rfl
 obtain ⟨self, hself⟩ : ∃ self, self = alembiclaw20_LiveSound.f GL 8000 := ⟨_, rfl⟩
 rw [← hself]
 obtain ⟨K, hK⟩ : ∃ K, K = mB junk := ⟨_, rfl⟩
 have lp1 := aJD GL 8000 self ws R m mem junk out (by omega) hj (by omega) (by omega) (by omega) R 0 8000 [] (by omega) (by omega)
 rw [← hK] at lp1
 replace lp1 : cM (alembiclaw20_LiveSound.l13 GL 8000 (jC R m [] []).length self) 8000 (xsA ws R m mem junk out 0) (jC R m [] []) = some (.exit 0, xsA ws R m mem junk out R, jC R m (tA out K R) []) := lp1
 obtain ⟨N, hN⟩ : ∃ N, N = (tA out K R).length := ⟨_, rfl⟩
 have hNR : N ≤ R := by rw [hN]; exact aDN _ _ _
 have hNa : N = (gV (out.getD 0 []) R).length := by rw [hN]; unfold tA; rw [List.length_map]
 have lc : aI GL false 1 (.ptr 0 1 0 0) (jC R m (tA out K R) []) = some (.sl 1 N 0 N 6) := by rw [hN]; rfl
 have lN : aY (.sl 1 N 0 N 6) = some (Nn N) := rfl
 have v2 := aJg R m (tA out K R)
 have hgood := pJ hv
 rw [Int.toNat_natCast] at hgood
 have lp2 := aIG GL 8000 self ws R m mem (tA out K R) N (fun w hw hb => by
  have h1 := hgood w hw
  unfold brW at hb
  have := h1.ok2.ok.k (by omega) (by omega)
  omega) (by omega) (by omega) (by omega) ws.length 0 8000 [] (by omega) (by omega)
 have e0 : dsB ws (tA out K R) N 0 = tA out K R := by unfold dsB; simp
 have e1 : dsB ws (tA out K R) N ws.length = pN (out.getD 0 []) R K ws := by
  unfold dsB pN tA
  rw [List.take_length, hNa]
 rw [e0, e1] at lp2
 obtain ⟨ds, hds⟩ : ∃ ds, ds = pN (out.getD 0 []) R K ws := ⟨_, rfl⟩
 rw [← hds] at lp2
 have hdl : ds.length = ws.length + N := by rw [hds, qD, hNa]
 replace lp2 : cM (alembiclaw20_LiveSound.l19 GL 8000 (jC R m (tA out K R) []).length self) 8000 (xsB ws R m mem N 0) (jC R m (tA out K R) []) = some (.exit 2, xsB ws R m mem N ws.length, jC R m ds []) := lp2
 have hv2 : gF ds R m = .ok := by rw [hds]; exact aCy _ hv (by omega) (by omega)
 have gv1 : nH m mem.length 500 = .ok := by
  unfold nH
  rw [if_neg (by omega), if_neg (by omega)]
 have gv2 : nH m mem.length ((500 + N : Nat) : Int) = .ok := by
  unfold nH
  rw [if_neg (by omega), if_neg (by omega)]
 obtain ⟨s, hs1, hs2⟩ := aBj (bor := false) GL hG 7991 ws R m false mem 500 (by omega) (by omega) hv gv1 hmm (by omega) (by omega)
 obtain ⟨t, ht1, ht2⟩ := aBj (bor := true) GL hG 7991 ds R m false mem ((500 + N : Nat) : Int) (by omega) (by omega) hv2 gv2 hmm (by omega) (by omega)
 rw [Int.toNat_natCast] at hs1 ht1
 rw [hds, hNa] at ht1
 obtain ⟨c1, c2, c3⟩ := aEZ hv hP K mem _ _ s t hs1 ht1
 rw [← hNa] at c3
 have rr1 : ∀ H, aX (dJ.f GL 8000) [cV false ws R m, .ro false (dC mem), .int .i64 500] H = _ := fun H => cT (H := H) hs2 (by simp [fF, pc, bQ, aAI]) (by simp [eW, gW, wF])
 have bx2 : eM 73 (.agg [.int .i64 0, .nils, .nils, .int .i64 0]) (jC R m ds []) = some (.ptr 2 1 0 0, jC R m ds [⟨73, 4, [.agg [.int .i64 0, .nils, .nils, .int .i64 0]]⟩]) := rfl
 have s3 : fP (aO 4 (.ptr 2 1 0 0) (kC s) (jC R m ds [⟨73, 4, [.agg [.int .i64 0, .nils, .nils, .int .i64 0]]⟩])) = some (.tup [], jC R m ds [⟨73, 4, [kC s]⟩]) := rfl
 obtain ⟨H1, hH1⟩ : ∃ H1, H1 = jC R m ds [⟨73, 4, [kC s]⟩] := ⟨_, rfl⟩
 rw [← hH1] at s3
 have ld : aI GL true 3 (.ptr 0 1 0 0) H1 = some (bxS R m ds) := by rw [hH1]; rfl
 have ad : aS Tryd.prog .add 3 true (.int .i64 500) (Nn N) = some (I6 ((500 + N : Nat) : Int)) := aJG (a := 500) (by omega)
 have sn : mR H1 [bxS R m ds, .ro false (dC mem), I6 ((500 + N : Nat) : Int)] = some [cV true ds R m, .ro false (dC mem), I6 ((500 + N : Nat) : Int)] := by
  refine aAR ?_ (aAR ?_ (aAR rfl aHJ))
  ·have e1 : qS H1 (.sl 1 ds.length 0 ds.length 6) = some (.ro true (bW ds)) :=
    aEX (ty := 29) (xs := bW ds) (by rw [hH1]; rfl) (by rw [gG]) (aDC _) (pE _)
   show (iG H1 [.sl 1 ds.length 0 ds.length 6, I6 R, I6 m]).map AV.agg = _
   simp only [iG, e1]
   rfl
  ·exact xO (by simp [bQ, aAI])
 have rr2 : aX (dJ.f GL 8000) [bxS R m ds, .ro false (dC mem), I6 ((500 + N : Nat) : Int)] H1 = some (.tup [kC t, .nili], H1) := aCb sn ht2 (by simp [eW, gW, wF])
 have bx3 : eM 73 (.agg [.int .i64 0, .nils, .nils, .int .i64 0]) H1 = some (.ptr 3 1 0 0, H1 ++ [⟨73, 4, [.agg [.int .i64 0, .nils, .nils, .int .i64 0]]⟩]) := by rw [hH1]; rfl
 have s4 : fP (aO 4 (.ptr 3 1 0 0) (kC t) (H1 ++ [⟨73, 4, [.agg [.int .i64 0, .nils, .nils, .int .i64 0]]⟩])) = some (.tup [], H1 ++ [⟨73, 4, [kC t]⟩]) := by rw [hH1]; rfl
 have q7 : aS Tryd.prog .eql 33 true .nili .nili = some (.bool true) := by kernel_rfl
 have a0 : aB 0 (.ptr 2 1 0 0) = some (.ptr 2 1 0 0) := rfl
 have a1 : aB 1 (.ptr 2 1 0 0) = some (.ptr 2 1 0 1) := rfl
 have a3 : aB 3 (.ptr 2 1 0 0) = some (.ptr 2 1 0 3) := rfl
 have z0 : aB 0 (.ptr 3 1 0 0) = some (.ptr 3 1 0 0) := rfl
 have z1 : aB 1 (.ptr 3 1 0 0) = some (.ptr 3 1 0 1) := rfl
 have z3 : aB 3 (.ptr 3 1 0 0) = some (.ptr 3 1 0 3) := rfl
 obtain ⟨H2, hH2⟩ : ∃ H2, H2 = H1 ++ [⟨73, 4, [kC t]⟩] := ⟨_, rfl⟩
 rw [← hH2] at s4
 have u0 : aI GL false 1 (.ptr 2 1 0 0) H2 = some (I6 s.code) := by rw [hH2, hH1]; rfl
 have u1 : aI GL false 1 (.ptr 2 1 0 1) H2 = some (.ro false (dC s.mem)) := by rw [hH2, hH1]; rfl
 have u3 : aI GL false 1 (.ptr 2 1 0 3) H2 = some (Nn s.steps) := by rw [hH2, hH1]; rfl
 have y0 : aI GL false 1 (.ptr 3 1 0 0) H2 = some (I6 s.code) := by rw [← c1, hH2, hH1]; rfl
 have y1 : aI GL false 1 (.ptr 3 1 0 1) H2 = some (.ro false (dC s.mem)) := by rw [← c2, hH2, hH1]; rfl
 have y3 : aI GL false 1 (.ptr 3 1 0 3) H2 = some (Nn (s.steps + N : Nat)) := by rw [← c3, hH2, hH1]; rfl
 have hok := aEo ws 500 R (by decide) (fun j hj => (hgood _ (by rw [List.getD_eq_getElem?_getD, List.getElem?_eq_getElem hj]; exact List.getElem_mem hj)).ok2.ok) _ _ _ hs1 (aIm R mem hmm (by omega)) (by simp [s0]) (by simp [s0])
 have q8 : aS Tryd.prog .eql 3 false (I6 s.code) (I6 s.code) = some (.bool true) := gP rfl
 have hsm : s.mem.length = mem.length := hok.2.2
 have rsame : ∀ H, aX (aL.f GL 8000) [.ro false (dC s.mem), .ro false (dC s.mem)] H = _ := fun H => cT (H := H) (tR GL 7999 false false s.mem (by omega) (by omega)) (by simp [fF, bQ, aAI]) rfl
 have ads : aS Tryd.prog .add 2 false (Nn s.steps) (Nn N) = some (Nn (s.steps + N : Nat)) := by
  have := hok.2.1
  rw [gU, dK (by omega) (by omega)]; congr 2
 have q9 : aS Tryd.prog .eql 2 false (Nn (s.steps + N : Nat)) (Nn (s.steps + N : Nat)) = some (.bool true) := gP rfl
 clear hs1 ht1 hs2 ht2 hok hsm c1 c2 c3 hP hI sn hgood hv hv2 hds hdl e0 e1 hN hNa hself hH1 hH2 hK
 unfold xsA at lp1
 unfold xsB at lp2
 generalize cV false ws R m = C at *
 generalize dC mem = NM at *
 generalize dC s.mem = NS at *
 generalize jZ out = O at *
 generalize kC s = ES at *
 generalize kC t = ET at *
 generalize bxS R m ds = BX at *
 have fx := aKE rf <| aKE rl <| aKE b1 <| aKE d1 <| aKE f1 <| aKE l1 <| aKE q1 <| aKE f2 <| aKE l2 <| aKE q2 <| aKE q3 <| aKE lm <| aKE q4 <| aKE ri <| aKE q5 <| aKE lo <| aKE q6 <| aKE bx <| aKE g1 <| aKE g2 <| aKE s1 <| s2
 refine fV ?_
 refine eV1 v1 ?_
 refine eV0 ?_
 generalize jC R m [] [] = HA at *
 have fx := aKE lc <| aKE lN <| aEV
 have lx1 := lp1
 refine fV ?_
 refine eV1 v2 ?_
 refine eV0 ?_
 generalize jC R m (tA out K R) [] = HB at *
 have fx := aKE d1 <| aKE rr1 <| aKE bx2 <| aKE s3 <| aKE ld <| aKE ad <| aKE rr2 <| aKE bx3 <| aKE s4 <| aKE q7 <| aKE a0 <| aKE a1 <| aKE a3 <| aKE z0 <| aKE z1 <| aKE z3 <| aKE u0 <| aKE u1 <| aKE u3 <| aKE y0 <| aKE y1 <| aKE y3 <| aKE q8 <| aKE rsame <| aKE ads <| q9
 have lx1 := lp2
 refine fV ?_
 exact w1b rfl
theorem LLiveSound.law (xs : List AV) (h : IsTs Tryd.prog [27, 22, 30] xs) : ∃ k, alembiclaw20_LiveSound.f (xK 179 [0, 2, 1, 4, 3, 5]) k xs [] = some (.bool true, []) := by
 obtain ⟨x1, _, rfl, hx1, h⟩ := h.uncons
 obtain ⟨x2, _, rfl, hx2, h⟩ := h.uncons
 obtain ⟨x3, _, rfl, hx3, h⟩ := h.uncons
 obtain rfl := h.unnil
 obtain ⟨cs, R, M, rfl, hR, hM⟩ := aHA hx1
 obtain ⟨mem, rfl, hm⟩ := aFX Tryd.underlying22 Tryd.underlying30 hx2
 obtain ⟨j, rfl, hw⟩ := hx3.of_int (k := .u64) Tryd.underlying30
 have hn := aDv hw
 obtain ⟨n, rfl⟩ : ∃ n : Nat, j = n := ⟨j.toNat, by omega⟩
 exact ⟨8001, aEY cs R M mem n (by omega) hm⟩
end Go.Proofs.YtlkgkfgkiidhdaaDoor
namespace Go.Proofs.YtlkgkfgkiidhdaaDoor
open Go Go.ChangeShapes Go.WideShapes Go.RowKit Mir
set_option linter.unusedVariables false
set_option linter.unusedSimpArgs false
namespace RLiveSound
noncomputable def zI (os : Os) : World :=
 let w0 := World.holding Tryd.prog os ⟨#[.cells #[.string ⟨#[97, 32, 110, 117, 109, 98, 101, 114, 32, 111, 117, 116, 32, 111, 102, 32, 105, 116, 115, 32, 114, 97, 110, 103, 101]⟩] 196, .cells #[.string ⟨#[110, 111, 116, 32, 97, 115, 32, 108, 111, 110, 103, 32, 97, 115, 32, 105, 116, 32, 104, 97, 115, 32, 116, 111, 32, 98, 101]⟩] 196, .cells #[.string ⟨#[116, 111, 111, 32, 109, 97, 110, 121]⟩] 196, .cells #[.string ⟨#[110, 111, 116, 32, 97, 115, 32, 105, 116, 32, 104, 97, 115, 32, 116, 111, 32, 98, 101]⟩] 196, .cells #[.string ⟨#[110, 111, 32, 115, 117, 99, 104, 32, 116, 104, 105, 110, 103, 32, 116, 111, 32, 100, 111]⟩] 196, .cells #[.string ⟨#[110, 111, 32, 115, 117, 99, 104, 32, 112, 108, 97, 99, 101]⟩] 196], #[], []⟩
 {w0 with heap := w0.heap
  |>.modify 0 (fun
   | .cells _ t frozen => .cells #[.iface 179 (.pointer (some ⟨Rk.low, 0, none⟩))] t frozen
   | o => o)
  |>.modify 2 (fun
   | .cells _ t frozen => .cells #[.iface 179 (.pointer (some ⟨Rk.low + 1, 0, none⟩))] t frozen
   | o => o)
  |>.modify 1 (fun
   | .cells _ t frozen => .cells #[.iface 179 (.pointer (some ⟨Rk.low + 2, 0, none⟩))] t frozen
   | o => o)
  |>.modify 4 (fun
   | .cells _ t frozen => .cells #[.iface 179 (.pointer (some ⟨Rk.low + 3, 0, none⟩))] t frozen
   | o => o)
  |>.modify 3 (fun
   | .cells _ t frozen => .cells #[.iface 179 (.pointer (some ⟨Rk.low + 4, 0, none⟩))] t frozen
   | o => o)
  |>.modify 5 (fun
   | .cells _ t frozen => .cells #[.iface 179 (.pointer (some ⟨Rk.low + 5, 0, none⟩))] t frozen
   | o => o) }
theorem yK (os : Os) (args : Array Value) : laidMetH Tryd.prog ([("alembic/api.ErrRange", Rows.laid_alembic_api_ErrRange), ("alembic/api.ErrLength", Rows.laid_alembic_api_ErrLength), ("alembic/api.ErrMany", Rows.laid_alembic_api_ErrMany), ("alembic/api.ErrShape", Rows.laid_alembic_api_ErrShape), ("alembic/api.ErrOp", Rows.laid_alembic_api_ErrOp), ("alembic/api.ErrLabel", Rows.laid_alembic_api_ErrLabel)] : List (String × DataW Unit)) ((zI os).forCall (fun _ _ => 0) ⟨#[], args, []⟩).memory :=
 laidMet_of_run (ps := [.cell 0 0, .cell (Rk.low) 0, .cell 2 0, .cell (Rk.low + 1) 0, .cell 1 0, .cell (Rk.low + 2) 0, .cell 4 0, .cell (Rk.low + 3) 0, .cell 3 0, .cell (Rk.low + 4) 0, .cell 5 0, .cell (Rk.low + 5) 0]) 8 (by kernel_rfl) (by kernel_rfl) (by kernel_rfl)
theorem aJL : aDB Tryd.prog 33 [("alembic/api.ErrRange", Rows.laid_alembic_api_ErrRange), ("alembic/api.ErrLength", Rows.laid_alembic_api_ErrLength), ("alembic/api.ErrMany", Rows.laid_alembic_api_ErrMany), ("alembic/api.ErrShape", Rows.laid_alembic_api_ErrShape), ("alembic/api.ErrOp", Rows.laid_alembic_api_ErrOp), ("alembic/api.ErrLabel", Rows.laid_alembic_api_ErrLabel)] [0, 2, 1, 4, 3, 5] := ⟨by kernel_rfl, by kernel_rfl, ⟨_, rfl⟩, by kernel_rfl, by kernel_rfl, ⟨_, rfl⟩, by kernel_rfl, by kernel_rfl, ⟨_, rfl⟩, by kernel_rfl, by kernel_rfl, ⟨_, rfl⟩, by kernel_rfl, by kernel_rfl, ⟨_, rfl⟩, by kernel_rfl, by kernel_rfl, ⟨_, rfl⟩, trivial⟩
theorem sent {W : World} (h : laidMetH Tryd.prog ([("alembic/api.ErrRange", Rows.laid_alembic_api_ErrRange), ("alembic/api.ErrLength", Rows.laid_alembic_api_ErrLength), ("alembic/api.ErrMany", Rows.laid_alembic_api_ErrMany), ("alembic/api.ErrShape", Rows.laid_alembic_api_ErrShape), ("alembic/api.ErrOp", Rows.laid_alembic_api_ErrOp), ("alembic/api.ErrLabel", Rows.laid_alembic_api_ErrLabel)] : List (String × DataW Unit)) W) : ∃ S, SentS W 179 [0, 2, 1, 4, 3, 5] S :=
 aAN Tryd.underlying33 Rk.row Tryd.underlying179 Tryd.underlying196 rfl rfl Tryd.underlying9 (by kernel_rfl) (by kernel_rfl) aJL (by decide) h
theorem aHC : ∀ t ∈ ([27, 25, 29, 3, 2, 22, 30] : List Nat), xB Tryd.prog [27, 25, 29, 3, 2, 22, 30] t = true := List.all_eq_true.1 (by kernel_rfl)
set_option maxRecDepth 100000 in
theorem aIK (os : Os) (started : os.Started) (H : Type) (enc : TypeId × Value → H) :
  ReturnsInHanded {} Tryd.checked os 6 .any (fun w args => (Rows.liveSoundSpec.pre enc Tryd.prog Tryd.f6 [] false w args ∧ laidMetH Tryd.prog ([("alembic/api.ErrRange", Rows.laid_alembic_api_ErrRange), ("alembic/api.ErrLength", Rows.laid_alembic_api_ErrLength), ("alembic/api.ErrMany", Rows.laid_alembic_api_ErrMany), ("alembic/api.ErrShape", Rows.laid_alembic_api_ErrShape), ("alembic/api.ErrOp", Rows.laid_alembic_api_ErrOp), ("alembic/api.ErrLabel", Rows.laid_alembic_api_ErrLabel)] : List (String × DataW Unit)) w) ∧ sizedMet enc Tryd.prog Tryd.f6 (OpenSpec.ofChange Rows.liveSoundSpec) false w args)
   (Rows.liveSoundSpec.post enc Tryd.prog Tryd.f6 false true false false) := by
 refine returnsInHanded_of_change_and (C := Tryd.checked) (X := fun w _ => laidMetH Tryd.prog ([("alembic/api.ErrRange", Rows.laid_alembic_api_ErrRange), ("alembic/api.ErrLength", Rows.laid_alembic_api_ErrLength), ("alembic/api.ErrMany", Rows.laid_alembic_api_ErrMany), ("alembic/api.ErrShape", Rows.laid_alembic_api_ErrShape), ("alembic/api.ErrOp", Rows.laid_alembic_api_ErrOp), ("alembic/api.ErrLabel", Rows.laid_alembic_api_ErrLabel)] : List (String × DataW Unit)) w) (fun _ _ _ hh h => h.of_heap hh) Rk.own started (by kernel_rfl) Tryd.func6
  (ChangeSpec.witness_at (enc := enc) (C := Tryd.checked) (os := os) (X := fun w _ => laidMetH Tryd.prog ([("alembic/api.ErrRange", Rows.laid_alembic_api_ErrRange), ("alembic/api.ErrLength", Rows.laid_alembic_api_ErrLength), ("alembic/api.ErrMany", Rows.laid_alembic_api_ErrMany), ("alembic/api.ErrShape", Rows.laid_alembic_api_ErrShape), ("alembic/api.ErrOp", Rows.laid_alembic_api_ErrOp), ("alembic/api.ErrLabel", Rows.laid_alembic_api_ErrLabel)] : List (String × DataW Unit)) w) false (zI os) #[.agg #[.slice none 0 0, .int .i64 0, .int .i64 0], .slice none 0 0, .int .u64 0] 8 rfl (by kernel_rfl) (by kernel_rfl) (by kernel_rfl) (by kernel_rfl) (by kernel_rfl) (yK os _)) ?_
 intro W base args ds gs before hval0 hW _ _ hL _
 obtain ⟨S, hS⟩ := sent hL
 have hval : ∀ (j : Nat) t v, Tryd.f6.params.toList[j]? = some t → args.toList[j]? = some v → Value.okWide Tryd.prog W .any base t v := fun j t v h1 h2 => hval0 j t v (by simpa using h1) (by simpa using h2)
 have hW' := hW
 obtain ⟨p, q, hA, _, _, _, _⟩ := hW
 have hpar : Tryd.f6.params.toList = [27, 22, 30] := by rw [Tryd.params6]
 rw [hpar] at hval
 replace hA : DataW.TrodAll enc Tryd.prog W 0 (fun _ => true) true Tryd.f6.params.toList args.toList ds p := hA
 rw [hpar] at hA
 obtain ⟨xs, h1, h2⟩ := zU aHC (by decide) hval hA
 obtain ⟨k, hk⟩ := LLiveSound.law xs h1
 have hc := aEy (Mir.alembiclaw20_LiveSound.sound (aCl _ _) k) hk (aFD hS) h2
 rw [Array.toArray_toList] at hc
 refine hc.mono fun e W' ⟨he, hb⟩ => ⟨_, he, ?_⟩
 exact aFZ rfl hpar (by kernel_rfl) Tryd.underlying4 (fun ds hd => by
  obtain ⟨d0, d1, d2, rfl⟩ : ∃ d0 d1 d2, ds = [d0, d1, d2] := by
   match ds, hd with
   | [d0, d1, d2], _ => exact ⟨d0, d1, d2, rfl⟩
  rfl) Rk.laidOut (by kernel_rfl) hW' hb
theorem holds : Rows.LiveSoundSaid :=
 OpenClaim.holds_of_wide 6 Tryd.f6 rfl rfl rfl rfl rfl rfl rfl ⟨rfl, rfl, rfl, rfl, rfl⟩ rfl rfl rfl rfl rfl (by kernel_rfl) Tryd.func6 (by kernel_rfl)
  (of_decide_eq_true (by kernel_rfl)) (by unfold Func.isWrapper; first | (rw [if_pos (by decide +kernel)]; kernel_rfl) | (rw [if_neg (by decide +kernel)]; exact ⟨rfl, rfl⟩))
  (fun os started H enc _ => aIK os started H enc)
theorem cardHolds : Rows.LiveSoundCardSaid :=
 Claim7.holds_tied_plain_at .later [] [.sentinel, .sentinel, .sentinel, .sentinel, .sentinel, .sentinel] true (true, "864f508a8b0e81602785229ebc0405c57cf7b6a36a11fb1b2a55f1a5fb117935") true
  holds (fun _ h => by cases h) (by kernel_rfl) (fun _ h => by cases h) liveSound_row_tie rfl ⟨rfl, rfl⟩ (by kernel_rfl) rfl
  (fun f fn hf hfn => by
   obtain rfl : f = 6 := Option.some.inj ((show Tryd.prog.funcNamed "alembic/alembiclaw20.LiveSound" = some 6 by kernel_rfl).symm.trans hf) |>.symm
   obtain rfl : fn = Tryd.f6 := (Option.some.inj (Tryd.func6.symm.trans hfn)).symm
   exact ⟨by kernel_rfl, fun j t ht => by
    have hm : t ∈ ([27, 22, 30] : List Nat) := by
     have := List.mem_of_getElem? (l := Tryd.f6.params.toList) (i := j) (by simpa using ht)
     rw [Tryd.params6] at this
     exact this
    have := List.all_eq_true.1 (show ([27, 22, 30] : List Nat).all (fun t => !Tryd.prog.wantsStandIn t) = true by kernel_rfl) t hm
    exact (by simpa using this : Tryd.prog.wantsStandIn t = false)⟩)
  (by kernel_rfl)
end RLiveSound
end Go.Proofs.YtlkgkfgkiidhdaaDoor
