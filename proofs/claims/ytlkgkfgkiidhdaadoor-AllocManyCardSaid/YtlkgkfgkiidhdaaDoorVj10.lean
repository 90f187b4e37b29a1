/- Printed by rowgen.py: the row of AllocMany, out of its law in plain Lean. -/
import Derived.Test.YtlkgkfgkiidhdaaDoorVj9
import Derived.KernelRfl
import Derived.Test.YtlkgkfgkiidhdaaDoorTie
import Derived.Test.YtlkgkfgkiidhdaaDoorCards
import Derived.SevenTiedAt
namespace Go.Proofs.YtlkgkfgkiidhdaaDoor.Mir
open Go
set_option linter.unusedSimpArgs false
set_option linter.unusedVariables false
set_option maxHeartbeats 8000000
set_option maxRecDepth 20000
abbrev zC : AV := .agg [.nils, .int .i64 0, .int .i64 0]
theorem aIZ {x y z : AV} {H : aB} (h : qY H 0 6 (.tup [x, y]) = some z) : kT [some x, some y] 0 H = some (.ret, [z], []) := by
 have hc : fE 0 [] H = some [] := by
  unfold fE
  rw [List.take_zero]; rfl
 unfold kT rD cA nY
 simp only [rD, h, hc]
theorem aBH {L : LY} {f : Bool} {v into : Int} {x : WI} (h : x ∈ L.rC f v into) : ¬ (x.op = 17 ∨ x.op = 18 ∨ x.op = 19) := by
 unfold LY.rC LY.rdC at h
 split at h
 ·split at h
  ·rw [List.mem_singleton.1 h]; simp
  ·cases h
 ·cases h
theorem aIU {L : LY} {v : Int} {x : WI} (h : x ∈ L.wrC v) : ¬ (x.op = 17 ∨ x.op = 18 ∨ x.op = 19) := by
 unfold LY.wrC at h
 split at h
 ·rw [List.mem_singleton.1 h]; simp
 ·cases h
theorem aJJ {L : LY} {w x : WI} {R n : Nat} (hg : w.Good R n) (hx : x ∈ L.one w) (hb : x.op = 17 ∨ x.op = 18 ∨ x.op = 19) : x.k = -1 ∨ (0 ≤ x.k ∧ x.k ≤ n) := by
 have had : x ∈ L.adC w → x.k = -1 := fun h => by
  unfold LY.adC at h
  rcases List.mem_append.1 h with h | h
  ·exact absurd hb (aBH (f := true) (show x ∈ L.rC true w.a 1 from h))
  ·simp only [List.mem_cons, List.not_mem_nil, or_false] at h
   rcases h with rfl | rfl | rfl | rfl | rfl
   ·simp at hb
   ·simp at hb
   ·simp at hb
   ·simp at hb
   ·rfl
 unfold LY.one at hx
 split at hx
 ·rcases List.mem_append.1 hx with h | h
  ·exact .inl (had h)
  ·rcases List.mem_append.1 h with h | h
   ·rw [List.mem_singleton.1 h] at hb; simp at hb
   ·exact absurd hb (aIU h)
 ·split at hx
  ·rcases List.mem_append.1 hx with h | h
   ·exact .inl (had h)
   ·rcases List.mem_append.1 h with h | h
    ·exact absurd hb (aBH (f := true) (show x ∈ L.rC true w.b 1 from h))
    ·rw [List.mem_singleton.1 h] at hb; simp at hb
  ·rcases List.mem_append.1 hx with h | h
   ·unfold LY.rds at h
    rcases List.mem_append.1 h with h | h
    ·exact absurd hb (aBH h)
    ·rcases List.mem_append.1 h with h | h
     ·exact absurd hb (aBH h)
     ·exact absurd hb (aBH h)
   ·rcases List.mem_append.1 h with h | h
    ·rw [List.mem_singleton.1 h] at hb ⊢
     have hb' : w.op = 17 ∨ w.op = 18 ∨ w.op = 19 := hb
     exact .inr (hg.ok2.ok.k (by omega) (by omega))
    ·unfold LY.wrs at h
     split at h
     ·exact absurd hb (aIU h)
     ·cases h
section
variable (G : aG) (hg : GOk G) (k : Nat) (bor : Bool) (ws : List WI) (R M S : Nat)
theorem rJ (r m : Int) : bZ (cV bor ws r m) = true := by simp [bZ, gK, aDC, cV]
theorem aBw (H : aB) (hH : qD H H = true) (hl : ws.length ≤ 1000000) : bB (aO.f G (k + 1)) [.ro bor (bO ws)] H = some (.sl (H.length + 1) ws.length 0 ws.length 6, H ++ [⟨29, 6, []⟩, ⟨29, 6, bO ws⟩]) := by
 refine mN ?_ (by simp)
 rw [aO.step]
 unfold aO.c
 have e1 : iC 29 6 0 (.agg [(.int .i64 0), (.int .i64 0), (.int .i64 0), (.int .i64 0), (.int .i64 0), (.int .i64 0)]) [] (H ++ [⟨29, 6, []⟩]) = some (.sl (H.length + 1) 0 0 0 6, H ++ [⟨29, 6, []⟩, ⟨29, 6, []⟩]) := by
  simp [iC, kD]
 have e2 : eE 29 6 (.sl (H.length + 1) 0 0 0 6) (.ro bor (bO ws)) (H ++ [⟨29, 6, []⟩, ⟨29, 6, []⟩]) = some (.sl (H.length + 1) ws.length 0 ws.length 6, H ++ [⟨29, 6, []⟩, ⟨29, 6, bO ws⟩]) := by
  have g : (H ++ [⟨29, 6, []⟩, ⟨29, 6, []⟩] : aB)[H.length + 1]? = some ⟨29, 6, []⟩ := by
   rw [List.getElem?_append_right (by omega)]; simp
  unfold eE
  simp only [g, gB, rE, fC, List.length_nil, List.take_nil, List.nil_append, List.drop_nil, List.append_nil, Nat.zero_add]
  rw [if_pos (by refine ⟨?_, ?_, ?_, ?_, ?_⟩ <;> first | trivial | omega)]
  simp [List.set_append_right]
 refine gL ?_
 cases ws with
 | nil =>
  have q : aU Tryd.prog .eql 25 true (.ro bor (bO [])) .nils = some .anyb := by kernel_rfl
  have fx := q
  refine gE ?_
  have hh : qD (H ++ [⟨29, 6, []⟩, ⟨29, 6, []⟩]) (H ++ [⟨29, 6, []⟩, ⟨29, 6, []⟩]) = true := aBS hH (by simp [qD, nP])
  have e3 : (H ++ [⟨29, 6, []⟩] ++ [⟨29, 6, []⟩] : aB) = H ++ [⟨29, 6, []⟩, ⟨29, 6, []⟩] := by simp
  have e4 : (H ++ [⟨29, 6, []⟩] : aB).length = H.length + 1 := by simp
  have e5 : eE 29 6 (.sl (H.length + 1) 0 0 0 6) (.ro bor (bO [])) (H ++ [⟨29, 6, []⟩, ⟨29, 6, []⟩]) = some (.sl (H.length + 1) 0 0 0 6, H ++ [⟨29, 6, []⟩, ⟨29, 6, []⟩]) := e2
  rw [e3, e4]
  refine aLT (e := .ret) (xs := [.sl (H.length + 1) 0 0 0 6]) rfl ?_ (by simp [nP, kS]) hh rfl
  refine fG ?_
  have fx := aMP e1 <| e5
  refine gE ?_
  rfl
 | cons a l =>
  have q : aU Tryd.prog .eql 25 true (.ro bor (bO (a :: l))) .nils = some (.bool false) := by kernel_rfl
  have fx := aMP q <| aMP e1 <| e2
  refine gE ?_
  rfl
theorem eqW (l : List WI) : nP (bO l) (bO l) = true := aBQ _ (fun _ => by simp [WI.v, kS, nP]) l
include hg in
theorem aEN (hk : ws.length < k + 7) (hl : ws.length ≤ 1000000) (h : iL ws R M = .ok) (hs : 6 ≤ S ∧ S ≤ 28) (hR : R ≤ S) : cC.f G (k + 9) [cV bor ws R M, Nn S] [] = some (.tup [cV false ws R M, .nili], []) := by
 rw [cC.step]
 unfold cC.c
 have b0 : fW 27 (cV bor ws R M) [] = some (.ptr 0 1 0 0, [⟨27, 3, [cV bor ws R M]⟩]) := rfl
 have b1 : fW 27 zC [⟨27, 3, [cV bor ws R M]⟩] = some (.ptr 1 1 0 0, [⟨27, 3, [cV bor ws R M]⟩, ⟨27, 3, [zC]⟩]) := rfl
 have c1 : aF G true 3 (.ptr 0 1 0 0) [⟨27, 3, [cV bor ws R M]⟩, ⟨27, 3, [zC]⟩] = some (cV bor ws R M) := rfl
 have r1 : ∀ H, bF (cK.f G (k + 8)) [cV bor ws R M] H = _ := fun H => dO (H := H) (vS G hg k ws R M hk hl) (by simp [gK, rJ]) (zM _)
 rw [h] at r1
 have q : aU Tryd.prog .neq 33 true (veV .ok) .nili = some (.bool false) := by kernel_rfl
 have g1 : aU Tryd.prog .lss 3 true (Nn S) (.int .i64 6) = some (.bool false) := fO (by omega)
 have g2 : aU Tryd.prog .gtr 3 true (Nn S) (.int .i64 28) = some (.bool false) := iP (by omega)
 have f1 : aA 1 (.ptr 0 1 0 0) = some (.ptr 0 1 0 1) := rfl
 have f0 : aA 0 (.ptr 0 1 0 0) = some (.ptr 0 1 0 0) := rfl
 have l1 : aF G false 1 (.ptr 0 1 0 1) [⟨27, 3, [cV bor ws R M]⟩, ⟨27, 3, [zC]⟩] = some (Nn R) := rfl
 have g3 : aU Tryd.prog .leq 3 false (Nn R) (Nn S) = some (.bool true) := aAP hR
 have l0 : aF G false 1 (.ptr 0 1 0 0) [⟨27, 3, [cV bor ws R M]⟩, ⟨27, 3, [zC]⟩] = some (.ro bor (bO ws)) := rfl
 have cl : bB (aO.f G (k + 8)) [.ro bor (bO ws)] [⟨27, 3, [cV bor ws R M]⟩, ⟨27, 3, [zC]⟩] = some (.sl 3 ws.length 0 ws.length 6, [⟨27, 3, [cV bor ws R M]⟩, ⟨27, 3, [zC]⟩] ++ [⟨29, 6, []⟩, ⟨29, 6, bO ws⟩]) := aBw G (k + 7) bor ws [⟨27, 3, [cV bor ws R M]⟩, ⟨27, 3, [zC]⟩] (by simp [qD, nP, kS, cV, eqW]) hl
 have s1 : fM (aV 1 (.ptr 0 1 0 0) (.sl 3 ws.length 0 ws.length 6) ([⟨27, 3, [cV bor ws R M]⟩, ⟨27, 3, [zC]⟩] ++ [⟨29, 6, []⟩, ⟨29, 6, bO ws⟩])) = some (.tup [], [⟨27, 3, [.agg [.sl 3 ws.length 0 ws.length 6, Nn R, Nn M]]⟩, ⟨27, 3, [zC]⟩, ⟨29, 6, []⟩, ⟨29, 6, bO ws⟩]) := rfl
 have c2 : aF G true 3 (.ptr 0 1 0 0) [⟨27, 3, [.agg [.sl 3 ws.length 0 ws.length 6, Nn R, Nn M]]⟩, ⟨27, 3, [zC]⟩, ⟨29, 6, []⟩, ⟨29, 6, bO ws⟩] = some (.agg [.sl 3 ws.length 0 ws.length 6, Nn R, Nn M]) := rfl
 have s2 : fM (aV 3 (.ptr 1 1 0 0) (.agg [.sl 3 ws.length 0 ws.length 6, Nn R, Nn M]) [⟨27, 3, [.agg [.sl 3 ws.length 0 ws.length 6, Nn R, Nn M]]⟩, ⟨27, 3, [zC]⟩, ⟨29, 6, []⟩, ⟨29, 6, bO ws⟩]) = some (.tup [], [⟨27, 3, [.agg [.sl 3 ws.length 0 ws.length 6, Nn R, Nn M]]⟩, ⟨27, 3, [.agg [.sl 3 ws.length 0 ws.length 6, Nn R, Nn M]]⟩, ⟨29, 6, []⟩, ⟨29, 6, bO ws⟩]) := rfl
 have fin : kT [aF G true 3 (.ptr 1 1 0 0) [⟨27, 3, [.agg [.sl 3 ws.length 0 ws.length 6, Nn R, Nn M]]⟩, ⟨27, 3, [.agg [.sl 3 ws.length 0 ws.length 6, Nn R, Nn M]]⟩, ⟨29, 6, []⟩, ⟨29, 6, bO ws⟩], some .nili] 0 [⟨27, 3, [.agg [.sl 3 ws.length 0 ws.length 6, Nn R, Nn M]]⟩, ⟨27, 3, [.agg [.sl 3 ws.length 0 ws.length 6, Nn R, Nn M]]⟩, ⟨29, 6, []⟩, ⟨29, 6, bO ws⟩] = some (.ret, [.tup [cV false ws R M, .nili]], []) := by
  show kT [some (.agg [.sl 3 ws.length 0 ws.length 6, Nn R, Nn M]), some .nili] 0 _ = _
  refine aIZ ?_
  refine aEe rfl (gJ (aAB rfl (gJ (sY (ty := 29) (xs := bO ws) rfl (by omega) (fC ws) (rE ws) (fQ 0 ws)) (gJ rfl (gJ rfl pD)))) (gJ rfl pD))
 clear h hk hl
 generalize veV .ok = E1 at *
 generalize hh1 : ([⟨27, 3, [.agg [.sl 3 ws.length 0 ws.length 6, Nn R, Nn M]]⟩, ⟨27, 3, [.agg [.sl 3 ws.length 0 ws.length 6, Nn R, Nn M]]⟩, ⟨29, 6, []⟩, ⟨29, 6, bO ws⟩] : aB) = hA at *
 generalize hh2 : ([⟨27, 3, [.agg [.sl 3 ws.length 0 ws.length 6, Nn R, Nn M]]⟩, ⟨27, 3, [zC]⟩, ⟨29, 6, []⟩, ⟨29, 6, bO ws⟩] : aB) = hB at *
 clear hh1 hh2
 refine gL ?_
 have fx := aMP b0 <| aMP b1 <| aMP c1 <| aMP r1 <| aMP q <| aMP g1 <| aMP g2 <| aMP f1 <| aMP f0 <| aMP l1 <| aMP g3 <| aMP l0 <| aMP cl <| aMP s1 <| aMP c2 <| s2
 refine gE ?_
 exact oF fin
include hg in
theorem aCY (hl : ws.length ≤ 10000) (h : iL ws R M = .ok) (hs : 6 ≤ S ∧ S ≤ 28) (hR : S < R) (hR2 : R ≤ 1000) (hN : M + (R + 4 - S) ≤ 65536) (hk : 10 ≤ k) (hk1 : 8 * ws.length < k) (hk2 : 2 * R < k) :
  ∃ o : List Nat, o.Perm (List.range R) ∧ cC.f G (k + 40) [cV bor ws R M, Nn S] [] = some (.tup [cV false ((kG R S M o).out ws) (S : Int) ((M + (R + 4 - S) : Nat) : Int), .nili], []) := by
 have hgood := uM h
 rw [Int.toNat_natCast] at hgood
 obtain ⟨us, o, kp, hu, pm⟩ := aFk bor ws R M S G (k + 9) hgood (by omega) hR2 (by omega) hs.1 (by omega) (by omega) (by omega) (by omega)
 refine ⟨o, pm, ?_⟩
 obtain ⟨A, hA⟩ : ∃ A : AX, A = ⟨bor, ws, R, kG R S M o, us, o⟩ := ⟨_, rfl⟩
 have hW : A.W := by
  rw [hA]
  exact ⟨by show (jP S o 0 (List.replicate R 0)).length = R; rw [zK]; simp, by show (jQ S M o 0 (List.replicate R 0)).length = R; rw [zO]; simp⟩
 have aws : A.ws = ws := by rw [hA]
 have aR : A.R = R := by rw [hA]
 have aL : A.L = kG R S M o := by rw [hA]
 have abor : A.bor = bor := by rw [hA]
 have lp := aCl A G (k + 29) (cC.f G (k + 39)) hW (by rw [aws, aR]; exact hgood) (by rw [aws]; exact hl) S (R + 4 - S) ws.length 0 (k + 39) ⟨[], []⟩ [] (by rw [aws]; omega) (by omega) (by show 0 + 8 * ws.length ≤ _; omega) (by show 0 + ws.length ≤ _; omega)
 rw [List.drop_zero, aws, aL] at lp
 have hfl := pS (kG R S M o) ws
 have hrun := aAY (kG R S M o) ws ⟨[], []⟩
 simp only [List.nil_append, List.length_nil] at hrun
 have hmark := aIy (kG R S M o) ws
 rw [hrun] at lp hmark
 have hpos : ((kG R S M o).pos 0 ws).length = ws.length := aAS _ _ _
 have hplc := zB (kG R S M o) ws
 have hpl : ((⟨(kG R S M o).flat ws, (kG R S M o).pos 0 ws⟩ : LS)).mark.place = (kG R S M o).place ws := by rw [hmark]
 have ps := aCA A G (k + 37) ⟨(kG R S M o).flat ws, (kG R S M o).pos 0 ws⟩ (by show (LY.flat _ ws).length ≤ _; omega) (by show (LY.pos _ 0 ws).length ≤ _; omega) (by show (LY.flat _ ws).length < _; omega) (fun i hi hb => by
  rw [hpl, hplc]
  obtain ⟨w, hw1, hw2⟩ := wK ws hi
  have := aJJ (hgood w hw1) hw2 ((aAq _).1 hb)
  omega)
 rw [hpl] at ps
 obtain ⟨ot, hot⟩ : ∃ ot, (kG R S M o).out ws = ot := ⟨_, rfl⟩
 have hout : ((⟨(kG R S M o).flat ws, (kG R S M o).pos 0 ws⟩ : LS)).out.map (jK ((kG R S M o).place ws) ((⟨(kG R S M o).flat ws, (kG R S M o).pos 0 ws⟩ : LS)).out.length) = ot := hot
 rw [hout] at ps
 have hol : ot.length ≤ 80000 := by rw [← hot, nU]; omega
 rw [hot]
 obtain ⟨s1, hs1⟩ : ∃ s1 : LS, s1 = ⟨(kG R S M o).flat ws, (kG R S M o).pos 0 ws⟩ := ⟨_, rfl⟩
 rw [← hs1] at lp ps
 obtain ⟨s2, hs2⟩ : ∃ s2 : LS, s2 = ⟨ot, (kG R S M o).place ws⟩ := ⟨_, rfl⟩
 rw [← hs2] at ps
 have h2o : s2.out = ot := by rw [hs2]
 rw [cC.step]
 unfold cC.c
 have b0 : fW 27 (cV bor ws R M) [] = some (.ptr 0 1 0 0, [⟨27, 3, [cV bor ws R M]⟩]) := rfl
 have b1 : fW 27 zC [⟨27, 3, [cV bor ws R M]⟩] = some (.ptr 1 1 0 0, [⟨27, 3, [cV bor ws R M]⟩, ⟨27, 3, [zC]⟩]) := rfl
 have c1 : aF G true 3 (.ptr 0 1 0 0) [⟨27, 3, [cV bor ws R M]⟩, ⟨27, 3, [zC]⟩] = some (cV bor ws R M) := rfl
 have r1 : ∀ H, bF (cK.f G (k + 39)) [cV bor ws R M] H = _ := fun H => dO (H := H) (vS G hg (k + 31) ws R M (by omega) (by omega)) (by simp [gK, rJ]) (zM _)
 rw [h] at r1
 have q : aU Tryd.prog .neq 33 true (veV .ok) .nili = some (.bool false) := by kernel_rfl
 have g1 : aU Tryd.prog .lss 3 true (Nn S) (.int .i64 6) = some (.bool false) := fO (by omega)
 have g2 : aU Tryd.prog .gtr 3 true (Nn S) (.int .i64 28) = some (.bool false) := iP (by omega)
 have f0 : aA 0 (.ptr 0 1 0 0) = some (.ptr 0 1 0 0) := rfl
 have f1 : aA 1 (.ptr 0 1 0 0) = some (.ptr 0 1 0 1) := rfl
 have f2 : aA 2 (.ptr 0 1 0 0) = some (.ptr 0 1 0 2) := rfl
 have l1 : aF G false 1 (.ptr 0 1 0 1) [⟨27, 3, [cV bor ws R M]⟩, ⟨27, 3, [zC]⟩] = some (Nn R) := rfl
 have g3 : aU Tryd.prog .leq 3 false (Nn R) (Nn S) = some (.bool false) := aAO hR
 have bs : cU [(0, 3), (3, 1), (4, 1), (5, 1), (6, 1)] [.nils, (.int .i64 0), (.int .i64 0), .nils, .nils, .nils, .nils] [(0, cV bor ws R M)] = some (.agg [.ro bor (bO ws), Nn R, Nn M, .nils, .nils, .nils, .nils]) := rfl
 have b2 : fW 86 (.agg [.ro bor (bO ws), Nn R, Nn M, .nils, .nils, .nils, .nils]) [⟨27, 3, [cV bor ws R M]⟩, ⟨27, 3, [zC]⟩] = some (BX, hpK bor ws R M) := rfl
 obtain ⟨slE, hslE⟩ : ∃ l, jP S o 0 (List.replicate R 0) = l := ⟨_, rfl⟩
 obtain ⟨wdE, hwdE⟩ : ∃ l, jQ S M o 0 (List.replicate R 0) = l := ⟨_, rfl⟩
 rw [hslE, hwdE] at kp
 have lM : aF G false 1 (.ptr 0 1 0 2) (tA bor ws R M us o slE wdE) = some (Nn M) := rfl
 have a1 : aU Tryd.prog .add 3 false (Nn M) (Nn (R + 4 - S)) = some (Nn (M + (R + 4 - S) : Nat)) := lV (by omega)
 have g4 : aU Tryd.prog .gtr 3 true (Nn (M + (R + 4 - S))) (.int .i64 65536) = some (.bool false) := iP (by omega)
 have l0 : aF G false 1 (.ptr 0 1 0 0) (tA bor ws R M us o slE wdE) = some (.ro bor (bO ws)) := rfl
 have lw : dN (.ro bor (bO ws)) = some (Nn ws.length) := by simp [dN, fC]
 obtain ⟨hv, hhv⟩ : ∃ hv : aB, hv = [k0 bor ws R M, k1, ⟨86, 7, [.agg [.ro bor (bO ws), Nn R, Nn M, .sl 6 R 0 R 1, .sl 7 R 0 R 1, .sl 8 0 0 0 6, .nils]]⟩, ⟨3, 1, jE us⟩, k4 R, ⟨3, 1, dQ o⟩, ⟨3, 1, dQ slE⟩, ⟨3, 1, dQ wdE⟩, ⟨29, 6, []⟩] := ⟨_, rfl⟩
 have v1 : mD (BX, 5, 29, 6) (tA bor ws R M us o slE wdE) = hv := by rw [hhv]; rfl
 have v2 : mD (BX, 6, 3, 1) hv = A.hp ⟨[], []⟩ [] := by rw [hhv, hA, ← hslE, ← hwdE]; rfl
 have lo := al5 A s2 [] G
 have ln : dN (.sl 8 s2.out.length 0 s2.out.length 6) = some (Nn s2.out.length) := rfl
 have g5 : aU Tryd.prog .gtr 3 true (Nn s2.out.length) (.int .i64 262144) = some (.bool false) := iP (by rw [h2o]; omega)
 have lM2 : aF G false 1 (.ptr 0 1 0 2) (A.hp s2 []) = some (Nn M) := by rw [hA]; rfl
 have bs2 : cU [(0, 1), (1, 1), (2, 1)] [.nils, (.int .i64 0), (.int .i64 0)] [(0, .sl 8 s2.out.length 0 s2.out.length 6), (1, Nn S), (2, Nn (M + (R + 4 - S)))] = some (.agg [.sl 8 s2.out.length 0 s2.out.length 6, Nn S, Nn (M + (R + 4 - S))]) := rfl
 have s3 : fM (aV 3 (.ptr 1 1 0 0) (.agg [.sl 8 s2.out.length 0 s2.out.length 6, Nn S, Nn (M + (R + 4 - S))]) (A.hp s2 [])) = some (.tup [], (A.hp s2 []).set 1 ⟨27, 3, [.agg [.sl 8 s2.out.length 0 s2.out.length 6, Nn S, Nn (M + (R + 4 - S))]]⟩) := rfl
 have fin : kT [aF G true 3 (.ptr 1 1 0 0) ((A.hp s2 []).set 1 ⟨27, 3, [.agg [.sl 8 s2.out.length 0 s2.out.length 6, Nn S, Nn (M + (R + 4 - S))]]⟩), some .nili] 0 ((A.hp s2 []).set 1 ⟨27, 3, [.agg [.sl 8 s2.out.length 0 s2.out.length 6, Nn S, Nn (M + (R + 4 - S))]]⟩) = some (.ret, [.tup [cV false ot (S : Int) ((M + (R + 4 - S) : Nat) : Int), .nili]], []) := by
  show kT [some (.agg [.sl 8 s2.out.length 0 s2.out.length 6, Nn S, Nn (M + (R + 4 - S))]), some .nili] 0 _ = _
  rw [h2o]
  refine aIZ ?_
  have e8 : ((A.hp s2 []).set 1 ⟨27, 3, [.agg [.sl 8 ot.length 0 ot.length 6, Nn S, Nn (M + (R + 4 - S))]]⟩)[8]? = some ⟨29, 6, bO ot⟩ := by
   rw [← h2o]; rfl
  refine aEe rfl (gJ (aAB rfl (gJ (sY (ty := 29) (xs := bO ot) e8 (by omega) (fC ot) (rE ot) (fQ 0 ot)) (gJ rfl (gJ rfl pD)))) (gJ rfl pD))
 unfold aBr at lp
 rw [aws, abor] at lp
 replace lp : cQ (cC.l14 G (k + 39) (A.hp ⟨[], []⟩ []).length (cC.f G (k + 39))) (k + 39) [Nn S, .ptr 0 1 0 0, .ptr 1 1 0 0, BX, Nn (R + 4 - S), .ro bor (bO ws), Nn ws.length, .int .i64 0] (A.hp ⟨[], []⟩ []) = some (.exit 0, [Nn S, .ptr 0 1 0 0, .ptr 1 1 0 0, BX, Nn (R + 4 - S), .ro bor (bO ws), Nn ws.length, Nn ws.length], A.hp s1 []) := lp
 clear hgood hhv hslE hwdE hA hW hrun hmark hpos hplc hpl hout hot hol hs1 hs2 h2o h aL aws aR abor
 generalize veV .ok = E1 at *
 generalize M + (R + 4 - S) = N at *
 generalize R + 4 - S = more at *
 generalize (A.hp s2 []).set 1 ⟨27, 3, [.agg [.sl 8 s2.out.length 0 s2.out.length 6, Nn S, Nn N]]⟩ = hR at *
 refine gL ?_
 have fx := aMP iG <| aMP af5 <| aMP b0 <| aMP b1 <| aMP c1 <| aMP r1 <| aMP q <| aMP g1 <| aMP g2 <| aMP g3 <| aMP f0 <| aMP f1 <| aMP f2 <| aMP l1 <| aMP bs <| aMP b2 <| aMP kp <| aMP lM <| aMP a1 <| aMP g4 <| aMP l0 <| lw
 refine gE ?_
 refine eV1 v1 ?_
 refine eV1 v2 ?_
 refine eV0 ?_
 have fx := aMP iG <| aMP af5 <| aMP f2 <| aMP ps <| aMP lo <| aMP ln <| aMP g5 <| aMP lM2 <| aMP a1 <| aMP bs2 <| s3
 have lx1 := lp
 refine gE ?_
 exact oF fin
end
def aGy (n : Nat) (R M : Int) (m : Nat) : Prop := n ≤ 60 ∧ R ≤ 60 ∧ M ≤ 80 ∧ m ≤ 80
instance (n : Nat) (R M : Int) (m : Nat) : Decidable (aGy n R M m) := by unfold aGy; infer_instance
theorem aDB (G : aG) (k : Nat) (cs : List WI) (R M : Int) : bR.f G (k + 1) [cV false cs R M] [] = some (cV false cs R M, []) := by
 rw [bR.step]
 unfold bR.c cV
 refine gL ?_
 repeat' first
  | (with_reducible first | refine eT ?_ | refine eN ?_ | refine eS ?_ | refine eXn ?_ | refine eXr ?_ | refine eX ?_ | refine eI ?_ | refine eK ?_ | refine eV0 ?_ | refine aEV ?_ | refine aEY ?_ | refine aES ?_ | refine aEX ?_ | refine aET ?_ | refine aEU ?_)
  | ((with_reducible apply eCn); (simp only [fY, fX]; first | done | (with_reducible exact rfl)))
  | ((with_reducible apply eJ); (rfl))
  | ((with_reducible apply aEW); (first | rfl | (simp only [fY, fX]; rfl)))
  | ((with_reducible apply eB); (first | (with_reducible exact rfl) | (simp (disch := omega) only [qa, kI, AV.cells, gF, cU, lP, eQ, iC, kD, Nat.reduceLeDiff, Nat.reduceLT, Nat.reduceAdd, ↓reduceIte]; first | done | (with_reducible exact rfl) | (with_reducible exact ⟨rfl, rfl⟩))))
  | ((with_reducible apply eR); (simp only [fY, fX]; (with_reducible exact rfl)))
  | ((with_reducible first | refine aHu ?_ ?_ | refine aHz ?_ ?_ | refine aHy ?_ ?_ | refine aHx ?_ ?_ | refine aHw ?_ ?_ | refine aHv ?_ ?_ | refine aHA ?_ ?_ | refine aCJ ?_ ?_ | refine sGd ?_ ?_ | refine aBO ?_ ?_) <;> intro hq <;> try subst hq)
 refine oF ?_
 unfold kT
 exact nB (by simp [bW, bX, fQ, AV.cells]) _
theorem aIg (G : aG) (k : Nat) : cH.f G (k + 150) [] [] = some (.bool true, []) := by kernel_rfl
theorem aFp (n : Nat) : List.replicate n (AV.int .u64 0) = bU (List.replicate n 0) := by unfold bU; rw [List.map_replicate]; rfl
theorem aDq (G : aG) (k : Nat) (bm : Bool) (mem : List Nat) (n : Nat) (hn : n ≤ 100000) : bQ.f G (k + 1) [.ro bm (bU mem), Nn n] [] = some (.ro false (bU (gD mem n)), []) := by
 rw [bQ.step]
 unfold bQ.c
 have m1 : dX 30 1 (.int .u64 0) (Nn n) (Nn n) [] = some (.sl 0 n 0 n 1, [⟨30, 1, bU (List.replicate n 0)⟩]) := by
  unfold dX
  simp only [Int.toNat_natCast]
  rw [if_pos (by omega), aFp]; rfl
 have c1 : qG (.sl 0 n 0 n 1) (.ro bm (bU mem)) [⟨30, 1, bU (List.replicate n 0)⟩] = some (.int .i64 ((min mem.length n : Nat) : Int), [⟨30, 1, bU (gD mem n)⟩]) := by
  have e2 : gB (.ro bm (bU mem)) [⟨30, 1, bU (List.replicate n 0)⟩] = some (bU mem) := rfl
  have e1 : ([⟨30, 1, bU (List.replicate n 0)⟩] : aB)[0]? = some ⟨30, 1, bU (List.replicate n 0)⟩ := rfl
  unfold qG
  simp only [e1, e2, eF, List.length_replicate, mJ]
  rw [if_pos (by refine ⟨trivial, trivial, ?_, trivial⟩; omega)]
  have e3 : (bU (List.replicate n 0)).take 0 ++ ((bU mem).take n ++ (bU (List.replicate n 0)).drop (0 + ((bU mem).take n).length)) = bU (gD mem n) := by
   unfold gD bU
   simp only [List.take_zero, List.nil_append, Nat.zero_add, List.map_append, List.map_take, List.map_replicate, List.length_take, List.length_map, List.drop_replicate]
   congr 2
   omega
  rw [e3]; rfl
 have gl := aAA (x := .sl 0 n 0 n 1) (y := .ro false (bU (gD mem n))) (n := 0) (H := [⟨30, 1, bU (gD mem n)⟩]) (by
  by_cases h : mem.length ≤ n
  ·exact sY (ty := 30) (xs := bU (gD mem n)) rfl (by omega) (by rw [eF, pU _ _ h]) (mJ _) (gS 0 _)
  ·refine sY (ty := 30) (xs := bU (gD mem n)) rfl (by omega) ?_ (mJ _) (gS 0 _)
   rw [eF]; unfold gD; simp; omega) rfl
 refine gL ?_
 have fx := aMP m1 <| c1
 refine gE ?_
 exact oF gl
theorem aGd {l m : List Nat} (hl : l.length = m.length) (h : ∀ j, j < l.length → l.getD j 0 = m.getD j 0) : l = m := by
 refine List.ext_getElem hl fun i h1 h2 => ?_
 have := h i h1
 rw [List.getD_eq_getElem?_getD, List.getD_eq_getElem?_getD, List.getElem?_eq_getElem h1, List.getElem?_eq_getElem h2] at this
 exact this
structure Does (ws : List WI) (R M : Nat) (ot : List WI) (R2 M2 : Nat) : Prop where
 valid : iL ot R2 M2 = .ok
 ge : M ≤ M2
 le : M2 ≤ M + R
 len : ot.length ≤ 480
 run : ∃ ml : List (Int × Int) → List (Int × Int), ∀ (mem : List Nat) (s' : MS), mem.length = M → (∀ x ∈ mem, x < 18446744073709551616) → iR ws 400 7999 (s0 R mem) = some s' → s'.code ≠ 4 →
  ∃ q', iR ot 3264 7999 (s0 R2 (gD mem M2)) = some q' ∧ q'.code = s'.code ∧ q'.mem.take M = s'.mem ∧ q'.mem.length = M2 ∧ s'.mem.length = M ∧ q'.leaks = ml s'.leaks
abbrev GH : aG := zH 179 [0, 2, 1, 4, 3, 5]
theorem aKH : GOk GH := ⟨rfl, rfl, rfl, rfl, rfl⟩
theorem aGD (G : aG) (k : Nat) (n m : Int) (h0 : 0 < m) (h1 : m < 9223372036854775808) (hn : -9223372036854775808 ≤ n) (hn' : n < 9223372036854775808) :
  bJ.f G (k + 1) [.int .i64 n, .int .i64 m] [] = some (.int .i64 (n % m), []) := by
 rw [bJ.step]
 unfold bJ.c
 rw [aHY _ _ _ _ _ _ (by omega)]
 have hlt := Int.tmod_lt_of_pos n h0
 have hgt : -m < n.tmod m := by have := Int.tmod_lt_of_pos (-n) h0; rw [Int.neg_tmod] at this; omega
 have hm : n.tmod m % m = n % m := by
  rw [Int.tmod_eq_emod]; split
  ·simp
  ·have e : (m.natAbs : Int) = m := by omega
   simp [e]
 by_cases h : n.tmod m < 0
 ·simp only [tL, aBE, iA, h, decide_true, aDj, gG, List.length_nil, aBZ, aCy]
  rw [dH (by omega) (by omega)]
  congr 3
  rw [← hm, ← Int.add_emod_right]
  exact (Int.emod_eq_of_lt (by omega) (by omega)).symm
 ·simp only [tL, aBE, iA, h, decide_false, aBK, List.length_nil, aBZ, aCy]
  congr 3
  rw [← hm]
  exact (Int.emod_eq_of_lt (by omega) (by omega)).symm
theorem aEM (G : aG) (hg : GOk G) (bor : Bool) (ws : List WI) (R M S : Nat) (h : iL ws R M = .ok) (hl : ws.length ≤ 300) (hR : R ≤ 60) (hM : M ≤ 80) (hs : 6 ≤ S ∧ S ≤ 28) :
  ∃ (ot : List WI) (R2 M2 : Nat), cC.f G 20000 [cV bor ws R M, Nn S] [] = some (.tup [cV false ot R2 M2, .nili], []) ∧ R2 ≤ S ∧ iL ot R2 M2 = .ok ∧ M ≤ M2 ∧ M2 ≤ M + R ∧ ot.length ≤ 2400 ∧
   ∀ (F fuel : Int) (f : Nat) (mem : List Nat) (s' : MS), 0 ≤ F → F ≤ 1000 → 8 * F + 20 < fuel → f ≤ 19999 → mem.length = M → (∀ x ∈ mem, x < 18446744073709551616) → iR ws F f (s0 R mem) = some s' → s'.code ≠ 4 →
    ∃ q', iR ot fuel 19999 (s0 R2 (gD mem M2)) = some q' ∧ q'.code = s'.code ∧ q'.mem.take M = s'.mem ∧ q'.mem.length = M2 := by
 have hok := xJ h
 rw [Int.toNat_natCast] at hok
 by_cases hRS : R ≤ S
 ·refine ⟨ws, R, M, aEN G hg 19991 bor ws R M S (by omega) (by omega) h hs hRS, hRS, h, Nat.le_refl _, by omega, by omega, fun F fuel f mem s' h0 hF hfu hf hm hmm hrun hc => ?_⟩
  have eg : gD mem M = mem := by unfold gD; rw [List.take_of_length_le (by omega), hm, Nat.sub_self]; simp
  have hml := (aEA ws F R (by omega) (fun j hj => (hok j hj).ok) _ _ _ hrun (aHt R mem hmm (by omega)) (by simp [s0]) (by simpa [s0] using h0)).2.2
  have hml' : s'.mem.length = M := by rw [hml]; exact hm
  have hw := wZ (F2 := fuel) (by omega) _ _ _ hrun hc (by simpa [s0] using h0)
  have hw2 := zF ws fuel f _ _ hw (19999 - f)
  rw [show f + (19999 - f) = 19999 by omega] at hw2
  exact ⟨s', by rw [eg]; exact hw2, rfl, List.take_of_length_le (by omega), hml'⟩
 ·obtain ⟨o, pm, ha⟩ := aCY G hg 19960 bor ws R M S (by omega) h hs (by omega) (by omega) (by omega) (by decide) (by omega) (by omega)
  have hL := aIk (M := M) pm hs.1 (by omega) (by omega)
  have hnone := aCR h
  have hgood := uM h
  rw [Int.toNat_natCast] at hgood
  have hout := aFs hL (by omega) hnone (by omega)
  have hlen : ((kG R S M o).out ws).length ≤ 2400 := by
   have := pS (kG R S M o) ws
   rw [nU]; omega
  refine ⟨_, S, M + (R + 4 - S), ha, Nat.le_refl _, hout, by omega, by omega, hlen, fun F fuel f mem s' h0 hF hfu hf hm hmm hrun hc => ?_⟩
  obtain ⟨q', e1, e2, e3, e4⟩ := aIA (K := 19999) (f := f) (fuel := fuel) (F := F) hL hgood h0 (by omega) hfu mem hm hmm s' hrun hc (by omega)
  refine ⟨q', e1, e2, ?_, e3.qml⟩
  have hsm : s'.mem.length = M := e3.sml
  have hqm := e3.qml
  refine aGd (by rw [List.length_take, hsm, hqm]; omega) fun j hj => ?_
  rw [List.length_take, hqm] at hj
  have := e3.mem j (by show j < M; omega)
  rw [← this, List.getD_eq_getElem?_getD, List.getElem?_take_of_lt (by omega), ← List.getD_eq_getElem?_getD]
section
variable (m : List Nat) (N S : Nat) (G : aG) (k : Nat) (self : cD)
def bxY (cs : List WI) : AV := .agg [.sl 2 cs.length 0 cs.length 6, Nn (N + 2), .int .i64 60]
def lL (cs : List WI) (T : aB) : aB := ⟨30, 1, bU m⟩ :: ⟨27, 3, [bxY N cs]⟩ :: ⟨29, 6, bO cs⟩ :: T
theorem aFg (cs : List WI) (T : aB) (hT : Pl T) (n : Nat) (hn : 3 ≤ n) : dB n (lL m N cs T) = true := by
 have h2 : decide (2 < n) = true := decide_eq_true (by omega)
 simp only [lL, bxY, dB, bX, bW, fQ, gS, hT n, h2, Bool.and_self]
theorem rT (cs : List WI) (T X : aB) (hT : Pl T) (xs : List AV) (hx : bX (T.length + 3) xs = true) : fE (T.length + 3) xs (lL m N cs (T ++ X)) = some (lL m N cs T) := by
 have e : (lL m N cs (T ++ X)).take (T.length + 3) = lL m N cs T := by
  unfold lL
  simp only [List.take_succ_cons]
  rw [List.take_append_of_le_length (Nat.le_refl _), List.take_length]
 unfold fE
 rw [e, hx, aFg m N cs T hT _ (by omega)]; rfl
theorem aEL (cs l : List WI) (T : aB) (hl : cs.length + l.length ≤ 1000000) : eE 29 6 (.sl 2 cs.length 0 cs.length 6) (.ro false (bO l)) (lL m N cs T) = some (.sl 2 (cs ++ l).length 0 (cs ++ l).length 6, (lL m N cs T).set 2 ⟨29, 6, bO (cs ++ l)⟩) := by
 have e : (lL m N cs T)[2]? = some ⟨29, 6, bO cs⟩ := rfl
 have e1 : gB (.ro false (bO l)) (lL m N cs T) = some (bO l) := rfl
 unfold eE
 simp only [e, e1, fC, rE]
 rw [if_pos (by refine ⟨?_, ?_, ?_, ?_, ?_⟩ <;> first | trivial | rfl | omega)]
 have e2 : (bO cs).take cs.length = bO cs := List.take_of_length_le (by rw [fC]; exact Nat.le_refl _)
 have e3 : (bO cs).drop (cs.length + l.length) = [] := List.drop_of_length_le (by rw [fC]; omega)
 have e4 : bO cs ++ bO l = bO (cs ++ l) := by simp [bO]
 rw [e2, e3, List.append_nil, e4, fC]
 simp
theorem aLD (cs : List WI) (T : aB) : aF G false 1 (.ptr 1 1 0 0) (lL m N cs T) = some (.sl 2 cs.length 0 cs.length 6) := rfl
theorem aIN (cs l : List WI) (T : aB) : fM (aV 1 (.ptr 1 1 0 0) (.sl 2 (cs ++ l).length 0 (cs ++ l).length 6) ((lL m N cs T).set 2 ⟨29, 6, bO (cs ++ l)⟩)) = some (.tup [], lL m N (cs ++ l) T) := rfl
theorem aKt : aA 0 (.ptr 1 1 0 0) = some (.ptr 1 1 0 0) := rfl
def xsY (i : Int) : List AV := [Nn N, Nn S, .bool true, .sl 0 60 0 60 1, .ptr 1 1 0 0, I6 i]
theorem qB (i : Int) : bX 3 (xsY N S i) = true := by simp [xsY, bX, bW]
theorem aKX (hN : N ≤ 60) : ∀ (d j f : Nat) (X : aB), j + d = N → d < f →
  cQ (alembiclaw21_AllocMany.l14 G k 3 self) f (xsY N S j) (lL m N (c1 N j) X) = some (.exit 0, xsY N S N, lL m N (c1 N N) [])
 | d, j, 0, X, _, h => by omega
 | 0, j, f + 1, X, hd, hf => by
  have hj : j = N := by omega
  subst hj
  have hc : fE 3 (xsY j S j) (lL m j (c1 j j) X) = some (lL m j (c1 j j) []) := rT m j _ [] X (fun _ => rfl) _ (qB j S _)
  have g1 : aU Tryd.prog .lss 3 false (Nn j) (Nn j) = some (.bool false) := fO (by omega)
  rw [aY, alembiclaw21_AllocMany.l14]
  refine fG ?_
  refine eC hc ?_
  unfold xsY
  have fx := g1
  refine gE ?_
  refine fP ?_; rfl
 | d + 1, j, f + 1, X, hd, hf => by
  have hc : fE 3 (xsY N S j) (lL m N (c1 N j) X) = some (lL m N (c1 N j) []) := rT m N _ [] X (fun _ => rfl) _ (qB N S _)
  have g1 : aU Tryd.prog .lss 3 false (Nn j) (Nn N) = some (.bool true) := fV (by omega)
  have q2 : aU Tryd.prog .add 3 true (Nn j) (.int .i64 1) = some (Nn (j + 1 : Nat)) := jW (by omega)
  have l0 := aLD m N G (c1 N j) []
  have bs : cU [(0, 1), (1, 1), (2, 1), (3, 1), (4, 1), (5, 1)] [(.int .i64 0), (.int .i64 0), (.int .i64 0), (.int .i64 0), (.int .i64 0), (.int .i64 0)] [(0, .int .i64 15), (1, Nn j), (2, Nn N), (5, Nn j)] = some (WI.v (ldI N j)) := rfl
  have br : ∀ H, eQ 6 1 (.agg [(.int .i64 0), (.int .i64 0), (.int .i64 0), (.int .i64 0), (.int .i64 0), (.int .i64 0)]) [(0, WI.v (ldI N j))] H = some (.ro false (bO [ldI N j]), H) := fun H => rfl
  have a1 := aEL m N (c1 N j) [ldI N j] [] (by rw [vY]; show j + 1 ≤ _; omega)
  have s1 := aIN m N (c1 N j) [ldI N j] []
  have ih := aKX hN d (j + 1) f [] (by omega) (by omega)
  have ec : c1 N (j + 1) = c1 N j ++ [ldI N j] := rfl
  rw [ec] at ih
  rw [aY, alembiclaw21_AllocMany.l14]
  refine fG ?_
  refine eC hc ?_
  unfold xsY at ih ⊢
  generalize (lL m N (c1 N j) []).set 2 ⟨29, 6, bO (c1 N j ++ [ldI N j])⟩ = hm at *
  generalize c1 N j ++ [ldI N j] = c' at *
  generalize bO [ldI N j] = wl at *
  have fx := aMP aKt <| aMP g1 <| aMP q2 <| aMP l0 <| aMP bs <| aMP br <| aMP a1 <| s1
  refine gE ?_
  exact ih
theorem aGm {a : Int} (h : -1000 ≤ a) (h2 : a ≤ 100000) : aU Tryd.prog .sub 3 true (I6 a) (.int .i64 1) = some (I6 (a - 1)) := by rw [mK, dH (by omega) (by omega)]
theorem aKZ (hN : N ≤ 60) : ∀ (e d f : Nat) (X : aB), d + e = N → e < f →
  cQ (alembiclaw21_AllocMany.l18 G k 3 self) f (xsY N S ((N : Int) - 1 - d)) (lL m N (c2 N d) X) = some (.exit 2, xsY N S (-1), lL m N (c2 N N) [])
 | e, d, 0, X, _, h => by omega
 | 0, d, f + 1, X, hd, hf => by
  have hj : d = N := by omega
  subst hj
  have ez : (d : Int) - 1 - d = -1 := by omega
  rw [ez]
  have hc : fE 3 (xsY d S (-1)) (lL m d (c2 d d) X) = some (lL m d (c2 d d) []) := rT m d _ [] X (fun _ => rfl) _ (qB d S _)
  have g1 : aU Tryd.prog .geq 3 true (I6 (-1)) (.int .i64 0) = some (.bool false) := vI (by omega)
  rw [aY, alembiclaw21_AllocMany.l18]
  refine fG ?_
  refine eC hc ?_
  unfold xsY
  clear ez
  have fx := g1
  refine gE ?_
  refine fP ?_; rfl
 | e + 1, d, f + 1, X, hd, hf => by
  have hc : fE 3 (xsY N S ((N : Int) - 1 - d)) (lL m N (c2 N d) X) = some (lL m N (c2 N d) []) := rT m N _ [] X (fun _ => rfl) _ (qB N S _)
  have g1 : aU Tryd.prog .geq 3 true (I6 ((N : Int) - 1 - d)) (.int .i64 0) = some (.bool true) := vJ (by omega)
  have q2 := aGm (a := (N : Int) - 1 - d) (by omega) (by omega)
  have q3 : aU Tryd.prog .add 3 true (Nn N) (.int .i64 1) = some (Nn (N + 1 : Nat)) := jW (by omega)
  have en : I6 ((N : Int) - 1 - d) = Nn (N - 1 - d) := by
   show AV.int .i64 _ = .int .i64 _
   congr 1; omega
  have l0 := aLD m N G (c2 N d) []
  have bs1 : cU [(0, 1), (1, 1), (2, 1), (3, 1), (4, 1), (5, 1)] [(.int .i64 0), (.int .i64 0), (.int .i64 0), (.int .i64 0), (.int .i64 0), (.int .i64 0)] [(0, .int .i64 3), (1, Nn (N + 1)), (2, Nn (N + 1)), (3, I6 ((N : Int) - 1 - d))] = some (WI.v (adI N (N - 1 - d))) := by rw [en]; rfl
  have bs2 : cU [(0, 1), (1, 1), (2, 1), (3, 1), (4, 1), (5, 1)] [(.int .i64 0), (.int .i64 0), (.int .i64 0), (.int .i64 0), (.int .i64 0), (.int .i64 0)] [(0, .int .i64 5), (1, I6 ((N : Int) - 1 - d)), (2, I6 ((N : Int) - 1 - d)), (3, Nn (N + 1))] = some (WI.v (muI N (N - 1 - d))) := by rw [en]; rfl
  have br : ∀ H, eQ 6 2 (.agg [(.int .i64 0), (.int .i64 0), (.int .i64 0), (.int .i64 0), (.int .i64 0), (.int .i64 0)]) [(0, WI.v (adI N (N - 1 - d))), (1, WI.v (muI N (N - 1 - d)))] H = some (.ro false (bO [adI N (N - 1 - d), muI N (N - 1 - d)]), H) := fun H => rfl
  have a1 := aEL m N (c2 N d) [adI N (N - 1 - d), muI N (N - 1 - d)] [] (by rw [qP]; show N + 2 * d + 2 ≤ _; omega)
  have s1 := aIN m N (c2 N d) [adI N (N - 1 - d), muI N (N - 1 - d)] []
  have ih := aKZ hN e (d + 1) f [] (by omega) (by omega)
  have ec : c2 N (d + 1) = c2 N d ++ [adI N (N - 1 - d), muI N (N - 1 - d)] := rfl
  have ez : (N : Int) - 1 - ((d + 1 : Nat) : Int) = (N : Int) - 1 - d - 1 := by omega
  rw [ec, ez] at ih
  rw [aY, alembiclaw21_AllocMany.l18]
  refine fG ?_
  refine eC hc ?_
  clear en ec ez
  unfold xsY at ih ⊢
  generalize adI N (N - 1 - d) = x1 at *
  generalize muI N (N - 1 - d) = x2 at *
  generalize (lL m N (c2 N d) []).set 2 ⟨29, 6, bO (c2 N d ++ [x1, x2])⟩ = hm at *
  generalize c2 N d ++ [x1, x2] = c' at *
  generalize bO [x1, x2] = wl at *
  generalize (N : Int) - 1 - d = z at *
  generalize z - 1 = z' at *
  have fx := aMP aKt <| aMP g1 <| aMP q2 <| aMP q3 <| aMP l0 <| aMP bs1 <| aMP bs2 <| aMP br <| aMP a1 <| s1
  refine gE ?_
  exact ih
theorem aEG {H : aB} {b n : Nat} {l : List Nat} (hb : H[b]? = some ⟨30, 1, bU l⟩) (hl : l.length = n) {i : Nat} (h : i < n) : aF G false 1 (.ptr b n i 0) H = some (Un (l.getD i 0)) := by
 unfold aF
 simp only [hb, eF, hl, if_true, jO l i (by omega)]
 rfl
theorem aIF {H : aB} {b n : Nat} {l : List Nat} (hb : H[b]? = some ⟨30, 1, bU l⟩) (hl : l.length = n) {i : Nat} (h : i < n) (x : Nat) : fM (aV 1 (.ptr b n i 0) (Un x) H) = some (.tup [], H.set b ⟨30, 1, bU (l.set i x)⟩) := by
 have e : aV 1 (.ptr b n i 0) (Un x) H = some (H.set b ⟨30, 1, bU (l.set i x)⟩) := by
  unfold aV
  simp only [hb, eF, hl]
  rw [if_pos ⟨trivial, rfl, rfl⟩]
  simp only [jO l i (by omega)]
  rw [if_pos (by show 0 + 1 ≤ 1; omega)]
  have : kJ (Un (l.getD i 0)) (kI (Un (l.getD i 0)).cells 0 (Un x).cells) = Un x := rfl
  rw [this, ← tH]
 rw [e]; rfl
def kN (cs : List WI) (w : List Nat) : aB := lL m N cs [⟨30, 1, []⟩, ⟨30, 1, bU w⟩]
theorem aMa (w : List Nat) : Pl [⟨30, 1, []⟩, ⟨30, 1, bU w⟩] := fun n => by simp [dB, bX, gS]
theorem pW (cs : List WI) (w : List Nat) (xs : List AV) (hx : bX 5 xs = true) : fE 5 xs (kN m N cs w) = some (kN m N cs w) := rT m N cs [⟨30, 1, []⟩, ⟨30, 1, bU w⟩] [] (aMa w) xs hx
theorem aCU (cs : List WI) (hm : m.length = 60) : ∀ (d j f : Nat), j + d = 60 → d < f →
  cQ (aX.l3 G k 5 self) f [.sl 0 60 0 60 1, .sl 4 j 0 j 1, Nn j] (kN m N cs (m.take j)) = some (.exit 0, [.sl 0 60 0 60 1, .sl 4 60 0 60 1, Nn 60], kN m N cs m)
 | d, j, 0, _, h => by omega
 | 0, j, f + 1, hd, hf => by
  have hj : j = 60 := by omega
  subst hj
  have e : m.take 60 = m := List.take_of_length_le (by omega)
  rw [e]
  have hc := pW m N cs m [.sl 0 60 0 60 1, .sl 4 60 0 60 1, Nn 60] (by simp [bX, bW])
  have lc : dN (.sl 0 60 0 60 1) = some (Nn 60) := rfl
  have g1 : aU Tryd.prog .lss 3 false (Nn 60) (Nn 60) = some (.bool false) := fO (by omega)
  rw [aY, aX.l3]
  refine fG ?_
  refine eC hc ?_
  have fx := aMP lc <| g1
  refine gE ?_
  refine fP ?_; rfl
 | d + 1, j, f + 1, hd, hf => by
  have hc := pW m N cs (m.take j) [.sl 0 60 0 60 1, .sl 4 j 0 j 1, Nn j] (by simp [bX, bW])
  have lc : dN (.sl 0 60 0 60 1) = some (Nn 60) := rfl
  have g1 : aU Tryd.prog .lss 3 false (Nn j) (Nn 60) = some (.bool true) := fV (by omega)
  have q2 : aU Tryd.prog .add 3 true (Nn j) (.int .i64 1) = some (Nn (j + 1 : Nat)) := jW (by omega)
  have d1 := wL 0 60 (show j < 60 by omega)
  have l1 : aF G false 1 (.ptr 0 60 j 0) (kN m N cs (m.take j)) = some (Un (m.getD j 0)) := aEG G (H := kN m N cs (m.take j)) rfl hm (by omega)
  have br : ∀ H, eQ 1 1 (.int .u64 0) [(0, Un (m.getD j 0))] H = some (.ro false [Un (m.getD j 0)], H) := fun H => rfl
  have a1 : eE 30 1 (.sl 4 j 0 j 1) (.ro false [Un (m.getD j 0)]) (kN m N cs (m.take j)) = some (.sl 4 (j + 1) 0 (j + 1) 1, kN m N cs (m.take (j + 1))) := by
   have e : (kN m N cs (m.take j))[4]? = some ⟨30, 1, bU (m.take j)⟩ := rfl
   have e1 : gB (.ro false [Un (m.getD j 0)]) (kN m N cs (m.take j)) = some [Un (m.getD j 0)] := rfl
   have hlj : (m.take j).length = j := by rw [List.length_take]; omega
   unfold eE
   simp only [e, e1, eF, hlj]
   rw [if_pos (by refine ⟨?_, ?_, ?_, ?_, ?_⟩ <;> first | trivial | rfl | (show j + 1 ≤ _; omega))]
   have e2 : (bU (m.take j)).take j = bU (m.take j) := List.take_of_length_le (by rw [eF, hlj]; exact Nat.le_refl _)
   have e3 : (bU (m.take j)).drop (j + [Un (m.getD j 0)].length) = [] := List.drop_of_length_le (by rw [eF, hlj]; exact Nat.le_add_right _ _)
   have e4 : bU (m.take j) ++ [Un (m.getD j 0)] = bU (m.take (j + 1)) := by
    rw [List.take_add_one, List.getElem?_eq_getElem (by omega), List.getD_eq_getElem?_getD, List.getElem?_eq_getElem (by omega)]
    simp only [Option.toList, Option.getD_some]
    unfold bU
    rw [List.map_append]; rfl
   rw [e2, e3, List.append_nil, e4, eF, show (m.take (j + 1)).length = j + 1 by rw [List.length_take]; omega]
   rfl
  have ih := aCU cs hm d (j + 1) f (by omega) (by omega)
  rw [aY, aX.l3]
  refine fG ?_
  refine eC hc ?_
  generalize m.getD j 0 = y at *
  generalize kN m N cs (m.take (j + 1)) = hx at *
  generalize kN m N cs (m.take j) = hy at *
  have fx := aMP lc <| aMP g1 <| aMP q2 <| aMP d1 <| aMP l1 <| aMP br <| a1
  refine gE ?_
  exact ih
theorem aIJ (cs : List WI) (hm : m.length = 60) (hk : 60 < k) : bB (aX.f G (k + 1)) [.sl 0 60 0 60 1] (lL m N cs []) = some (.sl 4 60 0 60 1, kN m N cs m) := by
 refine mN ?_ (by show 3 ≤ 5; decide)
 rw [aX.step]
 unfold aX.c
 have lc : dN (.sl 0 60 0 60 1) = some (Nn 60) := rfl
 have ms : dX 30 1 (.int .u64 0) (.int .i64 0) (Nn 60) (lL m N cs [] ++ [⟨30, 1, []⟩]) = some (.sl 4 0 0 0 1, kN m N cs []) := rfl
 have lp := aCU m N G k (aX.f G k) cs hm 60 0 k rfl hk
 replace lp : cQ (aX.l3 G k (kN m N cs []).length (aX.f G k)) k [.sl 0 60 0 60 1, .sl 4 0 0 0 1, .int .i64 0] (kN m N cs []) = some (.exit 0, [.sl 0 60 0 60 1, .sl 4 60 0 60 1, Nn 60], kN m N cs m) := lp
 generalize kN m N cs [] = h1 at *
 generalize kN m N cs m = h2 at *
 generalize lL m N cs [] = h0 at *
 refine gL ?_
 have fx := aMP lc <| ms
 have lx1 := lp
 refine gE ?_
 refine fP ?_; rfl
def xsZ (i s : Int) : List AV := [Nn N, Nn S, .bool true, .sl 0 60 0 60 1, .ptr 1 1 0 0, .int .u64 s, .sl 4 60 0 60 1, I6 i]
theorem zR (i s : Int) : bX 5 (xsZ N S i s) = true := by simp [xsZ, bX, bW]
theorem aLa (cs : List WI) (hN : N ≤ 60) (hm : m.length = 60) : ∀ (e d f : Nat), d + e = N → e < f →
  cQ (alembiclaw21_AllocMany.l24 G k 5 self) f (xsZ N S ((N : Int) - 1 - d) (wI m N d).1) (kN m N cs (wI m N d).2) = some (.exit 4, xsZ N S (-1) (wI m N N).1, kN m N cs (wI m N N).2)
 | e, d, 0, _, h => by omega
 | 0, d, f + 1, hd, hf => by
  have hj : d = N := by omega
  subst hj
  have ez : (d : Int) - 1 - d = -1 := by omega
  rw [ez]
  have hc := pW m d cs (wI m d d).2 _ (zR d S (-1) (wI m d d).1)
  have g1 : aU Tryd.prog .geq 3 true (I6 (-1)) (.int .i64 0) = some (.bool false) := vI (by omega)
  rw [aY, alembiclaw21_AllocMany.l24]
  refine fG ?_
  refine eC hc ?_
  unfold xsZ
  clear ez
  have fx := g1
  refine gE ?_
  refine fP ?_; rfl
 | e + 1, d, f + 1, hd, hf => by
  have hc := pW m N cs (wI m N d).2 _ (zR N S ((N : Int) - 1 - d) (wI m N d).1)
  have g1 : aU Tryd.prog .geq 3 true (I6 ((N : Int) - 1 - d)) (.int .i64 0) = some (.bool true) := vJ (by omega)
  have q2 := aGm (a := (N : Int) - 1 - d) (by omega) (by omega)
  have et : ((N : Int) - 1 - d).toNat = N - 1 - d := by omega
  have d1 := tT 0 60 (r := (N : Int) - 1 - d) ⟨by omega, by omega⟩
  have d2 := tT 4 60 (r := (N : Int) - 1 - d) ⟨by omega, by omega⟩
  rw [et] at d1 d2
  have l1 : aF G false 1 (.ptr 0 60 (N - 1 - d) 0) (kN m N cs (wI m N d).2) = some (Un (m.getD (N - 1 - d) 0)) := aEG G (H := kN m N cs (wI m N d).2) rfl hm (by omega)
  have q3 : aU Tryd.prog .add 30 false (Un (wI m N d).1) (Un (m.getD (N - 1 - d) 0)) = some (Un (((wI m N d).1 + m.getD (N - 1 - d) 0) % 18446744073709551616)) := vO _ _ _ _ _
  have q4 : aU Tryd.prog .mul 30 false (Un (m.getD (N - 1 - d) 0)) (Un (((wI m N d).1 + m.getD (N - 1 - d) 0) % 18446744073709551616)) = some (Un (m.getD (N - 1 - d) 0 * (((wI m N d).1 + m.getD (N - 1 - d) 0) % 18446744073709551616) % 18446744073709551616)) := vP _ _ _ _ _
  have s1 : fM (aV 1 (.ptr 4 60 (N - 1 - d) 0) (Un (m.getD (N - 1 - d) 0 * (((wI m N d).1 + m.getD (N - 1 - d) 0) % 18446744073709551616) % 18446744073709551616)) (kN m N cs (wI m N d).2)) = some (.tup [], kN m N cs (wI m N (d + 1)).2) := aIF (b := 4) (H := kN m N cs (wI m N d).2) rfl (by rw [qW]; exact hm) (by omega) _
  have ih := aLa cs hN hm e (d + 1) f (by omega) (by omega)
  have ez : (N : Int) - 1 - ((d + 1 : Nat) : Int) = (N : Int) - 1 - d - 1 := by omega
  have es : (wI m N (d + 1)).1 = ((wI m N d).1 + m.getD (N - 1 - d) 0) % 18446744073709551616 := rfl
  rw [ez, es] at ih
  rw [aY, alembiclaw21_AllocMany.l24]
  refine fG ?_
  refine eC hc ?_
  clear et ez es
  unfold xsZ at ih ⊢
  generalize m.getD (N - 1 - d) 0 * (((wI m N d).1 + m.getD (N - 1 - d) 0) % 18446744073709551616) % 18446744073709551616 = v2 at *
  generalize ((wI m N d).1 + m.getD (N - 1 - d) 0) % 18446744073709551616 = v1 at *
  generalize m.getD (N - 1 - d) 0 = v0 at *
  generalize (wI m N d).1 = vs at *
  generalize kN m N cs (wI m N (d + 1)).2 = hx2 at *
  generalize kN m N cs (wI m N d).2 = hx1 at *
  generalize N - 1 - d = ji at *
  generalize (N : Int) - 1 - d = z at *
  generalize z - 1 = z' at *
  have fx := aMP g1 <| aMP q2 <| aMP d1 <| aMP d2 <| aMP l1 <| aMP q3 <| aMP q4 <| s1
  refine gE ?_
  exact ih
def xsW (i : Int) : List AV := [Nn N, Nn S, .bool true, .sl 0 60 0 60 1, .ptr 1 1 0 0, .sl 4 60 0 60 1, I6 i]
theorem zQ (i : Int) : bX 5 (xsW N S i) = true := by simp [xsW, bX, bW]
theorem aLb (w : List Nat) (hN : N ≤ 60) : ∀ (d j f : Nat), j + d = N → d < f →
  cQ (alembiclaw21_AllocMany.l29 G k 5 self) f (xsW N S j) (kN m N (c3 N j) w) = some (.exit 6, xsW N S N, kN m N (c3 N N) w)
 | d, j, 0, _, h => by omega
 | 0, j, f + 1, hd, hf => by
  have hj : j = N := by omega
  subst hj
  have hc := pW m j (c3 j j) w _ (zQ j S j)
  have g1 : aU Tryd.prog .lss 3 false (Nn j) (Nn j) = some (.bool false) := fO (by omega)
  rw [aY, alembiclaw21_AllocMany.l29]
  refine fG ?_
  refine eC hc ?_
  unfold xsW
  have fx := g1
  refine gE ?_
  refine fP ?_; rfl
 | d + 1, j, f + 1, hd, hf => by
  have hc := pW m N (c3 N j) w _ (zQ N S j)
  have g1 : aU Tryd.prog .lss 3 false (Nn j) (Nn N) = some (.bool true) := fV (by omega)
  have q2 : aU Tryd.prog .add 3 true (Nn j) (.int .i64 1) = some (Nn (j + 1 : Nat)) := jW (by omega)
  have l0 : aF G false 1 (.ptr 1 1 0 0) (kN m N (c3 N j) w) = some (.sl 2 (c3 N j).length 0 (c3 N j).length 6) := rfl
  have bs : cU [(0, 1), (1, 1), (2, 1), (3, 1), (4, 1), (5, 1)] [(.int .i64 0), (.int .i64 0), (.int .i64 0), (.int .i64 0), (.int .i64 0), (.int .i64 0)] [(0, .int .i64 16), (2, Nn N), (3, Nn j), (5, Nn j)] = some (WI.v (stI N j)) := rfl
  have br : ∀ H, eQ 6 1 (.agg [(.int .i64 0), (.int .i64 0), (.int .i64 0), (.int .i64 0), (.int .i64 0), (.int .i64 0)]) [(0, WI.v (stI N j))] H = some (.ro false (bO [stI N j]), H) := fun H => rfl
  have a1 := aEL m N (c3 N j) [stI N j] [⟨30, 1, []⟩, ⟨30, 1, bU w⟩] (by rw [oQ]; show 3 * N + j + 1 ≤ _; omega)
  have s1 := aIN m N (c3 N j) [stI N j] [⟨30, 1, []⟩, ⟨30, 1, bU w⟩]
  have ih := aLb w hN d (j + 1) f (by omega) (by omega)
  have ec : c3 N (j + 1) = c3 N j ++ [stI N j] := rfl
  rw [ec] at ih
  rw [aY, alembiclaw21_AllocMany.l29]
  refine fG ?_
  refine eC hc ?_
  unfold xsW at ih ⊢
  unfold kN at ih hc l0 ⊢
  generalize (lL m N (c3 N j) [⟨30, 1, []⟩, ⟨30, 1, bU w⟩]).set 2 ⟨29, 6, bO (c3 N j ++ [stI N j])⟩ = hm at *
  generalize c3 N j ++ [stI N j] = c' at *
  generalize bO [stI N j] = wl at *
  have fx := aMP aKt <| aMP g1 <| aMP q2 <| aMP l0 <| aMP bs <| aMP br <| aMP a1 <| s1
  refine gE ?_
  exact ih
end
theorem aDk (mem : List Nat) (n : Nat) : qG (.sl 0 n 0 n 1) (.ro false (bU mem)) [⟨30, 1, bU (List.replicate n 0)⟩] = some (.int .i64 ((min mem.length n : Nat) : Int), [⟨30, 1, bU (gD mem n)⟩]) := by
 have e2 : gB (.ro false (bU mem)) [⟨30, 1, bU (List.replicate n 0)⟩] = some (bU mem) := rfl
 have e1 : ([⟨30, 1, bU (List.replicate n 0)⟩] : aB)[0]? = some ⟨30, 1, bU (List.replicate n 0)⟩ := rfl
 unfold qG
 simp only [e1, e2, eF, List.length_replicate, mJ]
 rw [if_pos (by refine ⟨trivial, trivial, ?_, trivial⟩; omega)]
 have e3 : (bU (List.replicate n 0)).take 0 ++ ((bU mem).take n ++ (bU (List.replicate n 0)).drop (0 + ((bU mem).take n).length)) = bU (gD mem n) := by
  unfold gD bU
  simp only [List.take_zero, List.nil_append, Nat.zero_add, List.map_append, List.map_take, List.map_replicate, List.length_take, List.length_map, List.drop_replicate]
  congr 2
  omega
 rw [e3]; rfl
end Go.Proofs.YtlkgkfgkiidhdaaDoor.Mir
namespace Go.Proofs.YtlkgkfgkiidhdaaDoor
open Go Go.Proofs.YtlkgkfgkiidhdaaDoor.Mir
set_option linter.unusedVariables false
set_option linter.unusedSimpArgs false
set_option maxHeartbeats 8000000
set_option maxRecDepth 20000
theorem yO {mem : List Nat} {n : Nat} (hmm : ∀ x ∈ mem, x < 18446744073709551616) : ∀ x ∈ gD mem n, x < 18446744073709551616 := fun x hx => by
 unfold gD at hx
 rcases List.mem_append.1 hx with hx | hx
 ·exact hmm x (List.mem_of_mem_take hx)
 ·rw [(List.mem_replicate.1 hx).2]; decide
theorem aGA (a b : Int) (ha : -9223372036854775808 ≤ a ∧ a < 9223372036854775808) (hb : -9223372036854775808 ≤ b ∧ b < 9223372036854775808) (mem : List Nat) (hmm : ∀ x ∈ mem, x < 18446744073709551616) :
  alembiclaw21_AllocMany.f GH 20001 [I6 a, I6 b, .ro false (bU mem)] [] = some (.bool true, []) := by
 have hG := aKH
 have plainU : ∀ l, gK (bU l) = true := fun l => qU _ (fun _ => rfl) l
 have rf : ∀ H, bF (cH.f GH 20000) [] H = _ := fun H => dO (H := H) (aIg GH 19850) rfl rfl
 have rn1 : ∀ H, bF (bJ.f GH 20000) [I6 a, .int .i64 50] H = _ := fun H => dO (H := H) (aGD GH 19999 a 50 (by omega) (by omega) ha.1 ha.2) rfl rfl
 have rn2 : ∀ H, bF (bJ.f GH 20000) [I6 b, .int .i64 23] H = _ := fun H => dO (H := H) (aGD GH 19999 b 23 (by omega) (by omega) hb.1 hb.2) rfl rfl
 obtain ⟨N, hN0, hN, hN2⟩ : ∃ N : Nat, a % 50 + 1 = (N : Int) ∧ 1 ≤ N ∧ N ≤ 50 := ⟨(a % 50 + 1).toNat, by omega, by omega, by omega⟩
 obtain ⟨S, hS0, hS⟩ : ∃ S : Nat, b % 23 + 6 = (S : Int) ∧ 6 ≤ S ∧ S ≤ 28 := ⟨(b % 23 + 6).toNat, by omega, by omega, by omega⟩
 have a1 : aU Tryd.prog .add 3 true (I6 (a % 50)) (.int .i64 1) = some (Nn N) := by
  rw [gG, dH (by omega) (by omega), hN0]
 have a2 : aU Tryd.prog .add 3 true (I6 (b % 23)) (.int .i64 6) = some (Nn S) := by
  rw [gG, dH (by omega) (by omega), hS0]
 have lm : dN (.ro false (bU mem)) = some (Nn mem.length) := by simp [dN, eF]
 rw [alembiclaw21_AllocMany.step]
 unfold alembiclaw21_AllocMany.c
 refine gL ?_
 clear ha hb hN0 hS0
 generalize a % 50 = a50 at *
 generalize b % 23 = b23 at *
 by_cases hl : 60 < mem.length
 ·have g1 : aU Tryd.prog .gtr 3 true (Nn mem.length) (.int .i64 60) = some (.bool true) := mR (by omega)
  generalize bU mem = NM at *
  have fx := aMP rf <| aMP rn1 <| aMP rn2 <| aMP a1 <| aMP a2 <| aMP lm <| g1
  refine gE ?_
  exact w1b rfl
 have g1 : aU Tryd.prog .gtr 3 true (Nn mem.length) (.int .i64 60) = some (.bool false) := iP (by omega)
 obtain ⟨m, hm⟩ : ∃ m, m = gD mem 60 := ⟨_, rfl⟩
 have hml : m.length = 60 := by rw [hm]; exact pU _ _ (by omega)
 have hmlt : ∀ x ∈ m, x < 18446744073709551616 := by rw [hm]; exact yO hmm
 have m1 : dX 30 1 (.int .u64 0) (.int .i64 60) (.int .i64 60) [] = some (.sl 0 60 0 60 1, [⟨30, 1, bU (List.replicate 60 0)⟩]) := rfl
 have cp := aDk mem 60
 rw [← hm] at cp
 have bx : fW 27 (.agg [.nils, .int .i64 0, .int .i64 0]) [⟨30, 1, bU m⟩] = some (.ptr 1 1 0 0, [⟨30, 1, bU m⟩, ⟨27, 3, [zC]⟩]) := rfl
 have a3 : aU Tryd.prog .add 3 true (Nn N) (.int .i64 2) = some (Nn (N + 2 : Nat)) := lV (b := 2) (by omega)
 have f0 : aA 0 (.ptr 1 1 0 0) = some (.ptr 1 1 0 0) := rfl
 have f1 : aA 1 (.ptr 1 1 0 0) = some (.ptr 1 1 0 1) := rfl
 have f2 : aA 2 (.ptr 1 1 0 0) = some (.ptr 1 1 0 2) := rfl
 have s1 : fM (aV 1 (.ptr 1 1 0 1) (Nn (N + 2 : Nat)) [⟨30, 1, bU m⟩, ⟨27, 3, [zC]⟩]) = some (.tup [], [⟨30, 1, bU m⟩, ⟨27, 3, [.agg [.nils, Nn (N + 2 : Nat), .int .i64 0]]⟩]) := rfl
 have s2 : fM (aV 1 (.ptr 1 1 0 2) (.int .i64 60) [⟨30, 1, bU m⟩, ⟨27, 3, [.agg [.nils, Nn (N + 2 : Nat), .int .i64 0]]⟩]) = some (.tup [], [⟨30, 1, bU m⟩, ⟨27, 3, [.agg [.nils, Nn (N + 2 : Nat), .int .i64 60]]⟩]) := rfl
 have v1 : mD (.ptr 1 1 0 0, 0, 29, 6) [⟨30, 1, bU m⟩, ⟨27, 3, [.agg [.nils, Nn (N + 2 : Nat), .int .i64 60]]⟩] = lL m N (c1 N 0) [] := rfl
 have lp1 := aKX m N S GH 20000 (alembiclaw21_AllocMany.f GH 20000) (by omega) N 0 20000 [] (by omega) (by omega)
 replace lp1 : cQ (alembiclaw21_AllocMany.l14 GH 20000 (lL m N (c1 N 0) []).length (alembiclaw21_AllocMany.f GH 20000)) 20000 [Nn N, Nn S, .bool true, .sl 0 60 0 60 1, .ptr 1 1 0 0, .int .i64 0] (lL m N (c1 N 0) []) = some (.exit 0, [Nn N, Nn S, .bool true, .sl 0 60 0 60 1, .ptr 1 1 0 0, Nn N], lL m N (c1 N N) []) := lp1
 have a4 := aGm (a := (N : Int)) (by omega) (by omega)
 have v2 : mD (.ptr 1 1 0 0, 0, 29, 6) (lL m N (c1 N N) []) = lL m N (c2 N 0) [] := by
  show mD _ (lL m N (c1 N N) []) = lL m N (c1 N N) []
  rfl
 have lp2 := aKZ m N S GH 20000 (alembiclaw21_AllocMany.f GH 20000) (by omega) N 0 20000 [] (by omega) (by omega)
 rw [show (N : Int) - 1 - ((0 : Nat) : Int) = (N : Int) - 1 by omega] at lp2
 replace lp2 : cQ (alembiclaw21_AllocMany.l18 GH 20000 (lL m N (c2 N 0) []).length (alembiclaw21_AllocMany.f GH 20000)) 20000 [Nn N, Nn S, .bool true, .sl 0 60 0 60 1, .ptr 1 1 0 0, I6 ((N : Int) - 1)] (lL m N (c2 N 0) []) = some (.exit 2, [Nn N, Nn S, .bool true, .sl 0 60 0 60 1, .ptr 1 1 0 0, I6 (-1)], lL m N (c2 N N) []) := lp2
 have wd := aIJ m N GH 19999 (c2 N N) hml (by omega)
 have v3 : mD (.ptr 1 1 0 0, 0, 29, 6) (kN m N (c2 N N) m) = kN m N (c2 N N) m := rfl
 have lp3 := aLa m N S GH 20000 (alembiclaw21_AllocMany.f GH 20000) (c2 N N) (by omega) hml N 0 20000 (by omega) (by omega)
 rw [show (N : Int) - 1 - ((0 : Nat) : Int) = (N : Int) - 1 by omega] at lp3
 obtain ⟨W, hW⟩ : ∃ W, W = (wI m N N).2 := ⟨_, rfl⟩
 obtain ⟨Z, hZ⟩ : ∃ Z, Z = (wI m N N).1 := ⟨_, rfl⟩
 have hWl : W.length = 60 := by rw [hW, qW]; exact hml
 rw [← hW, ← hZ] at lp3
 replace lp3 : cQ (alembiclaw21_AllocMany.l24 GH 20000 (kN m N (c2 N N) m).length (alembiclaw21_AllocMany.f GH 20000)) 20000 [Nn N, Nn S, .bool true, .sl 0 60 0 60 1, .ptr 1 1 0 0, .int .u64 0, .sl 4 60 0 60 1, I6 ((N : Int) - 1)] (kN m N (c2 N N) m) = some (.exit 4, [Nn N, Nn S, .bool true, .sl 0 60 0 60 1, .ptr 1 1 0 0, .int .u64 Z, .sl 4 60 0 60 1, I6 (-1)], kN m N (c2 N N) W) := lp3
 have v4 : mD (.ptr 1 1 0 0, 0, 29, 6) (kN m N (c2 N N) W) = kN m N (c3 N 0) W := by
  show mD _ (kN m N (c2 N N) W) = kN m N (c2 N N) W
  rfl
 have lp4 := aLb m N S GH 20000 (alembiclaw21_AllocMany.f GH 20000) W (by omega) N 0 20000 (by omega) (by omega)
 replace lp4 : cQ (alembiclaw21_AllocMany.l29 GH 20000 (kN m N (c3 N 0) W).length (alembiclaw21_AllocMany.f GH 20000)) 20000 [Nn N, Nn S, .bool true, .sl 0 60 0 60 1, .ptr 1 1 0 0, .sl 4 60 0 60 1, .int .i64 0] (kN m N (c3 N 0) W) = some (.exit 6, [Nn N, Nn S, .bool true, .sl 0 60 0 60 1, .ptr 1 1 0 0, .sl 4 60 0 60 1, Nn N], kN m N (c3 N N) W) := lp4
 have l1 : aF GH false 1 (.ptr 1 1 0 0) (kN m N (c3 N N) W) = some (.sl 2 (c3 N N).length 0 (c3 N N).length 6) := rfl
 have bs : cU [(0, 1), (1, 1), (2, 1), (3, 1), (4, 1), (5, 1)] [(.int .i64 0), (.int .i64 0), (.int .i64 0), (.int .i64 0), (.int .i64 0), (.int .i64 0)] [(0, .int .i64 20)] = some (WI.v ⟨20, 0, 0, 0, 0, 0⟩) := rfl
 have br : ∀ H, eQ 6 1 (.agg [(.int .i64 0), (.int .i64 0), (.int .i64 0), (.int .i64 0), (.int .i64 0), (.int .i64 0)]) [(0, WI.v ⟨20, 0, 0, 0, 0, 0⟩)] H = some (.ro false (bO [⟨20, 0, 0, 0, 0, 0⟩]), H) := fun H => rfl
 have ap := aEL m N (c3 N N) [⟨20, 0, 0, 0, 0, 0⟩] [⟨30, 1, []⟩, ⟨30, 1, bU W⟩] (by rw [oQ]; show 3 * N + N + 1 ≤ _; omega)
 have s3 := aIN m N (c3 N N) [⟨20, 0, 0, 0, 0, 0⟩] [⟨30, 1, []⟩, ⟨30, 1, bU W⟩]
 have ecy : c3 N N ++ [⟨20, 0, 0, 0, 0, 0⟩] = cY N := rfl
 rw [ecy] at ap s3
 have hcl := aFW N
 rw [hcl] at ap s3
 obtain ⟨HH, hHH⟩ : ∃ HH, HH = kN m N (cY N) W := ⟨_, rfl⟩
 replace s3 : fM (aV 1 (.ptr 1 1 0 0) (.sl 2 (4 * N + 1) 0 (4 * N + 1) 6) ((kN m N (c3 N N) W).set 2 ⟨29, 6, bO (cY N)⟩)) = some (.tup [], HH) := by rw [hHH]; exact s3
 replace ap : eE 29 6 (.sl 2 (c3 N N).length 0 (c3 N N).length 6) (.ro false (bO [⟨20, 0, 0, 0, 0, 0⟩])) (kN m N (c3 N N) W) = some (.sl 2 (4 * N + 1) 0 (4 * N + 1) 6, (kN m N (c3 N N) W).set 2 ⟨29, 6, bO (cY N)⟩) := ap
 obtain ⟨CV, hCV⟩ : ∃ CV : AV, CV = .agg [.sl 2 (4 * N + 1) 0 (4 * N + 1) 6, Nn (N + 2), .int .i64 60] := ⟨_, rfl⟩
 have ebx : bxY N (cY N) = CV := by unfold bxY; rw [hcl, hCV]
 have l2 : aF GH true 3 (.ptr 1 1 0 0) HH = some CV := by
  rw [hHH, ← ebx]; rfl
 obtain ⟨ot, R2, M2, al, hR2, hv2, hge, hle, hol, hrun⟩ := aEM GH hG true (cY N) (N + 2) 60 S (okY hN (by omega)) (by omega) (by omega) (by omega) hS
 have sn : mA HH [CV, Nn S] = some [cV true (cY N) ((N + 2 : Nat) : Int) 60, Nn S] := by
  refine pZ ?_ (pZ rfl aBd)
  have e1 : pL HH (.sl 2 (4 * N + 1) 0 (4 * N + 1) 6) = some (.ro true (bO (cY N))) := by
   refine aFy (ty := 29) (xs := bO (cY N)) (by rw [hHH]; rfl) (by rw [fC]; exact hcl) (rE _) (aDC _)
  rw [hCV]
  show (iY HH [.sl 2 (4 * N + 1) 0 (4 * N + 1) 6, Nn (N + 2), .int .i64 60]).map AV.agg = _
  simp only [iY, e1]
  rfl
 have rr : bF (cC.f GH 20000) [CV, Nn S] HH = some (.tup [cV false ot R2 M2, .nili], HH) := pG sn al (by simp [gI, iM, aFX, cV])
 have hH5 : HH.length = 5 := by rw [hHH]; rfl
 have bx2 : fW 27 (.agg [.nils, .int .i64 0, .int .i64 0]) HH = some (.ptr 5 1 0 0, HH ++ [⟨27, 3, [zC]⟩]) := by rw [hHH]; rfl
 have s4 : fM (aV 3 (.ptr 5 1 0 0) (cV false ot R2 M2) (HH ++ [⟨27, 3, [zC]⟩])) = some (.tup [], HH ++ [⟨27, 3, [cV false ot R2 M2]⟩]) := by rw [hHH]; rfl
 have q4 : aU Tryd.prog .neq 33 true .nili .nili = some (.bool false) := by kernel_rfl
 have k1 : aA 1 (.ptr 5 1 0 0) = some (.ptr 5 1 0 1) := rfl
 have k2 : aA 2 (.ptr 5 1 0 0) = some (.ptr 5 1 0 2) := rfl
 have y1 : aF GH false 1 (.ptr 5 1 0 1) (HH ++ [⟨27, 3, [cV false ot R2 M2]⟩]) = some (Nn R2) := by rw [hHH]; rfl
 have y2 : aF GH false 1 (.ptr 5 1 0 2) (HH ++ [⟨27, 3, [cV false ot R2 M2]⟩]) = some (Nn M2) := by rw [hHH]; rfl
 have y3 : aF GH true 3 (.ptr 5 1 0 0) (HH ++ [⟨27, 3, [cV false ot R2 M2]⟩]) = some (cV false ot R2 M2) := by rw [hHH]; rfl
 have c1_ : aU Tryd.prog .gtr 3 false (Nn R2) (Nn S) = some (.bool false) := iP (by omega)
 have c2_ : aU Tryd.prog .lss 3 true (Nn M2) (.int .i64 60) = some (.bool false) := fO (by omega)
 have c3_ : aU Tryd.prog .add 3 true (.int .i64 60) (Nn (N + 2)) = some (Nn (60 + (N + 2) : Nat)) := lV (a := 60) (by omega)
 have c4_ : aU Tryd.prog .gtr 3 false (Nn M2) (Nn (60 + (N + 2) : Nat)) = some (.bool false) := iP (by omega)
 have lR : aF GH false 1 (.ptr 1 1 0 1) (HH ++ [⟨27, 3, [cV false ot R2 M2]⟩]) = some (Nn (N + 2)) := by rw [hHH]; rfl
 have lI : aF GH false 1 (.ptr 1 1 0 0) (HH ++ [⟨27, 3, [cV false ot R2 M2]⟩]) = some (.sl 2 (4 * N + 1) 0 (4 * N + 1) 6) := by
  rw [hHH]
  show some (AV.sl 2 (cY N).length 0 (cY N).length 6) = _
  rw [hcl]
 have ln : dN (.sl 2 (4 * N + 1) 0 (4 * N + 1) 6) = some (Nn (4 * N + 1)) := rfl
 have m8 : aU Tryd.prog .mul 3 true (.int .i64 8) (Nn (4 * N + 1)) = some (I6 (8 * (4 * (N : Int) + 1))) := by
  rw [uZ, dH (by push_cast; omega) (by push_cast; omega)]; congr 2
 have p64 : aU Tryd.prog .add 3 true (I6 (8 * (4 * (N : Int) + 1))) (.int .i64 64) = some (I6 (8 * (4 * (N : Int) + 1) + 64)) := by
  rw [gG, dH (by omega) (by omega)]
 have ro' : ∀ H, bF (bR.f GH 20000) [cV false ot R2 M2] H = _ := fun H => dO (H := H) (aDB GH 19999 ot R2 M2) (by simp [gK, rJ]) (by simp [gI, iM, aFX, cV])
 have sg : mA (HH ++ [⟨27, 3, [cV false ot R2 M2]⟩]) [.sl 0 60 0 60 1, Nn M2] = some [.ro true (bU m), Nn M2] := by
  refine pZ ?_ (pZ rfl aBd)
  exact aCN (ty := 30) (xs := bU m) (by rw [hHH]; rfl) (by rw [eF]; exact hml) (mJ _) (plainU _)
 have rg : bF (bQ.f GH 20000) [.sl 0 60 0 60 1, Nn M2] (HH ++ [⟨27, 3, [cV false ot R2 M2]⟩]) = some (.ro false (bU (gD m M2)), HH ++ [⟨27, 3, [cV false ot R2 M2]⟩]) := pG sg (aDq GH 19999 true m M2 (by omega)) (by simp [gI, aFY])
 obtain ⟨q, hq1, hq2, hq3⟩ := aMi (N := N) (m := m) (by omega) hml 0
 obtain ⟨Q, e1, e2, e3, e4⟩ := hrun (4 * (N : Int) + 1) (8 * (4 * (N : Int) + 1) + 64) (0 + (4 * N + 1)) m q (by omega) (by omega) (by omega) (by omega) hml hmlt hq1 (by rw [hq2]; decide)
 rw [hq2] at e2
 rw [hq3, ← hW] at e3
 have hok3 := xJ hv2
 rw [Int.toNat_natCast] at hok3
 have hgl : (gD m M2).length = M2 := pU _ _ (by omega)
 have rrun : ∀ H, bF (bK.f GH 20000) [cV false ot R2 M2, .nils, .ro false (bU (gD m M2)), I6 (8 * (4 * (N : Int) + 1) + 64)] H = _ := fun H => dO (H := H) (aFu GH 19996 (8 * (4 * (N : Int) + 1) + 64) false ot R2 M2 (gD m M2) false (by omega) (yO hmlt) (by omega) (by omega) (by omega) (by omega) (by omega) hok3 (by omega) Q e1) (by simp [gK, rJ, bZ, plainU]) (aBm Q (-1))
 obtain ⟨HD, hHD⟩ : ∃ HD, HD = HH ++ [⟨27, 3, [cV false ot R2 M2]⟩] := ⟨_, rfl⟩
 have bx3 : fW 38 (.agg [.int .i64 0, .nils, .nils, .int .i64 0, .int .i64 0]) HD = some (.ptr 6 1 0 0, HD ++ [aBl]) := by rw [hHD, hHH]; rfl
 have s5 : fM (aV 5 (.ptr 6 1 0 0) (mE Q (-1)) (HD ++ [aBl])) = some (.tup [], HD ++ [⟨38, 5, [mE Q (-1)]⟩]) := by rw [hHD, hHH]; rfl
 have k60 : aA 0 (.ptr 6 1 0 0) = some (.ptr 6 1 0 0) := rfl
 have k61 : aA 1 (.ptr 6 1 0 0) = some (.ptr 6 1 0 1) := rfl
 have z0 : aF GH false 1 (.ptr 6 1 0 0) (HD ++ [⟨38, 5, [mE Q (-1)]⟩]) = some (I6 Q.code) := by rw [hHD, hHH]; rfl
 have z1 : aF GH false 1 (.ptr 6 1 0 1) (HD ++ [⟨38, 5, [mE Q (-1)]⟩]) = some (.ro false (bU Q.mem)) := by rw [hHD, hHH]; rfl
 rw [e2] at z0
 have q6 : aU Tryd.prog .eql 3 true (I6 0) (.int .i64 0) = some (.bool true) := mQ rfl
 have sl : iQ 1 (.ro false (bU Q.mem)) none (some (.int .i64 60)) = some (.ro false (bU W)) := by
  have h60 : ∀ n : Nat, jA n (some (.int .i64 60)) = some 60 := fun n => rfl
  rw [← e3]
  simp only [iQ, vA, h60, eF]
  rw [if_pos ⟨Nat.zero_le _, by omega, mJ _⟩]
  unfold bU
  simp [List.map_take]
 have ss : mA (HD ++ [⟨38, 5, [mE Q (-1)]⟩]) [.ro false (bU W), .sl 4 60 0 60 1] = some [.ro false (bU W), .ro true (bU W)] := by
  refine pZ ?_ (pZ ?_ aBd)
  ·show (if bZ (.ro false (bU W)) = true then _ else _) = _
   rw [if_pos (by simp [bZ, plainU])]
  ·exact aCN (ty := 30) (xs := bU W) (by rw [hHD, hHH]; rfl) (by rw [eF]; exact hWl) (mJ _) (plainU _)
 have rs := pG ss (tQ GH 19999 false true W (by omega) (by omega)) rfl
 rw [← hHD] at s4 y1 y2 y3 lR lI rg
 have ez : (0 : Nat) = 0 := rfl
 clear sg ss sn hrun hok3 e1 e2 e3 e4 hHD hHH ebx hCV al hmlt hml hWl hW hZ hm hv2 hq1 hq2 hq3 hgl hcl ecy hG hmm
 generalize cV false ot R2 M2 = D at *
 generalize bU mem = NM at *
 generalize bU (gD m M2) = NG at *
 generalize bU W = NW at *
 generalize mE Q (-1) = EQ at *
 generalize (kN m N (c3 N N) W).set 2 ⟨29, 6, bO (cY N)⟩ = HS at *
 generalize bO [⟨20, 0, 0, 0, 0, 0⟩] = WL at *
 generalize WI.v ⟨20, 0, 0, 0, 0, 0⟩ = WV at *
 generalize kN m N (c3 N N) W = HC3 at *
 generalize kN m N (c3 N 0) W = HC2 at *
 generalize kN m N (c2 N N) W = HC2b at *
 generalize kN m N (c2 N N) m = HC2a at *
 generalize lL m N (c2 N N) [] = HY2 at *
 generalize lL m N (c2 N 0) [] = HY20 at *
 generalize lL m N (c1 N N) [] = HY1 at *
 generalize lL m N (c1 N 0) [] = HY0 at *
 generalize 8 * (4 * (N : Int) + 1) = f8 at *
 generalize f8 + 64 = f64 at *
 generalize 60 + (N + 2) = n60 at *
 generalize N + 2 = n2 at *
 generalize 4 * N + 1 = n4 at *
 generalize (c3 N N).length = n3 at *
 generalize (N : Int) - 1 = nm at *
 have fx := aMP rf <| aMP rn1 <| aMP rn2 <| aMP a1 <| aMP a2 <| aMP lm <| aMP g1 <| aMP m1 <| aMP cp <| aMP bx <| aMP a3 <| aMP f0 <| aMP f1 <| aMP f2 <| aMP s1 <| s2
 refine gE ?_
 refine eV1 v1 ?_
 refine eV0 ?_
 refine eK ?_
 refine eL lp1 ?_
 have fx := a4
 refine gE ?_
 refine eV1 v2 ?_
 refine eV0 ?_
 refine eK ?_
 refine eL lp2 ?_
 have fx := aMP wd <| a4
 refine gE ?_
 refine eV1 v3 ?_
 refine eV0 ?_
 refine eK ?_
 refine eL lp3 ?_
 have fx := True.intro
 refine gE ?_
 refine eV1 v4 ?_
 refine eV0 ?_
 refine eK ?_
 refine eL lp4 ?_
 have fx := aMP f0 <| aMP f1 <| aMP l1 <| aMP bs <| aMP br <| aMP ap <| aMP s3 <| aMP l2 <| aMP rr <| aMP bx2 <| aMP s4 <| aMP q4 <| aMP k1 <| aMP k2 <| aMP y1 <| aMP y2 <| aMP y3 <| aMP c1_ <| aMP c2_ <| aMP c3_ <| aMP c4_ <| aMP lR <| aMP lI <| aMP ln <| aMP m8 <| aMP p64 <| aMP ro' <| aMP rg <| aMP rrun <| aMP bx3 <| aMP s5 <| aMP k60 <| aMP k61 <| aMP z0 <| aMP z1 <| aMP q6 <| aMP sl <| rs
 refine gE ?_
 exact w1b rfl
theorem LAllocMany.law (xs : List AV) (h : IsTs Tryd.prog [3, 3, 22] xs) : ∃ k, alembiclaw21_AllocMany.f (zH 179 [0, 2, 1, 4, 3, 5]) k xs [] = some (.bool true, []) := by
 obtain ⟨x1, _, rfl, hx1, h⟩ := h.uncons
 obtain ⟨x2, _, rfl, hx2, h⟩ := h.uncons
 obtain ⟨x3, _, rfl, hx3, h⟩ := h.uncons
 obtain rfl := h.unnil
 obtain ⟨a, rfl, ha⟩ := hx1.of_int (k := .i64) Tryd.underlying3
 obtain ⟨b, rfl, hb⟩ := hx2.of_int (k := .i64) Tryd.underlying3
 obtain ⟨mem, rfl, hm⟩ := aGE Tryd.underlying22 Tryd.underlying30 hx3
 exact ⟨20001, aGA a b (aHP ha) (aHP hb) mem hm⟩
end Go.Proofs.YtlkgkfgkiidhdaaDoor
namespace Go.Proofs.YtlkgkfgkiidhdaaDoor
open Go Go.ChangeShapes Go.WideShapes Go.RowKit Mir
set_option linter.unusedVariables false
set_option linter.unusedSimpArgs false
namespace RAllocMany
noncomputable def yU (os : Os) : World :=
 let w0 := World.holding Tryd.prog os ⟨#[.cells #[.string ⟨#[97, 32, 110, 117, 109, 98, 101, 114, 32, 111, 117, 116, 32, 111, 102, 32, 105, 116, 115, 32, 114, 97, 110, 103, 101]⟩] 196, .cells #[.string ⟨#[110, 111, 116, 32, 97, 115, 32, 108, 111, 110, 103, 32, 97, 115, 32, 105, 116, 32, 104, 97, 115, 32, 116, 111, 32, 98, 101]⟩] 196, .cells #[.string ⟨#[116, 111, 111, 32, 109, 97, 110, 121]⟩] 196, .cells #[.string ⟨#[110, 111, 116, 32, 97, 115, 32, 105, 116, 32, 104, 97, 115, 32, 116, 111, 32, 98, 101]⟩] 196, .cells #[.string ⟨#[110, 111, 32, 115, 117, 99, 104, 32, 116, 104, 105, 110, 103, 32, 116, 111, 32, 100, 111]⟩] 196, .cells #[.string ⟨#[110, 111, 32, 115, 117, 99, 104, 32, 112, 108, 97, 99, 101]⟩] 196], #[], []⟩
 {w0 with heap := w0.heap
  |>.modify 0 (fun
   | .cells _ t frozen => .cells #[.iface 179 (.pointer (some ⟨Rk.low, 0, none⟩))] t frozen
   | o => o)
  |>.modify 2 (fun
   | .cells _ t frozen => .cells #[.iface 179 (.pointer (some ⟨Rk.low + 1, 0, none⟩))] t frozen
   | o => o)
  |>.modify 1 (fun
   | .cells _ t frozen => .cells #[.iface 179 (.pointer (some ⟨Rk.low + 2, 0, none⟩))] t frozen
   | o => o)
  |>.modify 4 (fun
   | .cells _ t frozen => .cells #[.iface 179 (.pointer (some ⟨Rk.low + 3, 0, none⟩))] t frozen
   | o => o)
  |>.modify 3 (fun
   | .cells _ t frozen => .cells #[.iface 179 (.pointer (some ⟨Rk.low + 4, 0, none⟩))] t frozen
   | o => o)
  |>.modify 5 (fun
   | .cells _ t frozen => .cells #[.iface 179 (.pointer (some ⟨Rk.low + 5, 0, none⟩))] t frozen
   | o => o) }
theorem xW (os : Os) (args : Array Value) : laidMetH Tryd.prog ([("alembic/api.ErrRange", Rows.laid_alembic_api_ErrRange), ("alembic/api.ErrLength", Rows.laid_alembic_api_ErrLength), ("alembic/api.ErrMany", Rows.laid_alembic_api_ErrMany), ("alembic/api.ErrShape", Rows.laid_alembic_api_ErrShape), ("alembic/api.ErrOp", Rows.laid_alembic_api_ErrOp), ("alembic/api.ErrLabel", Rows.laid_alembic_api_ErrLabel)] : List (String × DataW Unit)) ((yU os).forCall (fun _ _ => 0) ⟨#[], args, []⟩).memory :=
 laidMet_of_run (ps := [.cell 0 0, .cell (Rk.low) 0, .cell 2 0, .cell (Rk.low + 1) 0, .cell 1 0, .cell (Rk.low + 2) 0, .cell 4 0, .cell (Rk.low + 3) 0, .cell 3 0, .cell (Rk.low + 4) 0, .cell 5 0, .cell (Rk.low + 5) 0]) 8 (by kernel_rfl) (by kernel_rfl) (by kernel_rfl)
theorem aLv : aDT Tryd.prog 33 [("alembic/api.ErrRange", Rows.laid_alembic_api_ErrRange), ("alembic/api.ErrLength", Rows.laid_alembic_api_ErrLength), ("alembic/api.ErrMany", Rows.laid_alembic_api_ErrMany), ("alembic/api.ErrShape", Rows.laid_alembic_api_ErrShape), ("alembic/api.ErrOp", Rows.laid_alembic_api_ErrOp), ("alembic/api.ErrLabel", Rows.laid_alembic_api_ErrLabel)] [0, 2, 1, 4, 3, 5] := ⟨by kernel_rfl, by kernel_rfl, ⟨_, rfl⟩, by kernel_rfl, by kernel_rfl, ⟨_, rfl⟩, by kernel_rfl, by kernel_rfl, ⟨_, rfl⟩, by kernel_rfl, by kernel_rfl, ⟨_, rfl⟩, by kernel_rfl, by kernel_rfl, ⟨_, rfl⟩, by kernel_rfl, by kernel_rfl, ⟨_, rfl⟩, trivial⟩
theorem sent {W : World} (h : laidMetH Tryd.prog ([("alembic/api.ErrRange", Rows.laid_alembic_api_ErrRange), ("alembic/api.ErrLength", Rows.laid_alembic_api_ErrLength), ("alembic/api.ErrMany", Rows.laid_alembic_api_ErrMany), ("alembic/api.ErrShape", Rows.laid_alembic_api_ErrShape), ("alembic/api.ErrOp", Rows.laid_alembic_api_ErrOp), ("alembic/api.ErrLabel", Rows.laid_alembic_api_ErrLabel)] : List (String × DataW Unit)) W) : ∃ S, SentS W 179 [0, 2, 1, 4, 3, 5] S :=
 aBa Tryd.underlying33 Rk.row Tryd.underlying179 Tryd.underlying196 rfl rfl Tryd.underlying9 (by kernel_rfl) (by kernel_rfl) aLv (by decide) h
theorem aIt : ∀ t ∈ ([3, 22, 30] : List Nat), wT Tryd.prog [3, 22, 30] t = true := List.all_eq_true.1 (by kernel_rfl)
set_option maxRecDepth 100000 in
theorem aJU (os : Os) (started : os.Started) (H : Type) (enc : TypeId × Value → H) :
  ReturnsInHanded {} Tryd.checked os 3 .any (fun w args => (Rows.allocManySpec.pre enc Tryd.prog Tryd.f3 [] false w args ∧ laidMetH Tryd.prog ([("alembic/api.ErrRange", Rows.laid_alembic_api_ErrRange), ("alembic/api.ErrLength", Rows.laid_alembic_api_ErrLength), ("alembic/api.ErrMany", Rows.laid_alembic_api_ErrMany), ("alembic/api.ErrShape", Rows.laid_alembic_api_ErrShape), ("alembic/api.ErrOp", Rows.laid_alembic_api_ErrOp), ("alembic/api.ErrLabel", Rows.laid_alembic_api_ErrLabel)] : List (String × DataW Unit)) w) ∧ sizedMet enc Tryd.prog Tryd.f3 (OpenSpec.ofChange Rows.allocManySpec) false w args)
   (Rows.allocManySpec.post enc Tryd.prog Tryd.f3 false true false false) := by
 refine returnsInHanded_of_change_and (C := Tryd.checked) (X := fun w _ => laidMetH Tryd.prog ([("alembic/api.ErrRange", Rows.laid_alembic_api_ErrRange), ("alembic/api.ErrLength", Rows.laid_alembic_api_ErrLength), ("alembic/api.ErrMany", Rows.laid_alembic_api_ErrMany), ("alembic/api.ErrShape", Rows.laid_alembic_api_ErrShape), ("alembic/api.ErrOp", Rows.laid_alembic_api_ErrOp), ("alembic/api.ErrLabel", Rows.laid_alembic_api_ErrLabel)] : List (String × DataW Unit)) w) (fun _ _ _ hh h => h.of_heap hh) Rk.own started (by kernel_rfl) Tryd.func3
  (ChangeSpec.witness_at (enc := enc) (C := Tryd.checked) (os := os) (X := fun w _ => laidMetH Tryd.prog ([("alembic/api.ErrRange", Rows.laid_alembic_api_ErrRange), ("alembic/api.ErrLength", Rows.laid_alembic_api_ErrLength), ("alembic/api.ErrMany", Rows.laid_alembic_api_ErrMany), ("alembic/api.ErrShape", Rows.laid_alembic_api_ErrShape), ("alembic/api.ErrOp", Rows.laid_alembic_api_ErrOp), ("alembic/api.ErrLabel", Rows.laid_alembic_api_ErrLabel)] : List (String × DataW Unit)) w) false (yU os) #[.int .i64 0, .int .i64 0, .slice none 0 0] 8 rfl (by kernel_rfl) (by kernel_rfl) (by kernel_rfl) (by kernel_rfl) (by kernel_rfl) (xW os _)) ?_
 intro W base args ds gs before hval0 hW _ _ hL _
 obtain ⟨S, hS⟩ := sent hL
 have hval : ∀ (j : Nat) t v, Tryd.f3.params.toList[j]? = some t → args.toList[j]? = some v → Value.okWide Tryd.prog W .any base t v := fun j t v h1 h2 => hval0 j t v (by simpa using h1) (by simpa using h2)
 have hW' := hW
 obtain ⟨p, q, hA, _, _, _, _⟩ := hW
 have hpar : Tryd.f3.params.toList = [3, 3, 22] := by rw [Tryd.params3]
 rw [hpar] at hval
 replace hA : DataW.TrodAll enc Tryd.prog W 0 (fun _ => true) true Tryd.f3.params.toList args.toList ds p := hA
 rw [hpar] at hA
 obtain ⟨xs, h1, h2⟩ := zE aIt (by decide) hval hA
 obtain ⟨k, hk⟩ := LAllocMany.law xs h1
 have hc := aER (Mir.alembiclaw21_AllocMany.sound (aCK _ _) k) hk (aGi hS) h2
 rw [Array.toArray_toList] at hc
 refine hc.mono fun e W' ⟨he, hb⟩ => ⟨_, he, ?_⟩
 exact aGM rfl hpar (by kernel_rfl) Tryd.underlying4 (fun ds hd => by
  obtain ⟨d0, d1, d2, rfl⟩ : ∃ d0 d1 d2, ds = [d0, d1, d2] := by
   match ds, hd with
   | [d0, d1, d2], _ => exact ⟨d0, d1, d2, rfl⟩
  rfl) Rk.laidOut (by kernel_rfl) hW' hb
theorem holds : Rows.AllocManySaid :=
 OpenClaim.holds_of_wide 3 Tryd.f3 rfl rfl rfl rfl rfl rfl rfl ⟨rfl, rfl, rfl, rfl, rfl⟩ rfl rfl rfl rfl rfl (by kernel_rfl) Tryd.func3 (by kernel_rfl)
  (of_decide_eq_true (by kernel_rfl)) (by unfold Func.isWrapper; first | (rw [if_pos (by decide +kernel)]; kernel_rfl) | (rw [if_neg (by decide +kernel)]; exact ⟨rfl, rfl⟩))
  (fun os started H enc _ => aJU os started H enc)
theorem cardHolds : Rows.AllocManyCardSaid :=
 Claim7.holds_tied_plain_at .later [] [.sentinel, .sentinel, .sentinel, .sentinel, .sentinel, .sentinel] true (true, "864f508a8b0e81602785229ebc0405c57cf7b6a36a11fb1b2a55f1a5fb117935") true
  holds (fun _ h => by cases h) (by kernel_rfl) (fun _ h => by cases h) allocMany_row_tie rfl ⟨rfl, rfl⟩ (by kernel_rfl) rfl
  (fun f fn hf hfn => by
   obtain rfl : f = 3 := Option.some.inj ((show Tryd.prog.funcNamed "alembic/alembiclaw21.AllocMany" = some 3 by kernel_rfl).symm.trans hf) |>.symm
   obtain rfl : fn = Tryd.f3 := (Option.some.inj (Tryd.func3.symm.trans hfn)).symm
   exact ⟨by kernel_rfl, fun j t ht => by
    have hm : t ∈ ([3, 3, 22] : List Nat) := by
     have := List.mem_of_getElem? (l := Tryd.f3.params.toList) (i := j) (by simpa using ht)
     rw [Tryd.params3] at this
     exact this
    have := List.all_eq_true.1 (show ([3, 3, 22] : List Nat).all (fun t => !Tryd.prog.wantsStandIn t) = true by kernel_rfl) t hm
    exact (by simpa using this : Tryd.prog.wantsStandIn t = false)⟩)
  (by kernel_rfl)
end RAllocMany
end Go.Proofs.YtlkgkfgkiidhdaaDoor
