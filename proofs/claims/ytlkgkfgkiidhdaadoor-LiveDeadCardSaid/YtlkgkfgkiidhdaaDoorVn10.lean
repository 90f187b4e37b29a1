/- Printed by rowgen.py: the row of LiveDead, out of its law in plain Lean. -/
import Derived.Test.YtlkgkfgkiidhdaaDoorVn9
import Derived.Test.YtlkgkfgkiidhdaaDoorTie
import Derived.Test.YtlkgkfgkiidhdaaDoorCards
import Derived.SevenTiedAt
namespace Go.Proofs.YtlkgkfgkiidhdaaDoor.Mir
open Go
set_option linter.unusedSimpArgs false
set_option linter.unusedVariables false
set_option maxHeartbeats 8000000
set_option maxRecDepth 20000
def tC (R : Nat) : WI := ⟨1, R, 0, 0, 0, 7⟩
def mS (R : Nat) : List Nat → List WI → List WI
 | [], cs => cs
 | i :: l, cs => mS R l (cs.set i (tC R))
theorem lO (R : Nat) : ∀ (l : List Nat) (cs : List WI), (mS R l cs).length = cs.length
 | [], cs => rfl
 | i :: l, cs => by rw [mS, lO R l]; simp
theorem yH (R : Nat) : ∀ (l : List Nat) (cs : List WI) (p : Nat), p < cs.length → (mS R l cs)[p]? = if p ∈ l then some (tC R) else cs[p]?
 | [], cs, p, h => by simp [mS]
 | i :: l, cs, p, h => by
  rw [mS, yH R l _ p (by simpa using h)]
  by_cases h1 : p ∈ l
  ·rw [if_pos h1, if_pos (List.mem_cons_of_mem _ h1)]
  ·rw [if_neg h1]
   by_cases h2 : i = p
   ·subst h2
    rw [List.getElem?_set_self h, if_pos (List.mem_cons_self ..)]
   ·rw [List.getElem?_set_ne h2, if_neg (fun e => by rcases List.mem_cons.1 e with e | e; exact h2 e.symm; exact h1 e)]
theorem aCA (R : Nat) : ∀ (l m : List Nat) (cs : List WI), mS R (l ++ m) cs = mS R m (mS R l cs)
 | [], m, cs => rfl
 | i :: l, m, cs => by show mS R (l ++ m) _ = _; rw [aCA R l m]; rfl
theorem aDd {ws : List WI} {R : Nat} {M : Int} {out : List (List Nat)} (hg : ∀ w ∈ ws, w.Good R ws.length) (hP : Part ws.length (pW ws) (kS ws) (wrN ws) R out) {p : Nat} {w : WI} (hw : ws[p]? = some w) (h : pH ws out p = true) : aFx ws (NdW ws) p w := by
 have hwd : ws.getD p default = w := by rw [List.getD_eq_getElem?_getD, hw]; rfl
 have hgw := hg w (List.mem_of_getElem? hw)
 unfold pH at h
 rw [hwd] at h
 simp only [Bool.and_eq_true, Bool.not_eq_true', decide_eq_false_iff_not] at h
 obtain ⟨⟨h1, h2⟩, h3⟩ := h
 have hop := hgw.ok2.ok.op
 have h15 : w.op ≤ 15 := by
  by_cases h16 : w.op ≤ 15
  ·exact h16
  ·rw [xJ (by omega)] at h1; cases h1
 refine ⟨by omega, fun hp hn => ?_⟩
 have hd := hgw.ok2.ok.d (by omega)
 have hm := (hP.mem (p + 1) hp w.d.toNat).2 ⟨by omega, hn⟩
 have hx : p + 1 ∈ kS ws p := ((iN ws p).2.2.2.2 (p + 1)).2 ⟨hp, by
  rw [hwd]
  unfold mW
  rw [if_neg (by omega), if_neg (by omega), if_neg (by omega)]
  simp⟩
 rw [List.any_eq_false] at h3
 have := h3 _ hx
 simp only [List.contains_iff_mem] at this
 exact this hm
theorem aDy {ws : List WI} {R : Nat} {M : Int} (l : List Nat) (h : fV ws R M = .ok) (hl : ws.length ≤ 60) (hR : R ≤ 40) : fV (mS R l ws) ((R + 1 : Nat) : Int) M = .ok := by
 have hb := (nN h).1
 have hn := aCK h
 refine aFr (by rw [lO]; omega) ⟨by omega, by omega⟩ ⟨hb.2.2.1, hb.2.2.2.1⟩ fun i hi => ?_
 rw [lO]
 have hi2 : i = tC R ∨ i ∈ ws := by
  obtain ⟨p, hp⟩ := List.mem_iff_getElem?.1 hi
  have hpl : p < ws.length := by
   have := (List.getElem?_eq_some_iff.1 hp).1
   rw [lO] at this; exact this
  rw [yH R l ws p hpl] at hp
  split at hp
  ·exact .inl (Option.some.inj hp).symm
  ·exact .inr (List.mem_of_getElem? hp)
 rcases hi2 with rfl | hw
 ·unfold gM tC
  have f1 : gT 1 = some ⟨true, false, false, false, true⟩ := rfl
  have f2 : eW 1 = ⟨true, false, false, false, true⟩ := rfl
  simp only [f1, f2]
  have o : qV ⟨true, false, false, false, true⟩ ⟨1, (R : Int), 0, 0, 0, 7⟩ ((R + 1 : Nat) : Int) = false := by
   simp only [qV, lY, Bool.true_and, Bool.false_and, Bool.or_false, Bool.or_eq_false_iff, decide_eq_false_iff_not]
   refine ⟨?_, ?_⟩ <;> omega
  rw [o]
  simp [vU]
 ·have h1 := hn i hw
  have mono : ∀ (b : Bool) (x : Int), lY b x R = false → lY b x ((R + 1 : Nat) : Int) = false := fun b x q => by
   unfold lY at q ⊢
   cases b
   ·rfl
   ·simp only [Bool.true_and, Bool.or_eq_false_iff, decide_eq_false_iff_not] at q ⊢
    refine ⟨q.1, ?_⟩
    omega
  unfold gM at h1 ⊢
  by_cases a1 : (gT i.op).isSome = false
  ·rw [if_pos a1] at h1; cases h1
  rw [if_neg a1] at h1 ⊢
  by_cases a2 : qV (eW i.op) i R = true
  ·rw [if_pos a2] at h1; cases h1
  rw [if_neg a2] at h1
  have a2' : qV (eW i.op) i ((R + 1 : Nat) : Int) = false := by
   rw [Bool.not_eq_true] at a2
   unfold qV at a2 ⊢
   simp only [Bool.or_eq_false_iff] at a2 ⊢
   exact ⟨⟨⟨mono _ _ a2.1.1.1, mono _ _ a2.1.1.2⟩, mono _ _ a2.1.2⟩, mono _ _ a2.2⟩
  rw [a2', if_neg (by decide)]
  exact h1
theorem aBQ {ws : List WI} {R : Nat} {M : Int} {out : List (List Nat)} (hv : fV ws R M = .ok) (hP : Part ws.length (pW ws) (kS ws) (wrN ws) R out) (mem : List Nat) (f1 f2 : Nat) (s t : MS)
  (h1 : kX ws 500 f1 (s0 R mem) = some s) (h2 : kX (mS R (iV ws out ws.length) ws) 500 f2 (s0 (R + 1) mem) = some t) : t.code = s.code ∧ t.mem = s.mem ∧ t.leaks = s.leaks := by
 have hgood := mG hv
 rw [Int.toNat_natCast] at hgood
 have hsr : SR ws (NdW ws) R (· + 0) (s0 R mem) (s0 (R + 1) mem) := by
  refine ⟨rfl, rfl, rfl, by simp [s0], by simp [s0], fun hlt x hx hn => ?_, by simp [s0]⟩
  simp only [s0, List.getD_eq_getElem?_getD, List.getElem?_replicate]
  rw [if_pos (by omega), if_pos hx]
 have hds : ∀ p w, ws[p]? = some w → (mS R (iV ws out ws.length) ws)[p + 0]? = some (mvW (· + 0) w) ∨ (true = true ∧ aFx ws (NdW ws) p w ∧ (mS R (iV ws out ws.length) ws)[p + 0]? = some ⟨1, R, 0, 0, 0, 7⟩) := fun p w hw => by
  have hpl : p < ws.length := (List.getElem?_eq_some_iff.1 hw).1
  rw [Nat.add_zero, yH R _ ws p hpl]
  by_cases hp : p ∈ iV ws out ws.length
  ·refine .inr ⟨rfl, ?_, by rw [if_pos hp]; rfl⟩
   refine aDd (M := M) hgood hP hw ?_
   unfold iV at hp
   exact (List.mem_filter.1 hp).2
  ·refine .inl ?_
   rw [if_neg hp, hw]
   unfold mvW
   by_cases hb : brW w
   ·rw [if_pos hb]
    unfold brW at hb
    have hk := (hgood w (List.mem_of_getElem? hw)).ok2.ok.k (by omega) (by omega)
    have e : ((w.k.toNat + 0 : Nat) : Int) = w.k := by omega
    simp only [e]
   ·rw [if_neg hb]
 obtain ⟨t', g1, g2, g3, g4, g5⟩ := yE (N := 0) (F := 500) (aJP hgood) hgood (by rw [lO]; rfl) true hds f1 _ _ s h1 hsr (by simp [s0]) (fun _ => by simp [s0])
 have m1 := uD _ _ _ _ _ g1 f2
 have m2 := uD _ _ _ _ _ h2 f1
 rw [show (500 : Int) + ((0 : Nat) : Int) = 500 by omega, show f1 + f2 = f2 + f1 by omega, m2] at m1
 obtain rfl := Option.some.inj m1
 exact ⟨g2, g3, g5 rfl rfl⟩
def bxL (n : Nat) (R M : Int) : AV := .agg [.sl 0 n 0 n 6, I6 R, I6 M]
def mN (R M : Int) (cs : List WI) (T : aA) : aA := ⟨29, 6, cF cs⟩ :: ⟨27, 3, [bxL cs.length R M]⟩ :: T
section
variable (R M : Int) (G : aE) (k : Nat) (self : cQ)
theorem aFQ (cs : List WI) (X : aA) (xs : List AV) (hx : aY 2 xs = true) : fD 2 xs (mN R M cs X) = some (mN R M cs []) := by
 have hb : bI 2 (mN R M cs []) = true := by simp [mN, bxL, bI, aY, aT, fK]
 unfold fD
 have e : (mN R M cs X).take 2 = mN R M cs [] := rfl
 rw [e, hx, hb]; rfl
theorem aKs (cs : List WI) (T : aA) (i : Nat) (x : WI) (h : i < cs.length) : gB (aV 6 (.ptr 0 cs.length i 0) x.v (mN R M cs T)) = some (.tup [], mN R M (cs.set i x) T) := by
 have e : (mN R M cs T)[0]? = some ⟨29, 6, cF cs⟩ := rfl
 have e1 : (cF cs)[i]? = some (cs[i].v) := by
  unfold cF
  rw [List.getElem?_map, List.getElem?_eq_getElem h]; rfl
 have e2 : cF (cs.set i x) = (cF cs).set i x.v := by unfold cF; rw [List.map_set]
 unfold aV
 simp only [e, gQ, e1]
 unfold mN
 rw [e2, List.length_set]
 rfl
theorem aJR {n i : Nat} (h : i < n) : aF 6 (.sl 0 n 0 n 6) (Nn i) = some (.ptr 0 n i 0) := by
 unfold aF
 simp only [Int.toNat_natCast, Nat.zero_add]
 rw [if_pos (by omega), if_pos trivial]
end
section
variable (G : aE) (k : Nat) (self : cQ) (ws : List WI) (R : Nat) (M : Int) (mem : List Nat) (D : List Nat)
def aBr (j : Nat) : List AV := [.ro false (dF mem), .rp false (cV false ws R M) 0, .bool false, .bool true, .ro false (bF D), .ptr 1 1 0 0, Nn j]
theorem aJN (hn : ws.length ≤ 1000) (hDl : D.length ≤ 1000) (hD : ∀ q ∈ D, q < ws.length) : ∀ (d j f : Nat) (X : aA), j + d = D.length → d < f →
  cM (alembiclaw20_LiveDead.l11 G k 2 self) f (aBr ws R M mem D j) (mN ((R + 1 : Nat) : Int) M (mS R (D.take j) ws) X) = some (.exit 0, aBr ws R M mem D D.length, mN ((R + 1 : Nat) : Int) M (mS R D ws) [])
 | d, j, 0, X, _, h => by omega
 | d, j, f + 1, X, hd, hf => by
  have hx : aY 2 (aBr ws R M mem D j) = true := by simp [aBr, aY, aT, cV, fK, iK, dX]
  have hc := aFQ ((R + 1 : Nat) : Int) M (mS R (D.take j) ws) X _ hx
  have ln : bE (.ro false (bF D)) = some (Nn D.length) := by simp [bE, dM]
  match d, hd, hf with
  | 0, hd, hf =>
   have e : j = D.length := by omega
   subst e
   have g1 : bA Tryd.prog .lss 3 false (Nn D.length) (Nn D.length) = some (.bool false) := fM (by omega)
   rw [List.take_length] at hc ⊢
   rw [aX, alembiclaw20_LiveDead.l11]
   refine fT ?_
   refine eC hc ?_
   unfold aBr
   generalize cV false ws R M = C at *
   generalize bF D = ND at *
   have fx := aKM ln <| g1
   refine fZ ?_
   refine gJ ?_; rfl
  | d + 1, hd, hf =>
   have hj : j < D.length := by omega
   have g1 : bA Tryd.prog .lss 3 false (Nn j) (Nn D.length) = some (.bool true) := gA (by omega)
   have q2 : bA Tryd.prog .add 3 true (Nn j) (.int .i64 1) = some (Nn (j + 1 : Nat)) := jS (by omega)
   have ia := xP false hj
   obtain ⟨p, hp⟩ : ∃ p, p = D[j] := ⟨_, rfl⟩
   rw [← hp] at ia
   have hpn : p < ws.length := by rw [hp]; exact hD _ (List.getElem_mem hj)
   have ld : ∀ H, aG G false 1 (.rp false (Nn p) 0) H = some (Nn p) := fun H => rfl
   have g2 : bA Tryd.prog .lss 3 true (Nn p) (.int .i64 0) = some (.bool false) := fM (by omega)
   have f0 : aB 0 (.rp false (cV false ws R M) 0) = some (.rp false (cV false ws R M) 0) := rfl
   have lI : ∀ H, aG G false 1 (.rp false (cV false ws R M) 0) H = some (.ro false (cF ws)) := fun H => rfl
   have lw : bE (.ro false (cF ws)) = some (Nn ws.length) := by simp [bE, gQ]
   have g3 : bA Tryd.prog .geq 3 false (Nn p) (Nn ws.length) = some (.bool false) := tG (by omega)
   have f1 : aB 1 (.rp false (cV false ws R M) 0) = some (.rp false (cV false ws R M) 1) := rfl
   have lR : ∀ H, aG G false 1 (.rp false (cV false ws R M) 1) H = some (Nn R) := fun H => rfl
   have b0 : aB 0 (.ptr 1 1 0 0) = some (.ptr 1 1 0 0) := rfl
   obtain ⟨cs, hcs⟩ : ∃ cs, cs = mS R (D.take j) ws := ⟨_, rfl⟩
   have hcl : cs.length = ws.length := by rw [hcs, lO]
   have lb : aG G false 1 (.ptr 1 1 0 0) (mN ((R + 1 : Nat) : Int) M cs []) = some (.sl 0 cs.length 0 cs.length 6) := rfl
   have bs : cH [(0, 1), (1, 1), (2, 1), (3, 1), (4, 1), (5, 1)] [(.int .i64 0), (.int .i64 0), (.int .i64 0), (.int .i64 0), (.int .i64 0), (.int .i64 0)] [(0, .int .i64 1), (1, Nn R), (5, .int .i64 7)] = some (WI.v (tC R)) := rfl
   have ix := aJR (n := cs.length) (i := p) (by omega)
   have st := aKs ((R + 1 : Nat) : Int) M cs [] p (tC R) (by omega)
   have ih := aJN hn hDl hD d (j + 1) f [] (by omega) (by omega)
   have ed : mS R (D.take (j + 1)) ws = cs.set p (tC R) := by
    rw [List.take_add_one, List.getElem?_eq_getElem hj, aCA, ← hcs, hp]; rfl
   rw [ed] at ih
   rw [← hcs] at hc ⊢
   rw [aX, alembiclaw20_LiveDead.l11]
   refine fT ?_
   refine eC hc ?_
   clear hc ed hcs hx hp
   unfold aBr at ih ⊢
   generalize mN ((R + 1 : Nat) : Int) M (cs.set p (tC R)) [] = h1 at *
   generalize mN ((R + 1 : Nat) : Int) M cs [] = h2 at *
   generalize WI.v (tC R) = nv at *
   generalize cV false ws R M = C at *
   generalize bF D = ND at *
   generalize cF ws = WS at *
   generalize cs.length = cl at *
   have fx := aKM ln <| aKM g1 <| aKM ia <| aKM ld <| aKM g2 <| aKM f0 <| aKM lI <| aKM lw <| aKM g3 <| aKM b0 <| aKM lb <| aKM f1 <| aKM lR <| aKM bs <| aKM ix <| aKM st <| q2
   refine fZ ?_
   exact ih
end
end Go.Proofs.YtlkgkfgkiidhdaaDoor.Mir
namespace Go.Proofs.YtlkgkfgkiidhdaaDoor
open Go Go.Proofs.YtlkgkfgkiidhdaaDoor.Mir
set_option linter.unusedVariables false
set_option linter.unusedSimpArgs false
set_option maxHeartbeats 8000000
set_option maxRecDepth 20000
def GD : aE := yG 179 [0, 2, 1, 4, 3, 5]
theorem aJB : GOk GD := ⟨rfl, rfl, rfl, rfl, rfl⟩
theorem aFy (G : aE) (hg : GOk G) (k : Nat) (bor : Bool) (ws : List WI) (R M : Int) (hk : ws.length < k + 7) (hl : ws.length ≤ 100000) (h : fV ws R M ≠ .ok) :
  cX.f G (k + 10) [cV bor ws R M] [] = some (.tup [.ro false [], veV (fV ws R M)], []) := by
 have ri : ∀ H, aW (aZ.f G (k + 9)) [cV bor ws R M] H = _ := fun H => cJ (H := H) (aHa G hg k bor ws R M hk hl h) (by simp [fA, bJ, cV, lH]) (by simp [fE, gP, nO])
 have b0 : ∀ H, cS (cV bor ws R M) H = some (.rp false (cV bor ws R M) 0, H) := fun H => rfl
 have l0 : ∀ H, aG G true 3 (.rp false (cV bor ws R M) 0) H = some (cV bor ws R M) := fun H => rfl
 have bx : eO 56 .nils [⟨3, 1, []⟩] = some (.ptr 1 1 0 0, [⟨3, 1, []⟩, ⟨56, 1, [.nils]⟩]) := rfl
 have s1 : gB (aV 1 (.ptr 1 1 0 0) .nils [⟨3, 1, []⟩, ⟨56, 1, [.nils]⟩]) = some (.tup [], [⟨3, 1, []⟩, ⟨56, 1, [.nils]⟩]) := rfl
 have q1 : bA Tryd.prog .neq 33 true (veV (fV ws R M)) .nili = some (.bool true) := tZ h
 have fin : cP [.sl 2 0 0 0 1, veV (fV ws R M)] 0 [⟨3, 1, []⟩, ⟨56, 1, [.nils]⟩, ⟨3, 1, []⟩] = some (.ret, [.tup [.ro false [], veV (fV ws R M)]], []) := by
  cases fV ws R M <;> rfl
 rw [cX.step]
 unfold cX.c
 refine gY ?_
 generalize cV bor ws R M = C at *
 generalize veV (fV ws R M) = V at *
 have fx := aKM b0 <| aKM l0 <| aKM ri <| aKM bx <| aKM s1 <| q1
 refine fZ ?_
 exact oF fin
theorem aFI (ws : List WI) (r m : Int) (mem : List Nat) (hmm : ∀ x ∈ mem, x < 18446744073709551616) :
  alembiclaw20_LiveDead.f GD 20001 [cV false ws r m, .ro false (dF mem)] [] = some (.bool true, []) := by
 have hG := aJB
 have pc : ∀ b ds r m, bJ (cV b ds r m) = true := fun b ds r m => by simp [fA, bJ, cV, lH]
 have rf : ∀ H, aW (cA.f GD 20000) [] H = _ := fun H => cJ (H := H) (aHq GD 19850) rfl rfl
 have rl : ∀ H, aW (bG.f GD 20000) [cV false ws r m] H = _ := fun H => cJ (H := H) (aHC GD 19999 ws r m) (by simp [fA, pc]) rfl
 have b1 : ∀ H, cS (cV false ws r m) H = some (.rp false (cV false ws r m) 0, H) := fun H => rfl
 have d1 : ∀ H, aG GD true 3 (.rp false (cV false ws r m) 0) H = some (cV false ws r m) := fun H => rfl
 have f0 : aB 0 (.rp false (cV false ws r m) 0) = some (.rp false (cV false ws r m) 0) := rfl
 have l0 : ∀ H, aG GD false 1 (.rp false (cV false ws r m) 0) H = some (.ro false (cF ws)) := fun H => rfl
 have f1 : aB 1 (.rp false (cV false ws r m) 0) = some (.rp false (cV false ws r m) 1) := rfl
 have l1 : ∀ H, aG GD false 1 (.rp false (cV false ws r m) 1) H = some (I6 r) := fun H => rfl
 have f2 : aB 2 (.rp false (cV false ws r m) 0) = some (.rp false (cV false ws r m) 2) := rfl
 have l2 : ∀ H, aG GD false 1 (.rp false (cV false ws r m) 2) H = some (I6 m) := fun H => rfl
 have lm : bE (.ro false (dF mem)) = some (Nn mem.length) := by simp [bE, hX]
 rw [alembiclaw20_LiveDead.step]
 unfold alembiclaw20_LiveDead.c
 refine gY ?_
 by_cases hl : ¬ (ws.length ≤ 60 ∧ r ≤ 40)
 ·rw [decide_eq_false hl] at rl
  generalize cV false ws r m = C at *
  generalize dF mem = NM at *
  have fx := aKM rf <| aKM rl <| aKM b1 <| d1
  refine fZ ?_
  exact w1b rfl
 replace hl := Classical.not_not.1 hl
 rw [decide_eq_true hl] at rl
 by_cases hm : m < 0
 ·have q2 : bA Tryd.prog .lss 3 true (I6 m) (.int .i64 0) = some (.bool true) := gA hm
  generalize cV false ws r m = C at *
  generalize dF mem = NM at *
  have fx := aKM rf <| aKM rl <| aKM b1 <| aKM d1 <| aKM f2 <| aKM l2 <| q2
  refine fZ ?_
  exact w1b rfl
 have q2 : bA Tryd.prog .lss 3 true (I6 m) (.int .i64 0) = some (.bool false) := fM (by omega)
 by_cases hm2 : 60 < m
 ·have q3 : bA Tryd.prog .gtr 3 true (I6 m) (.int .i64 60) = some (.bool true) := oH hm2
  generalize cV false ws r m = C at *
  generalize dF mem = NM at *
  have fx := aKM rf <| aKM rl <| aKM b1 <| aKM d1 <| aKM f2 <| aKM l2 <| aKM q2 <| q3
  refine fZ ?_
  exact w1b rfl
 have q3 : bA Tryd.prog .gtr 3 true (I6 m) (.int .i64 60) = some (.bool false) := kF (by omega)
 by_cases hml : (mem.length : Int) ≠ m
 ·have q4 : bA Tryd.prog .neq 3 false (Nn mem.length) (I6 m) = some (.bool true) := tH hml
  generalize cV false ws r m = C at *
  generalize dF mem = NM at *
  have fx := aKM rf <| aKM rl <| aKM b1 <| aKM d1 <| aKM f2 <| aKM l2 <| aKM q2 <| aKM q3 <| aKM lm <| q4
  refine fZ ?_
  exact w1b rfl
 replace hml : (mem.length : Int) = m := Classical.not_not.1 hml
 have q4 : bA Tryd.prog .neq 3 false (Nn mem.length) (I6 m) = some (.bool false) := mD hml
 by_cases hv : fV ws r m ≠ .ok
 ·have ri : ∀ H, aW (cX.f GD 20000) [cV false ws r m] H = _ := fun H => cJ (H := H) (aFy GD hG 19990 false ws r m (by omega) (by omega) hv) (by simp [fA, pc]) (by simp [fE, gP, nO])
  have q5 : bA Tryd.prog .neq 33 true (veV (fV ws r m)) .nili = some (.bool true) := tZ hv
  generalize veV (fV ws r m) = V at *
  generalize cV false ws r m = C at *
  generalize dF mem = NM at *
  have fx := aKM rf <| aKM rl <| aKM b1 <| aKM d1 <| aKM f2 <| aKM l2 <| aKM q2 <| aKM q3 <| aKM lm <| aKM q4 <| aKM ri <| q5
  refine fZ ?_
  exact w1b rfl
 replace hv := Classical.not_not.1 hv
 have hvb := (nN hv).1
 obtain ⟨R, rfl⟩ : ∃ R : Nat, r = R := ⟨r.toNat, by omega⟩
 have q5 : bA Tryd.prog .neq 33 true .nili .nili = some (.bool false) := by kernel_rfl
 obtain ⟨out, hI, hP⟩ := aFz GD 19998 false ws R m hG hv (by omega) (by omega) (by omega)
 have hD := aEI GD 19999 false ws R m out hG hv (by omega) (by omega) (by omega) hI hP
 obtain ⟨D, hDe⟩ : ∃ D, D = iV ws out ws.length := ⟨_, rfl⟩
 rw [← hDe] at hD
 have hDl : D.length ≤ ws.length := by rw [hDe]; exact zR ws out _
 have hDm : ∀ q ∈ D, q < ws.length := fun q hq => by
  rw [hDe] at hq
  unfold iV at hq
  exact List.mem_range.1 (List.mem_filter.1 hq).1
 have rd : ∀ H, aW (cX.f GD 20000) [cV false ws R m] H = _ := fun H => cJ (H := H) hD (by simp [fA, pc]) (by simp [fE, gP]; exact iH _ (fun _ => rfl) _)
 have aR : bA Tryd.prog .add 3 true (Nn R) (.int .i64 1) = some (Nn (R + 1 : Nat)) := jS (by omega)
 obtain ⟨self, hself⟩ : ∃ self, self = alembiclaw20_LiveDead.f GD 20000 := ⟨_, rfl⟩
 rw [← hself]
 obtain ⟨ds, hds⟩ : ∃ ds, ds = mS R D ws := ⟨_, rfl⟩
 have hdl : ds.length = ws.length := by rw [hds, lO]
 have hv2 : fV ds ((R + 1 : Nat) : Int) m = .ok := by rw [hds]; exact aDy _ hv (by omega) (by omega)
 have gv1 : rP m mem.length 500 = .ok := by
  unfold rP
  rw [if_neg (by omega), if_neg (by omega)]
 obtain ⟨s, hs1, hs2⟩ := aBz (bor := false) GD hG 19991 ws R m false mem 500 (by omega) (by omega) hv gv1 hmm (by omega) (by omega)
 have run2 := fun (b : Bool) => aBz (bor := b) GD hG 19991 ds ((R + 1 : Nat) : Int) m false mem 500 (by omega) (by omega) hv2 gv1 hmm (by omega) (by omega)
 rw [Int.toNat_natCast] at hs1
 have hgood := mG hv
 rw [Int.toNat_natCast] at hgood
 have hok := aEB ws 500 R (by decide) (fun j hj => (hgood _ (by rw [List.getD_eq_getElem?_getD, List.getElem?_eq_getElem hj]; exact List.getElem_mem hj)).ok2.ok) _ _ _ hs1 (aIw R mem hmm (by omega)) (by simp [s0]) (by simp [s0])
 have hsm : s.mem.length = mem.length := hok.2.2
 have hlk : s.leaks.length ≤ 5000 := by
  have h1 := hok.1.leaks
  have h2 := hok.2.1
  omega
 have rr1 : ∀ H, aW (dN.f GD 20000) [cV false ws R m, .ro false (dF mem), .int .i64 500] H = _ := fun H => cJ (H := H) hs2 (by simp [fA, pc, bJ, xX]) (by simp [fE, gP, rN])
 have q7 : bA Tryd.prog .eql 33 true .nili .nili = some (.bool true) := by kernel_rfl
 have q8 : bA Tryd.prog .eql 3 false (I6 s.code) (I6 s.code) = some (.bool true) := iO rfl
 have rsame : ∀ H, aW (aQ.f GD 20000) [.ro false (dF s.mem), .ro false (dF s.mem)] H = _ := fun H => cJ (H := H) (uI GD 19999 false false s.mem (by omega) (by omega)) (by simp [fA, bJ, xX]) rfl
 have rsl : ∀ H, aW (aP.f GD 20000) [.ro false (eY s.leaks), .ro false (eY s.leaks)] H = _ := fun H => cJ (H := H) (uH GD 19998 false false s.leaks (by omega) (by omega)) (by simp [fA, bJ, aHN]) rfl
 by_cases h0 : ws.length = 0
 ·have hD0 : D = [] := List.length_eq_zero_iff.1 (by omega)
  have hw0 : ws = [] := List.length_eq_zero_iff.1 h0
  have hd0 : ds = [] := List.length_eq_zero_iff.1 (by omega)
  have ap : rK 29 6 .emp (.ro false (cF ws)) [] = some (.ro false [], []) := by rw [hw0]; rfl
  obtain ⟨HX, hHX⟩ : ∃ HX : aA, HX = [⟨27, 3, [cV false [] ((R + 1 : Nat) : Int) m]⟩] := ⟨_, rfl⟩
  have bs : cH [(0, 1), (1, 1), (2, 1)] [.nils, (.int .i64 0), (.int .i64 0)] [(0, .ro false []), (1, Nn (R + 1 : Nat)), (2, I6 m)] = some (cV false [] ((R + 1 : Nat) : Int) m) := rfl
  have bx : eO 27 (.agg [.nils, .int .i64 0, .int .i64 0]) [] = some (.ptr 0 1 0 0, [⟨27, 3, [.agg [.nils, .int .i64 0, .int .i64 0]]⟩]) := rfl
  have s1 : gB (aV 3 (.ptr 0 1 0 0) (cV false [] ((R + 1 : Nat) : Int) m) [⟨27, 3, [.agg [.nils, .int .i64 0, .int .i64 0]]⟩]) = some (.tup [], HX) := by rw [hHX]; rfl
  have lp : cM (alembiclaw20_LiveDead.l11 GD 20000 HX.length self) 20000 [.ro false (dF mem), .rp false (cV false ws R m) 0, .bool false, .bool true, .ro false (bF D), .ptr 0 1 0 0, .int .i64 0] HX = some (.exit 0, [.ro false (dF mem), .rp false (cV false ws R m) 0, .bool false, .bool true, .ro false (bF D), .ptr 0 1 0 0, .int .i64 0], HX) := by
   have hx : aY 1 [.ro false (dF mem), .rp false (cV false ws R m) 0, .bool false, .bool true, .ro false (bF D), .ptr 0 1 0 0, .int .i64 0] = true := by simp [aY, aT, cV, fK, iK, dX]
   have hc : fD HX.length [.ro false (dF mem), .rp false (cV false ws R m) 0, .bool false, .bool true, .ro false (bF D), .ptr 0 1 0 0, .int .i64 0] HX = some HX := sL (by rw [hHX]; rfl) (by rw [hHX]; exact hx)
   have ln : bE (.ro false (bF D)) = some (Nn D.length) := by simp [bE, dM]
   have g1 : bA Tryd.prog .lss 3 false (.int .i64 0) (Nn D.length) = some (.bool false) := fM (by omega)
   rw [aX, alembiclaw20_LiveDead.l11]
   refine fT ?_
   refine eC hc ?_
   clear hc hx
   generalize cV false ws R m = C at *
   generalize bF D = ND at *
   have fx := aKM ln <| g1
   refine fZ ?_
   refine gJ ?_; rfl
  obtain ⟨t, ht1, ht2⟩ := run2 false
  have BX : True := trivial
  obtain ⟨bv, hbv⟩ : ∃ bv, bv = cV false [] ((R + 1 : Nat) : Int) m := ⟨_, rfl⟩
  rw [Int.toNat_natCast] at ht1
  rw [hds, hDe] at ht1
  obtain ⟨c1, c2, c3⟩ := aBQ hv hP mem _ _ s t hs1 ht1
  have bx2 : eO 73 (.agg [.int .i64 0, .nils, .nils, .int .i64 0]) HX = some (.ptr 1 1 0 0, HX ++ [⟨73, 4, [.agg [.int .i64 0, .nils, .nils, .int .i64 0]]⟩]) := by rw [hHX]; rfl
  obtain ⟨H1, hH1⟩ : ∃ H1, H1 = HX ++ [⟨73, 4, [jM s]⟩] := ⟨_, rfl⟩
  have s3 : gB (aV 4 (.ptr 1 1 0 0) (jM s) (HX ++ [⟨73, 4, [.agg [.int .i64 0, .nils, .nils, .int .i64 0]]⟩])) = some (.tup [], H1) := by rw [hH1, hHX]; rfl
  have ld : aG GD true 3 (.ptr 0 1 0 0) H1 = some bv := by rw [hH1, hHX, hbv]; rfl
  have sn : mF H1 [bv, .ro false (dF mem), .int .i64 500] = some [cV false ds ((R + 1 : Nat) : Int) m, .ro false (dF mem), .int .i64 500] := by
   refine qR ?_ (qR ?_ (qR rfl aED))
   ·rw [hbv, hd0]; exact oP (pc _ _ _ _)
   ·exact oP (by simp [bJ, xX])
  have rr2 : aW (dN.f GD 20000) [bv, .ro false (dF mem), .int .i64 500] H1 = some (.tup [jM t, .nili], H1) := vF sn ht2 (by simp [fE, gP, rN])
  have bx3 : eO 73 (.agg [.int .i64 0, .nils, .nils, .int .i64 0]) H1 = some (.ptr 2 1 0 0, H1 ++ [⟨73, 4, [.agg [.int .i64 0, .nils, .nils, .int .i64 0]]⟩]) := by rw [hH1, hHX]; rfl
  obtain ⟨H2, hH2⟩ : ∃ H2, H2 = H1 ++ [⟨73, 4, [jM t]⟩] := ⟨_, rfl⟩
  have s4 : gB (aV 4 (.ptr 2 1 0 0) (jM t) (H1 ++ [⟨73, 4, [.agg [.int .i64 0, .nils, .nils, .int .i64 0]]⟩])) = some (.tup [], H2) := by rw [hH2, hH1, hHX]; rfl
  have a0 : aB 0 (.ptr 1 1 0 0) = some (.ptr 1 1 0 0) := rfl
  have a1 : aB 1 (.ptr 1 1 0 0) = some (.ptr 1 1 0 1) := rfl
  have a2 : aB 2 (.ptr 1 1 0 0) = some (.ptr 1 1 0 2) := rfl
  have z0 : aB 0 (.ptr 2 1 0 0) = some (.ptr 2 1 0 0) := rfl
  have z1 : aB 1 (.ptr 2 1 0 0) = some (.ptr 2 1 0 1) := rfl
  have z2 : aB 2 (.ptr 2 1 0 0) = some (.ptr 2 1 0 2) := rfl
  have u0 : aG GD false 1 (.ptr 1 1 0 0) H2 = some (I6 s.code) := by rw [hH2, hH1, hHX]; rfl
  have u1 : aG GD false 1 (.ptr 1 1 0 1) H2 = some (.ro false (dF s.mem)) := by rw [hH2, hH1, hHX]; rfl
  have u2 : aG GD false 1 (.ptr 1 1 0 2) H2 = some (.ro false (eY s.leaks)) := by rw [hH2, hH1, hHX]; rfl
  have y0 : aG GD false 1 (.ptr 2 1 0 0) H2 = some (I6 s.code) := by rw [← c1, hH2, hH1, hHX]; rfl
  have y1 : aG GD false 1 (.ptr 2 1 0 1) H2 = some (.ro false (dF s.mem)) := by rw [← c2, hH2, hH1, hHX]; rfl
  have y2 : aG GD false 1 (.ptr 2 1 0 2) H2 = some (.ro false (eY s.leaks)) := by rw [← c3, hH2, hH1, hHX]; rfl
  clear hs1 ht1 hs2 ht2 hok hsm hlk c1 c2 c3 hP hI hD sn hgood hv hv2 hds hdl hself hH1 hH2 hDm hDl run2 hbv hvb
  clear hHX hw0 hd0 hD0
  generalize cV false ws R m = C at *
  generalize dF mem = NM at *
  generalize dF s.mem = NS at *
  generalize eY s.leaks = LK at *
  generalize cF ws = WS at *
  generalize bF D = ND at *
  generalize jM s = ES at *
  generalize jM t = ET at *
  generalize cV false [] ((R + 1 : Nat) : Int) m = CE at *
  have fx := aKM rf <| aKM rl <| aKM b1 <| aKM d1 <| aKM f2 <| aKM l2 <| aKM q2 <| aKM q3 <| aKM lm <| aKM q4 <| aKM rd <| aKM q5 <| aKM f0 <| aKM l0 <| aKM ap <| aKM f1 <| aKM l1 <| aKM aR <| aKM bs <| aKM bx <| s1
  refine fZ ?_
  have fx := aKM d1 <| aKM rr1 <| aKM bx2 <| aKM s3 <| aKM ld <| aKM rr2 <| aKM bx3 <| aKM s4 <| aKM q7 <| aKM a0 <| aKM a1 <| aKM a2 <| aKM z0 <| aKM z1 <| aKM z2 <| aKM u0 <| aKM u1 <| aKM u2 <| aKM y0 <| aKM y1 <| aKM y2 <| aKM q8 <| aKM rsame <| rsl
  have lx1 := lp
  refine fZ ?_
  exact w1b rfl
 ·obtain ⟨w0, wt, hwt⟩ : ∃ w0 wt, ws = w0 :: wt := by
   cases hw : ws with
   | nil => rw [hw] at h0; exact absurd rfl h0
   | cons a l => exact ⟨a, l, rfl⟩
  have ap : rK 29 6 .emp (.ro false (cF ws)) [] = some (.sl 0 ws.length 0 ws.length 6, [⟨29, 6, cF ws⟩]) := by
   have e1 : fI (.ro false (cF ws)) [] = some (cF ws) := rfl
   unfold rK
   simp only [e1, aDS, gQ]
   rw [decide_eq_true ⟨by decide, by omega⟩]
   simp only
   rw [hwt]
   simp only [cF, List.map_cons, List.length_map, List.length_cons, List.length_nil, List.nil_append]
  obtain ⟨HX, hHX⟩ : ∃ HX : aA, HX = mN ((R + 1 : Nat) : Int) m ds [] := ⟨_, rfl⟩
  have bs : cH [(0, 1), (1, 1), (2, 1)] [.nils, (.int .i64 0), (.int .i64 0)] [(0, .sl 0 ws.length 0 ws.length 6), (1, Nn (R + 1 : Nat)), (2, I6 m)] = some (bxL ws.length ((R + 1 : Nat) : Int) m) := rfl
  have bx : eO 27 (.agg [.nils, .int .i64 0, .int .i64 0]) [⟨29, 6, cF ws⟩] = some (.ptr 1 1 0 0, [⟨29, 6, cF ws⟩, ⟨27, 3, [.agg [.nils, .int .i64 0, .int .i64 0]]⟩]) := rfl
  have s1 : gB (aV 3 (.ptr 1 1 0 0) (bxL ws.length ((R + 1 : Nat) : Int) m) [⟨29, 6, cF ws⟩, ⟨27, 3, [.agg [.nils, .int .i64 0, .int .i64 0]]⟩]) = some (.tup [], mN ((R + 1 : Nat) : Int) m ws []) := rfl
  have lp := aJN GD 20000 self ws R m mem D (by omega) (by omega) hDm D.length 0 20000 [] (by omega) (by omega)
  replace lp : cM (alembiclaw20_LiveDead.l11 GD 20000 (mN ((R + 1 : Nat) : Int) m ws []).length self) 20000 (aBr ws R m mem D 0) (mN ((R + 1 : Nat) : Int) m ws []) = some (.exit 0, aBr ws R m mem D D.length, mN ((R + 1 : Nat) : Int) m (mS R D ws) []) := lp
  rw [← hds, ← hHX] at lp
  obtain ⟨t, ht1, ht2⟩ := run2 true
  have BX : True := trivial
  obtain ⟨bv, hbv⟩ : ∃ bv, bv = bxL ds.length ((R + 1 : Nat) : Int) m := ⟨_, rfl⟩
  rw [Int.toNat_natCast] at ht1
  rw [hds, hDe] at ht1
  obtain ⟨c1, c2, c3⟩ := aBQ hv hP mem _ _ s t hs1 ht1
  have bx2 : eO 73 (.agg [.int .i64 0, .nils, .nils, .int .i64 0]) HX = some (.ptr 2 1 0 0, HX ++ [⟨73, 4, [.agg [.int .i64 0, .nils, .nils, .int .i64 0]]⟩]) := by rw [hHX]; rfl
  obtain ⟨H1, hH1⟩ : ∃ H1, H1 = HX ++ [⟨73, 4, [jM s]⟩] := ⟨_, rfl⟩
  have s3 : gB (aV 4 (.ptr 2 1 0 0) (jM s) (HX ++ [⟨73, 4, [.agg [.int .i64 0, .nils, .nils, .int .i64 0]]⟩])) = some (.tup [], H1) := by rw [hH1, hHX]; rfl
  have ld : aG GD true 3 (.ptr 1 1 0 0) H1 = some bv := by rw [hH1, hHX, hbv]; rfl
  have sn : mF H1 [bv, .ro false (dF mem), .int .i64 500] = some [cV true ds ((R + 1 : Nat) : Int) m, .ro false (dF mem), .int .i64 500] := by
   refine qR ?_ (qR ?_ (qR rfl aED))
   ·have e1 : rF H1 (.sl 0 ds.length 0 ds.length 6) = some (.ro true (cF ds)) :=
     aFl (ty := 29) (xs := cF ds) (by rw [hH1, hHX]; rfl) (by rw [gQ]) (aDS _) (lH _)
    rw [hbv]
    show (iP H1 [.sl 0 ds.length 0 ds.length 6, I6 ((R + 1 : Nat) : Int), I6 m]).map AV.agg = _
    simp only [iP, e1]
    rfl
   ·exact oP (by simp [bJ, xX])
  have rr2 : aW (dN.f GD 20000) [bv, .ro false (dF mem), .int .i64 500] H1 = some (.tup [jM t, .nili], H1) := vF sn ht2 (by simp [fE, gP, rN])
  have bx3 : eO 73 (.agg [.int .i64 0, .nils, .nils, .int .i64 0]) H1 = some (.ptr 3 1 0 0, H1 ++ [⟨73, 4, [.agg [.int .i64 0, .nils, .nils, .int .i64 0]]⟩]) := by rw [hH1, hHX]; rfl
  obtain ⟨H2, hH2⟩ : ∃ H2, H2 = H1 ++ [⟨73, 4, [jM t]⟩] := ⟨_, rfl⟩
  have s4 : gB (aV 4 (.ptr 3 1 0 0) (jM t) (H1 ++ [⟨73, 4, [.agg [.int .i64 0, .nils, .nils, .int .i64 0]]⟩])) = some (.tup [], H2) := by rw [hH2, hH1, hHX]; rfl
  have a0 : aB 0 (.ptr 2 1 0 0) = some (.ptr 2 1 0 0) := rfl
  have a1 : aB 1 (.ptr 2 1 0 0) = some (.ptr 2 1 0 1) := rfl
  have a2 : aB 2 (.ptr 2 1 0 0) = some (.ptr 2 1 0 2) := rfl
  have z0 : aB 0 (.ptr 3 1 0 0) = some (.ptr 3 1 0 0) := rfl
  have z1 : aB 1 (.ptr 3 1 0 0) = some (.ptr 3 1 0 1) := rfl
  have z2 : aB 2 (.ptr 3 1 0 0) = some (.ptr 3 1 0 2) := rfl
  have u0 : aG GD false 1 (.ptr 2 1 0 0) H2 = some (I6 s.code) := by rw [hH2, hH1, hHX]; rfl
  have u1 : aG GD false 1 (.ptr 2 1 0 1) H2 = some (.ro false (dF s.mem)) := by rw [hH2, hH1, hHX]; rfl
  have u2 : aG GD false 1 (.ptr 2 1 0 2) H2 = some (.ro false (eY s.leaks)) := by rw [hH2, hH1, hHX]; rfl
  have y0 : aG GD false 1 (.ptr 3 1 0 0) H2 = some (I6 s.code) := by rw [← c1, hH2, hH1, hHX]; rfl
  have y1 : aG GD false 1 (.ptr 3 1 0 1) H2 = some (.ro false (dF s.mem)) := by rw [← c2, hH2, hH1, hHX]; rfl
  have y2 : aG GD false 1 (.ptr 3 1 0 2) H2 = some (.ro false (eY s.leaks)) := by rw [← c3, hH2, hH1, hHX]; rfl
  clear hs1 ht1 hs2 ht2 hok hsm hlk c1 c2 c3 hP hI hD sn hgood hv hv2 hds hdl hself hH1 hH2 hDm hDl run2 hbv hvb
  unfold aBr at lp
  clear hHX hwt
  generalize cV false ws R m = C at *
  generalize dF mem = NM at *
  generalize dF s.mem = NS at *
  generalize eY s.leaks = LK at *
  generalize cF ws = WS at *
  generalize bF D = ND at *
  generalize jM s = ES at *
  generalize jM t = ET at *
  generalize bxL ws.length ((R + 1 : Nat) : Int) m = CE at *
  generalize mN ((R + 1 : Nat) : Int) m ws [] = HA at *
  generalize ws.length = wl at *
  have fx := aKM rf <| aKM rl <| aKM b1 <| aKM d1 <| aKM f2 <| aKM l2 <| aKM q2 <| aKM q3 <| aKM lm <| aKM q4 <| aKM rd <| aKM q5 <| aKM f0 <| aKM l0 <| aKM ap <| aKM f1 <| aKM l1 <| aKM aR <| aKM bs <| aKM bx <| s1
  refine fZ ?_
  have fx := aKM d1 <| aKM rr1 <| aKM bx2 <| aKM s3 <| aKM ld <| aKM rr2 <| aKM bx3 <| aKM s4 <| aKM q7 <| aKM a0 <| aKM a1 <| aKM a2 <| aKM z0 <| aKM z1 <| aKM z2 <| aKM u0 <| aKM u1 <| aKM u2 <| aKM y0 <| aKM y1 <| aKM y2 <| aKM q8 <| aKM rsame <| rsl
  have lx1 := lp
  refine fZ ?_
  exact w1b rfl
theorem LLiveDead.law (xs : List AV) (h : IsTs Tryd.prog [27, 22] xs) : ∃ k, alembiclaw20_LiveDead.f (yG 179 [0, 2, 1, 4, 3, 5]) k xs [] = some (.bool true, []) := by
 obtain ⟨x1, _, rfl, hx1, h⟩ := h.uncons
 obtain ⟨x2, _, rfl, hx2, h⟩ := h.uncons
 obtain rfl := h.unnil
 obtain ⟨cs, R, M, rfl, hR, hM⟩ := aHL hx1
 obtain ⟨mem, rfl, hm⟩ := aGf Tryd.underlying22 Tryd.underlying30 hx2
 exact ⟨20001, aFI cs R M mem hm⟩
end Go.Proofs.YtlkgkfgkiidhdaaDoor
namespace Go.Proofs.YtlkgkfgkiidhdaaDoor
open Go Go.ChangeShapes Go.WideShapes Go.RowKit Mir
set_option linter.unusedVariables false
set_option linter.unusedSimpArgs false
namespace RLiveDead
noncomputable def aAc (os : Os) : World :=
 let w0 := World.holding Tryd.prog os ⟨#[.cells #[.string ⟨#[97, 32, 110, 117, 109, 98, 101, 114, 32, 111, 117, 116, 32, 111, 102, 32, 105, 116, 115, 32, 114, 97, 110, 103, 101]⟩] 196, .cells #[.string ⟨#[110, 111, 116, 32, 97, 115, 32, 108, 111, 110, 103, 32, 97, 115, 32, 105, 116, 32, 104, 97, 115, 32, 116, 111, 32, 98, 101]⟩] 196, .cells #[.string ⟨#[116, 111, 111, 32, 109, 97, 110, 121]⟩] 196, .cells #[.string ⟨#[110, 111, 116, 32, 97, 115, 32, 105, 116, 32, 104, 97, 115, 32, 116, 111, 32, 98, 101]⟩] 196, .cells #[.string ⟨#[110, 111, 32, 115, 117, 99, 104, 32, 116, 104, 105, 110, 103, 32, 116, 111, 32, 100, 111]⟩] 196, .cells #[.string ⟨#[110, 111, 32, 115, 117, 99, 104, 32, 112, 108, 97, 99, 101]⟩] 196], #[], []⟩
 {w0 with heap := w0.heap
  |>.modify 0 (fun
   | .cells _ t frozen => .cells #[.iface 179 (.pointer (some ⟨Rk.low, 0, none⟩))] t frozen
   | o => o)
  |>.modify 2 (fun
   | .cells _ t frozen => .cells #[.iface 179 (.pointer (some ⟨Rk.low + 1, 0, none⟩))] t frozen
   | o => o)
  |>.modify 1 (fun
   | .cells _ t frozen => .cells #[.iface 179 (.pointer (some ⟨Rk.low + 2, 0, none⟩))] t frozen
   | o => o)
  |>.modify 4 (fun
   | .cells _ t frozen => .cells #[.iface 179 (.pointer (some ⟨Rk.low + 3, 0, none⟩))] t frozen
   | o => o)
  |>.modify 3 (fun
   | .cells _ t frozen => .cells #[.iface 179 (.pointer (some ⟨Rk.low + 4, 0, none⟩))] t frozen
   | o => o)
  |>.modify 5 (fun
   | .cells _ t frozen => .cells #[.iface 179 (.pointer (some ⟨Rk.low + 5, 0, none⟩))] t frozen
   | o => o) }
theorem zC (os : Os) (args : Array Value) : laidMetH Tryd.prog ([("alembic/api.ErrRange", Rows.laid_alembic_api_ErrRange), ("alembic/api.ErrLength", Rows.laid_alembic_api_ErrLength), ("alembic/api.ErrMany", Rows.laid_alembic_api_ErrMany), ("alembic/api.ErrShape", Rows.laid_alembic_api_ErrShape), ("alembic/api.ErrOp", Rows.laid_alembic_api_ErrOp), ("alembic/api.ErrLabel", Rows.laid_alembic_api_ErrLabel)] : List (String × DataW Unit)) ((aAc os).forCall (fun _ _ => 0) ⟨#[], args, []⟩).memory :=
 laidMet_of_run (ps := [.cell 0 0, .cell (Rk.low) 0, .cell 2 0, .cell (Rk.low + 1) 0, .cell 1 0, .cell (Rk.low + 2) 0, .cell 4 0, .cell (Rk.low + 3) 0, .cell 3 0, .cell (Rk.low + 4) 0, .cell 5 0, .cell (Rk.low + 5) 0]) 8 (by kernel_rfl) (by kernel_rfl) (by kernel_rfl)
theorem aJS : aDR Tryd.prog 33 [("alembic/api.ErrRange", Rows.laid_alembic_api_ErrRange), ("alembic/api.ErrLength", Rows.laid_alembic_api_ErrLength), ("alembic/api.ErrMany", Rows.laid_alembic_api_ErrMany), ("alembic/api.ErrShape", Rows.laid_alembic_api_ErrShape), ("alembic/api.ErrOp", Rows.laid_alembic_api_ErrOp), ("alembic/api.ErrLabel", Rows.laid_alembic_api_ErrLabel)] [0, 2, 1, 4, 3, 5] := ⟨by kernel_rfl, by kernel_rfl, ⟨_, rfl⟩, by kernel_rfl, by kernel_rfl, ⟨_, rfl⟩, by kernel_rfl, by kernel_rfl, ⟨_, rfl⟩, by kernel_rfl, by kernel_rfl, ⟨_, rfl⟩, by kernel_rfl, by kernel_rfl, ⟨_, rfl⟩, by kernel_rfl, by kernel_rfl, ⟨_, rfl⟩, trivial⟩
theorem sent {W : World} (h : laidMetH Tryd.prog ([("alembic/api.ErrRange", Rows.laid_alembic_api_ErrRange), ("alembic/api.ErrLength", Rows.laid_alembic_api_ErrLength), ("alembic/api.ErrMany", Rows.laid_alembic_api_ErrMany), ("alembic/api.ErrShape", Rows.laid_alembic_api_ErrShape), ("alembic/api.ErrOp", Rows.laid_alembic_api_ErrOp), ("alembic/api.ErrLabel", Rows.laid_alembic_api_ErrLabel)] : List (String × DataW Unit)) W) : ∃ S, SentS W 179 [0, 2, 1, 4, 3, 5] S :=
 aBb Tryd.underlying33 Rk.row Tryd.underlying179 Tryd.underlying196 rfl rfl Tryd.underlying9 (by kernel_rfl) (by kernel_rfl) aJS (by decide) h
theorem aHO : ∀ t ∈ ([27, 25, 29, 3, 2, 22, 30] : List Nat), xW Tryd.prog [27, 25, 29, 3, 2, 22, 30] t = true := List.all_eq_true.1 (by kernel_rfl)
set_option maxRecDepth 100000 in
theorem aIV (os : Os) (started : os.Started) (H : Type) (enc : TypeId × Value → H) :
  ReturnsInHanded {} Tryd.checked os 7 .any (fun w args => (Rows.liveDeadSpec.pre enc Tryd.prog Tryd.f7 [] false w args ∧ laidMetH Tryd.prog ([("alembic/api.ErrRange", Rows.laid_alembic_api_ErrRange), ("alembic/api.ErrLength", Rows.laid_alembic_api_ErrLength), ("alembic/api.ErrMany", Rows.laid_alembic_api_ErrMany), ("alembic/api.ErrShape", Rows.laid_alembic_api_ErrShape), ("alembic/api.ErrOp", Rows.laid_alembic_api_ErrOp), ("alembic/api.ErrLabel", Rows.laid_alembic_api_ErrLabel)] : List (String × DataW Unit)) w) ∧ sizedMet enc Tryd.prog Tryd.f7 (OpenSpec.ofChange Rows.liveDeadSpec) false w args)
   (Rows.liveDeadSpec.post enc Tryd.prog Tryd.f7 false true false false) := by
 refine returnsInHanded_of_change_and (C := Tryd.checked) (X := fun w _ => laidMetH Tryd.prog ([("alembic/api.ErrRange", Rows.laid_alembic_api_ErrRange), ("alembic/api.ErrLength", Rows.laid_alembic_api_ErrLength), ("alembic/api.ErrMany", Rows.laid_alembic_api_ErrMany), ("alembic/api.ErrShape", Rows.laid_alembic_api_ErrShape), ("alembic/api.ErrOp", Rows.laid_alembic_api_ErrOp), ("alembic/api.ErrLabel", Rows.laid_alembic_api_ErrLabel)] : List (String × DataW Unit)) w) (fun _ _ _ hh h => h.of_heap hh) Rk.own started (by kernel_rfl) Tryd.func7
  (ChangeSpec.witness_at (enc := enc) (C := Tryd.checked) (os := os) (X := fun w _ => laidMetH Tryd.prog ([("alembic/api.ErrRange", Rows.laid_alembic_api_ErrRange), ("alembic/api.ErrLength", Rows.laid_alembic_api_ErrLength), ("alembic/api.ErrMany", Rows.laid_alembic_api_ErrMany), ("alembic/api.ErrShape", Rows.laid_alembic_api_ErrShape), ("alembic/api.ErrOp", Rows.laid_alembic_api_ErrOp), ("alembic/api.ErrLabel", Rows.laid_alembic_api_ErrLabel)] : List (String × DataW Unit)) w) false (aAc os) #[.agg #[.slice none 0 0, .int .i64 0, .int .i64 0], .slice none 0 0] 8 rfl (by kernel_rfl) (by kernel_rfl) (by kernel_rfl) (by kernel_rfl) (by kernel_rfl) (zC os _)) ?_
 intro W base args ds gs before hval0 hW _ _ hL _
 obtain ⟨S, hS⟩ := sent hL
 have hval : ∀ (j : Nat) t v, Tryd.f7.params.toList[j]? = some t → args.toList[j]? = some v → Value.okWide Tryd.prog W .any base t v := fun j t v h1 h2 => hval0 j t v (by simpa using h1) (by simpa using h2)
 have hW' := hW
 obtain ⟨p, q, hA, _, _, _, _⟩ := hW
 have hpar : Tryd.f7.params.toList = [27, 22] := by rw [Tryd.params7]
 rw [hpar] at hval
 replace hA : DataW.TrodAll enc Tryd.prog W 0 (fun _ => true) true Tryd.f7.params.toList args.toList ds p := hA
 rw [hpar] at hA
 obtain ⟨xs, h1, h2⟩ := aAl aHO (by decide) hval hA
 obtain ⟨k, hk⟩ := LLiveDead.law xs h1
 have hc := aEM (Mir.alembiclaw20_LiveDead.sound (aCz _ _) k) hk (aFN hS) h2
 rw [Array.toArray_toList] at hc
 refine hc.mono fun e W' ⟨he, hb⟩ => ⟨_, he, ?_⟩
 exact aGi rfl hpar (by kernel_rfl) Tryd.underlying4 (fun ds hd => by
  obtain ⟨d0, d1, rfl⟩ : ∃ d0 d1, ds = [d0, d1] := by
   match ds, hd with
   | [d0, d1], _ => exact ⟨d0, d1, rfl⟩
  rfl) Rk.laidOut (by kernel_rfl) hW' hb
theorem holds : Rows.LiveDeadSaid :=
 OpenClaim.holds_of_wide 7 Tryd.f7 rfl rfl rfl rfl rfl rfl rfl ⟨rfl, rfl, rfl, rfl, rfl⟩ rfl rfl rfl rfl rfl (by kernel_rfl) Tryd.func7 (by kernel_rfl)
  (of_decide_eq_true (by kernel_rfl)) (by unfold Func.isWrapper; first | (rw [if_pos (by decide +kernel)]; kernel_rfl) | (rw [if_neg (by decide +kernel)]; exact ⟨rfl, rfl⟩))
  (fun os started H enc _ => aIV os started H enc)
theorem cardHolds : Rows.LiveDeadCardSaid :=
 Claim7.holds_tied_plain_at .later [] [.sentinel, .sentinel, .sentinel, .sentinel, .sentinel, .sentinel] true (true, "864f508a8b0e81602785229ebc0405c57cf7b6a36a11fb1b2a55f1a5fb117935") true
  holds (fun _ h => by cases h) (by kernel_rfl) (fun _ h => by cases h) liveDead_row_tie rfl ⟨rfl, rfl⟩ (by kernel_rfl) rfl
  (fun f fn hf hfn => by
   obtain rfl : f = 7 := Option.some.inj ((show Tryd.prog.funcNamed "alembic/alembiclaw20.LiveDead" = some 7 by kernel_rfl).symm.trans hf) |>.symm
   obtain rfl : fn = Tryd.f7 := (Option.some.inj (Tryd.func7.symm.trans hfn)).symm
   exact ⟨by kernel_rfl, fun j t ht => by
    have hm : t ∈ ([27, 22] : List Nat) := by
     have := List.mem_of_getElem? (l := Tryd.f7.params.toList) (i := j) (by simpa using ht)
     rw [Tryd.params7] at this
     exact this
    have := List.all_eq_true.1 (show ([27, 22] : List Nat).all (fun t => !Tryd.prog.wantsStandIn t) = true by kernel_rfl) t hm
    exact (by simpa using this : Tryd.prog.wantsStandIn t = false)⟩)
  (by kernel_rfl)
end RLiveDead
end Go.Proofs.YtlkgkfgkiidhdaaDoor
