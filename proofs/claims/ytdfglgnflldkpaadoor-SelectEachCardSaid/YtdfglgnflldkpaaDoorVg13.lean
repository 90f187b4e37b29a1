/- Printed by rowgen.py: the row of SelectEach, out of its law in plain Lean. -/
import Derived.Test.YtdfglgnflldkpaaDoorVg12
import Derived.KernelRfl
import Derived.Test.YtdfglgnflldkpaaDoorTie
import Derived.Test.YtdfglgnflldkpaaDoorCards
import Derived.SevenTiedAt
namespace Go.Proofs.YtdfglgnflldkpaaDoor.Mir
open Go
set_option linter.unusedSimpArgs false
set_option linter.unusedVariables false
set_option maxHeartbeats 8000000
set_option maxRecDepth 20000
section
variable {ws : List WI} {R : Nat} {fuel : Int} {s : MS} {q : QS} {i : WI}
theorem aIE (hsim : Sim ws R s q) (hs : s.Ok R) (hR : R ≤ 28) (hw : ∀ w ∈ ws, w.Good R ws.length) (hl : ws.length ≤ 10000) (hj : s.at_ < ws.length) (hi : ws.getD s.at_ default = i) (hg : i.Good R ws.length) (hm : s.mem.length ≤ 60000) (hst : (q.steps : Int) + 10 < fuel) :
  ∃ s2 b, s.tick.step i = (s2, b) ∧ lH fuel ws R s q s2 b := by
 have h20 := hg.ok2.ok.op
 by_cases h14 : i.op ≤ 14
 ·exact aIF hsim hs hR hw hl hj hi hg (by omega) ⟨h20.1, h14⟩
 have hk := hg.ok2.ok.k
 have ha := hg.ok2.ok.a
 have hd := hg.ok2.ok.d
 have hb := hg.ok2.ok.b
 have hmem := hg.mem
 have hhalt := hg.halt
 obtain ⟨op, d, a, b, c, k⟩ := i
 simp only at h14 h20 hk ha hd hb hmem hhalt
 have : op = 15 ∨ op = 16 ∨ op = 17 ∨ op = 18 ∨ op = 19 ∨ op = 20 := by omega
 rcases this with rfl | rfl | rfl | rfl | rfl | rfl
 ·exact aAe (.inl ⟨rfl, rfl, rfl⟩) hsim hs hR hw hl hj hi (ha (by omega) (by omega)) (hd (by omega)) (hmem (by omega)) hm hst
 ·exact aAe (.inr ⟨rfl, rfl, rfl⟩) hsim hs hR hw hl hj hi (ha (by omega) (by omega)) (hb (by omega)) (hmem (by omega)) hm hst
 ·exact aKb hsim hR hw hl hj hi (hk (by omega) (by omega)) (by omega)
 ·exact aFV (.inl rfl) hsim hR hw hl hj hi (hk (by omega) (by omega)) (ha (by omega) (by omega)) (by omega)
 ·exact aFV (.inr rfl) hsim hR hw hl hj hi (hk (by omega) (by omega)) (ha (by omega) (by omega)) (by omega)
 ·exact aKc hsim hR hw hl hj hi (hhalt rfl) (by omega)
end
theorem aFS {ws : List WI} {R : Nat} {F fuel : Int} (hR : R ≤ 28) (hw : ∀ w ∈ ws, w.Good R ws.length) (hl : ws.length ≤ 10000) (hF : F ≤ 99999) (hfuel : 9 * F + 20 < fuel) : ∀ (f : Nat) (s s' : MS) (q : QS), oA ws F f s = some s' → s'.code ≠ 4 → s.Ok R → Sim ws R s q → s.at_ ≤ ws.length → (s.steps : Int) ≤ F → q.steps ≤ 9 * s.steps → s.mem.length ≤ 60000 →
  ∃ (m : Nat) (q' : QS) (T : List (Int × Int)), (m : Int) ≤ 10 * (F - s.steps) + 1 ∧ aCv (pH ws) fuel q m q' ∧ q'.code = s'.code ∧ q'.mem = s'.mem ∧ s'.leaks = s.leaks ++ T ∧ ∀ pc, q'.leaks = q.leaks ++ mlk ws pc T
 | 0, s, s', q, h, _, _, _, _, _, _, _ => by simp [oA] at h
 | f + 1, s, s', q, h, hc, hs, hsim, hat, hst, hq, hm => by
  simp only [oA] at h
  by_cases h1 : ws.length ≤ s.at_
  ·rw [if_pos h1] at h; simp only [Option.some.injEq] at h; subst h
   have hp : q.at_ = (kT ws ws.length : Int) := by rw [hsim.at_, show s.at_ = ws.length by omega]
   have g := aGP (fuel := fuel) (cs := pH ws) (cd := q.code) (mem := q.mem) (r := q.regs) (lk := q.leaks) (st := q.steps) (fl := q.flags) (p := q.at_) (by rw [hp, aFd]; unfold pH; rw [List.length_map]; omega)
   exact ⟨1, _, [], by omega, g, rfl, hsim.mem, by simp, fun pc => by simp [mlk]⟩
  rw [if_neg h1] at h
  by_cases h2 : (s.steps : Int) = F
  ·rw [if_pos h2] at h; simp only [Option.some.injEq] at h; subst h
   exact absurd rfl hc
  rw [if_neg h2] at h
  have hj : s.at_ < ws.length := by omega
  have hmemi : ws.getD s.at_ default ∈ ws := by
   rw [List.getD_eq_getElem?_getD, List.getElem?_eq_getElem hj]; exact List.getElem_mem hj
  have hg := hw _ hmemi
  have okt : s.tick.Ok R := ⟨hs.len, hs.regs, hs.mem, by have := hs.leaks; simp [MS.tick, MS.leak]; omega, hs.big, by simp [MS.tick, MS.leak]; omega⟩
  obtain ⟨o1, o2, o3, o4⟩ := MS.step_ok okt hg.ok2.ok (by have := hs.leaks; simp [MS.tick, MS.leak]; omega) (show s.tick.at_ < ws.length from hj)
  have tst : s.tick.steps = s.steps + 1 := rfl
  have tm : s.tick.mem = s.mem := rfl
  obtain ⟨s2, b, hsb, m, q2, Y, X, m10, hY, hX, hmk, hmm, hqs, hgo, hend⟩ := aIE (fuel := fuel) hsim hs hR hw hl hj rfl hg hm (by omega)
  rw [hsb] at h o1 o2 o3 o4
  simp only at h o1 o2 o3 o4
  cases b
  ·simp only [Option.some.injEq] at h
   subst h
   obtain ⟨he, hcode⟩ := hend rfl
   refine ⟨m, q2, Y, by omega, he, hcode, hmm, hY, fun pc => ?_⟩
   have := hmk pc []
   rw [List.append_nil] at this
   rw [hX, this]; simp [mlk]
  ·obtain ⟨hgo, hsim2⟩ := hgo rfl
   obtain ⟨m2, q', T, hm2, he, hcode, hmem, hT, hmlk⟩ := aFS hR hw hl hF hfuel f s2 s' q2 h hc o1 hsim2 o2 (by rw [o3, tst]; push_cast; omega) (by rw [o3, tst]; omega) (by rw [o4, tm]; exact hm)
   rw [o3, tst] at hm2
   refine ⟨m + m2, q', Y ++ T, by push_cast at hm2 ⊢; omega, hgo.ends he, hcode, hmem, by rw [hT, hY, List.append_assoc], fun pc => ?_⟩
   rw [hmlk s.at_, hX, hmk, List.append_assoc]
theorem aOi (ws : List WI) (R : Nat) (hR : R ≤ 28) (mem : List Nat) (cd : Int) : Sim ws R (s0 R mem) (q0 cd mem) := by
 refine ⟨by simp [q0], fun j hj => ?_, rfl, ?_⟩
 ·show (List.replicate 31 0).getD j 0 = (List.replicate R 0).getD j 0
  rw [List.getD_eq_getElem?_getD, List.getD_eq_getElem?_getD, List.getElem?_replicate, List.getElem?_replicate, if_pos hj, if_pos (by omega)]
 ·show (0 : Int) = (kT ws 0 : Int)
  simp [kT, gR]
theorem aKa {ws : List WI} {R : Nat} {F fuel : Int} {K f : Nat} (hR : R ≤ 28) (hw : ∀ w ∈ ws, w.Good R ws.length) (hl : ws.length ≤ 10000) (h0 : 0 ≤ F) (hF : F ≤ 99999) (hfuel : 9 * F + 20 < fuel) (mem : List Nat) (hm : mem.length ≤ 60000) (hmm : ∀ x ∈ mem, x < 18446744073709551616) (s' : MS) (h : oA ws F f (s0 R mem) = some s') (hc : s'.code ≠ 4) (hK : 10 * F + 1 ≤ K) :
  ∃ q', pT (pH ws) fuel K (q0 3 mem) = some q' ∧ q'.code = s'.code ∧ q'.mem = s'.mem ∧ q'.leaks = mlk ws 0 s'.leaks := by
 obtain ⟨m, q', T, hm, he, h1, h2, h3, h4⟩ := aFS hR hw hl hF hfuel f (s0 R mem) s' (q0 3 mem) h hc (aIB R mem hmm (by omega)) (aOi ws R hR mem 3) (by simp [s0]) (by simp only [s0]; omega) (by simp [q0]) (by simpa [s0] using hm)
 have e : s'.leaks = T := by rw [h3]; simp [s0]
 refine ⟨q', ?_, h1, h2, by rw [h4 0, e]; simp [q0]⟩
 have hs0 : (s0 R mem).steps = 0 := rfl
 rw [hs0] at hm
 have := he (K - m)
 rw [show K - m + m = K by omega] at this
 exact this
section
variable (G : aI) (hg : GOk G) (k : Nat) (ws : List WI) (r m : Int)
theorem aGU : bG (cV false ws r m) = true := by simp [bG, dQ, aHD, cV]
theorem aGT : fM (cV false ws r m) = true := by simp [fM, iW, aLo, cV]
include hg in
theorem aCw (hl : ws.length ≤ 60) (hk : 1000 ≤ k) (h : oR ws r m = .ok) (hr : r ≤ 28) : bU.f G (k + 12) [cV false ws r m] [] = some (.tup [.ro false (iI (pH ws)), .nili], []) := by
 have hv := aDW (bor := false) G hg (k + 3) ws r m (by omega) (by omega)
 rw [h] at hv
 have hgood := wQ h
 have hr0 := (aBh h).1
 have hR : r.toNat ≤ 28 := by omega
 obtain ⟨s0, hs0⟩ : ∃ s0, s0 = (KS.run ws.length ws k00).mark := ⟨_, rfl⟩
 have hrun := aIl ws
 rw [← hs0] at hrun
 obtain ⟨s1, hs1⟩ : ∃ s1, s1 = KS.fixes s0.jumps s0 := ⟨_, rfl⟩
 have ho1 : s1.out = aBV ws := by rw [hs1]; exact aHc ws s0 hs0
 have hfl := rH ws.length ws
 have hjl : ∀ (L : JL) (b : Nat), (mO b L).length ≤ L.length := by
  intro L
  induction L with
  | nil => intro b; simp [mO]
  | cons x L ih =>
   intro b
   obtain ⟨i, o⟩ := x
   cases o with
   | none => have := ih (b + 1); simp only [mO, List.length_cons]; omega
   | some t => have := ih (b + 1); simp only [mO, List.length_cons]; omega
 have hJ : s0.jumps.length ≤ 540 := by rw [hrun]; have := hjl (gR ws.length ws) 0; show (mO 0 (gR ws.length ws)).length ≤ 540; omega
 have hO : s0.out.length ≤ 540 := by rw [hrun]; simp only [List.length_map]; omega
 have hpl : s0.place.length = ws.length + 1 := by rw [hrun]; exact aEw ws
 have := aFX G k ws r m hv hr (fun w hw => (hgood w hw).ok2.ok.op) (by omega) (by omega) s0 hs0 s1 hs1 (by omega) (by omega) (fun p hp => by
   rw [hrun] at hp
   have := aFr (e := ws.length) (m := ws.length) ⟨by omega, by omega⟩ (Nat.le_refl _) ws 0 hgood p hp
   rw [hpl, hrun]
   simp only [List.length_map]
   omega) (fun q hq => by rw [hrun] at hq; have := aAY ws q hq; omega) (by omega) (by omega) (by omega) (by rw [ho1]; exact sJ hR hgood (by omega))
 rw [ho1] at this
 exact this
end
def aHo (n : Nat) (R M : Int) (m : Nat) : Prop := n ≤ 60 ∧ R ≤ 40 ∧ M ≤ 80 ∧ m ≤ 80
instance (n : Nat) (R M : Int) (m : Nat) : Decidable (aHo n R M m) := by unfold aHo; infer_instance
theorem aEv (G : aI) (k : Nat) (cs : List WI) (R M : Int) : bP.f G (k + 1) [cV false cs R M] [] = some (cV false cs R M, []) := by
 rw [bP.step]
 unfold bP.c cV
 refine dX ?_
 repeat' first
  | (with_reducible first | refine eT ?_ | refine eN ?_ | refine eS ?_ | refine eXn ?_ | refine eXr ?_ | refine eX ?_ | refine eI ?_ | refine eK ?_ | refine eV0 ?_ | refine wX ?_ | refine xA ?_ | refine wU ?_ | refine wZ ?_ | refine wV ?_ | refine wW ?_)
  | ((with_reducible apply eCn); (simp only [eG, eF]; first | done | (with_reducible exact rfl)))
  | ((with_reducible apply eJ); (rfl))
  | ((with_reducible apply wY); (first | rfl | (simp only [eG, eF]; rfl)))
  | ((with_reducible apply eB); (first | (with_reducible exact rfl) | (simp (disch := omega) only [qa, jM, AV.cells, fF, aZ, kZ, eP, fN, kS, Nat.reduceLeDiff, Nat.reduceLT, Nat.reduceAdd, ↓reduceIte]; first | done | (with_reducible exact rfl) | (with_reducible exact ⟨rfl, rfl⟩))))
  | ((with_reducible apply eR); (simp only [eG, eF]; (with_reducible exact rfl)))
  | ((with_reducible first | refine zS ?_ ?_ | refine zX ?_ ?_ | refine zW ?_ ?_ | refine zV ?_ ?_ | refine zU ?_ ?_ | refine zT ?_ ?_ | refine zY ?_ ?_ | refine qZ ?_ ?_ | refine sGd ?_ ?_ | refine qK ?_ ?_) <;> intro hq <;> try subst hq)
 refine oF ?_
 unfold fX
 exact nI (by simp [cK, cS, kX, AV.cells]) _
theorem aJg (G : aI) (k : Nat) : cZ.f G (k + 80) [] [] = some (.bool true, []) := by kernel_rfl
theorem aFZ {R n : Int} {i : WI} {l : List WI} {j : Nat} (h : iN i R n = none) (h2 : qD R n l (j + 1) = .ok) : qD R n (i :: l) j = .ok := by
 unfold qD; rw [h]; exact h2
theorem aCA {R n : Int} : ∀ {l : List WI} {j : Nat}, (∀ i ∈ l, iN i R n = none) → qD R n l j = .ok
 | [], _, _ => rfl
 | i :: l, j, h => aFZ (h i (by simp)) (aCA (fun x hx => h x (by simp [hx])))
theorem aGG {cs : List WI} {R M : Int} (h1 : cs.length ≤ 262144) (h2 : 0 ≤ R ∧ R ≤ 65536 ∧ 0 ≤ M ∧ M ≤ 65536) (h : qD R cs.length cs 0 = .ok) : oR cs R M = .ok := by
 unfold oR
 rw [if_neg (by omega), if_neg (by omega)]; exact h
def lQ (B : Int) (w : WI) : List WI := [⟨15, w.a, B, 0, 0, 0⟩, ⟨15, w.b, B, 0, 0, 1⟩, ⟨15, w.c, B, 0, 0, 2⟩, w, ⟨16, 0, B, w.d, 0, 3⟩, ⟨20, 0, 0, 0, 0, 0⟩]
theorem aBT {i : WI} {n : Int} (h0 : (iH i.op).isSome = true) (h1 : rT (kV i.op) i 28 = false) (h2 : rS (kV i.op) i = false) (h3 : 10 ≤ i.op → i.op ≤ 12 → 0 ≤ i.k ∧ i.k ≤ 63) (h4 : i.op = 20 → 0 ≤ i.k ∧ i.k ≤ 2) (h5 : i.op = 15 ∨ i.op = 16 → 0 ≤ i.k ∧ i.k ≤ 65535) (h6 : ¬ (17 ≤ i.op ∧ i.op ≤ 19)) : iN i 28 n = none := by
 unfold iN
 rw [h0, h1, h2, if_neg (by decide), if_neg (by decide), if_neg (by decide)]
 by_cases e1 : i.op = 10 ∨ i.op = 11 ∨ i.op = 12
 ·have := h3 (by omega) (by omega)
  rw [if_pos e1, if_neg (by omega)]
 rw [if_neg e1]
 by_cases e2 : i.op = 20
 ·have := h4 e2
  rw [if_pos e2, if_neg (by omega)]
 rw [if_neg e2]
 by_cases e3 : i.op = 15 ∨ i.op = 16
 ·have := h5 e3
  rw [if_pos e3, if_neg (by omega)]
 rw [if_neg e3, if_neg (by omega)]
structure WI.Each (w : WI) : Prop where
 op : 2 ≤ w.op ∧ w.op ≤ 14
 a : 0 ≤ w.a ∧ w.a < 28
 b : 0 ≤ w.b ∧ w.b < 28
 c : 0 ≤ w.c ∧ w.c < 28
 d : 0 ≤ w.d ∧ w.d < 28
 b0 : w.op = 2 ∨ (10 ≤ w.op ∧ w.op ≤ 12) → w.b = 0
 c0 : w.op ≠ 14 → w.c = 0
 k0 : ¬ (10 ≤ w.op ∧ w.op ≤ 12) → w.k = 0
 k : 0 ≤ w.k ∧ w.k ≤ 63
theorem aEu {d B k n : Int} (hd : 0 ≤ d ∧ d < 28) (hB : 0 ≤ B ∧ B < 28) (hk : 0 ≤ k ∧ k ≤ 65535) : iN ⟨15, d, B, 0, 0, k⟩ 28 n = none :=
 aBT rfl (by simp [rT, nZ, kV, iH]; omega) (by simp [rS, kV, iH]) (by simp) (by simp) (fun _ => hk) (by simp)
theorem aMa {b B k n : Int} (hb : 0 ≤ b ∧ b < 28) (hB : 0 ≤ B ∧ B < 28) (hk : 0 ≤ k ∧ k ≤ 65535) : iN ⟨16, 0, B, b, 0, k⟩ 28 n = none :=
 aBT rfl (by simp [rT, nZ, kV, iH]; omega) (by simp [rS, kV, iH]) (by simp) (by simp) (fun _ => hk) (by simp)
theorem aLZ {n : Int} : iN ⟨20, 0, 0, 0, 0, 0⟩ 28 n = none :=
 aBT rfl (by simp [rT, nZ, kV, iH]) (by simp [rS, kV, iH]) (by simp) (by simp) (by simp) (by simp)
theorem aNs {w : WI} {n : Int} (h : w.Each) : iN w 28 n = none := by
 obtain ⟨hop, ha, hb, hc, hd, hb0, hc0, hk0, hk⟩ := h
 obtain ⟨op, d, a, b, c, k⟩ := w
 simp only at hop ha hb hc hd hb0 hc0 hk0 hk
 have : op = 2 ∨ op = 3 ∨ op = 4 ∨ op = 5 ∨ op = 6 ∨ op = 7 ∨ op = 8 ∨ op = 9 ∨ op = 10 ∨ op = 11 ∨ op = 12 ∨ op = 13 ∨ op = 14 := by omega
 rcases this with rfl | rfl | rfl | rfl | rfl | rfl | rfl | rfl | rfl | rfl | rfl | rfl | rfl <;> exact aBT rfl (by simp [rT, nZ, kV, iH]; omega) (by simp [rS, kV, iH]; first | done | omega | (simp at hb0 hc0 hk0; omega)) (fun _ _ => hk) (by simp) (by simp) (by simp)
theorem aEe {w : WI} {B : Int} (h : w.Each) (hB : 0 ≤ B ∧ B < 28) : oR (lQ B w) 28 4 = .ok := by
 refine aGG (by simp [lQ]) (by decide) (aCA fun i hi => ?_)
 unfold lQ at hi
 simp only [List.mem_cons, List.not_mem_nil, or_false] at hi
 rcases hi with rfl | rfl | rfl | rfl | rfl | rfl
 ·exact aEu h.a hB (by decide)
 ·exact aEu h.b hB (by decide)
 ·exact aEu h.c hB (by decide)
 ·exact aNs h
 ·exact aMa h.d hB (by decide)
 ·exact aLZ
def Zr (B : Nat) (r : List Nat) : Prop := r.length = 28 ∧ r.getD B 0 = 0
theorem Zr.set {B : Nat} {r : List Nat} (h : Zr B r) (d x : Nat) (hd : d ≠ B) : Zr B (r.set d x) := by
 refine ⟨by simpa using h.1, ?_⟩
 rw [List.getD_eq_getElem?_getD, List.getElem?_set, if_neg hd, ← List.getD_eq_getElem?_getD]; exact h.2
theorem aBG {cs : List WI} {f : Nat} {r : List Nat} {j : Nat} {cd : Int} {mem : List Nat} {lk : List (Int × Int)} {d B k : Int} (hz : Zr B.toNat r) (hd : d.toNat ≠ B.toNat) (hk : 0 ≤ k ∧ k < 4) (hm : mem.length = 4) (hj : j < cs.length) (hj9 : j < 10) (hi : cs.getD j default = ⟨15, d, B, 0, 0, k⟩) :
  ∃ r2 lk2, Zr B.toNat r2 ∧ oA cs 10 (f + 1) ⟨r, j, cd, mem, lk, j⟩ = oA cs 10 f ⟨r2, j + 1, cd, mem, lk2, j + 1⟩ := by
 have e : MS.rg ⟨r, j, cd, mem, lk, j⟩ B = 0 := hz.2
 have ek : u64 k = k.toNat := by unfold u64; omega
 have hs := aDT (s := ⟨r, j, cd, mem, lk, j⟩) (d := d) (a := B) (b := 0) (c := 0) (k := k) (y := k.toNat) (by rw [e, ek]; omega) (by show ¬ mem.length ≤ _; omega)
 exact ⟨_, _, hz.set _ _ hd, aCd hj (show ((j : Nat) : Int) ≠ 10 by omega) hi hs⟩
theorem aGZ {w : WI} {B : Int} (h : w.Each) (hB : 0 ≤ B ∧ B < 28) (ha : w.a ≠ B) (hb : w.b ≠ B) (hc : w.c ≠ B) (hd : w.d ≠ B) (mem : List Nat) (hm : mem.length = 4) (f : Nat) :
  ∃ s, oA (lQ B w) 10 (f + 6) (s0 28 mem) = some s ∧ s.code = 0 := by
 have z0 : Zr B.toNat (List.replicate 28 0) := by
  refine ⟨by simp, ?_⟩
  rw [List.getD_eq_getElem?_getD, List.getElem?_replicate]; split <;> rfl
 have a := h.a
 have b := h.b
 have c := h.c
 have d := h.d
 obtain ⟨r1, l1, z1, e1⟩ := aBG (cs := lQ B w) (f := f + 5) (r := List.replicate 28 0) (j := 0) (cd := 0) (mem := mem) (lk := []) z0 (d := w.a) (by omega) (k := 0) (by decide) hm (by simp [lQ]) (by decide) rfl
 obtain ⟨r2, l2, z2, e2⟩ := aBG (cs := lQ B w) (f := f + 4) (r := r1) (j := 1) (cd := 0) (mem := mem) (lk := l1) z1 (d := w.b) (by omega) (k := 1) (by decide) hm (by simp [lQ]) (by decide) rfl
 obtain ⟨r3, l3, z3, e3⟩ := aBG (cs := lQ B w) (f := f + 3) (r := r2) (j := 2) (cd := 0) (mem := mem) (lk := l2) z2 (d := w.c) (by omega) (k := 2) (by decide) hm (by simp [lQ]) (by decide) rfl
 have hv : (iS w.op w.k (MS.rg ⟨r3, 3, 0, mem, l3, 3⟩ w.a) (MS.rg ⟨r3, 3, 0, mem, l3, 3⟩ w.b) (MS.rg ⟨r3, 3, 0, mem, l3, 3⟩ w.c)).2 = true := aCk (by have := h.op; omega) (fun _ _ => h.k)
 have s4 := aBm (s := ⟨r3, 3, 0, mem, l3, 3⟩) (i := w) (by have := h.op; omega) hv
 have e4 := aCd (cs := lQ B w) (fuel := 10) (f := f + 2) (s := ⟨r3, 3, 0, mem, l3, 3⟩) (by simp [lQ]) (show ((3 : Nat) : Int) ≠ 10 by decide) (i := w) rfl s4
 have z4 := z3.set w.d.toNat (iS w.op w.k (MS.rg ⟨r3, 3, 0, mem, l3, 3⟩ w.a) (MS.rg ⟨r3, 3, 0, mem, l3, 3⟩ w.b) (MS.rg ⟨r3, 3, 0, mem, l3, 3⟩ w.c)).1 (by omega)
 obtain ⟨r4, hr4⟩ : ∃ r4, r4 = r3.set w.d.toNat (iS w.op w.k (MS.rg ⟨r3, 3, 0, mem, l3, 3⟩ w.a) (MS.rg ⟨r3, 3, 0, mem, l3, 3⟩ w.b) (MS.rg ⟨r3, 3, 0, mem, l3, 3⟩ w.c)).1 := ⟨_, rfl⟩
 simp only [← hr4] at e4 z4
 have eB : MS.rg ⟨r4, 3 + 1, 0, mem, l3 ++ [(1, ((3 : Nat) : Int))], 3 + 1⟩ B = 0 := z4.2
 have s5 := aDU (s := ⟨r4, 3 + 1, 0, mem, l3 ++ [(1, ((3 : Nat) : Int))], 3 + 1⟩) (d := 0) (a := B) (b := w.d) (c := 0) (k := 3) (y := 3) (by rw [eB]; rfl) (by show ¬ mem.length ≤ 3; omega)
 have e5 := aCd (cs := lQ B w) (fuel := 10) (f := f + 1) (s := ⟨r4, 3 + 1, 0, mem, l3 ++ [(1, ((3 : Nat) : Int))], 3 + 1⟩) (by simp [lQ]) (show ((4 : Nat) : Int) ≠ 10 by decide) rfl s5
 have e6 := aIi (cs := lQ B w) (fuel := 10) (f := f) (s := ⟨r4, 3 + 1 + 1, 0, mem.set 3 (MS.rg ⟨r4, 3 + 1, 0, mem, l3 ++ [(1, ((3 : Nat) : Int))], 3 + 1⟩ w.d), l3 ++ [(1, ((3 : Nat) : Int))] ++ [(1, ((3 + 1 : Nat) : Int)), (3, lV 3)], 3 + 1 + 1⟩) (i := ⟨20, 0, 0, 0, 0, 0⟩) (s2 := ⟨r4, 3 + 1 + 1 + 1, 0, mem.set 3 (MS.rg ⟨r4, 3 + 1, 0, mem, l3 ++ [(1, ((3 : Nat) : Int))], 3 + 1⟩ w.d), l3 ++ [(1, ((3 : Nat) : Int))] ++ [(1, ((3 + 1 : Nat) : Int)), (3, lV 3)] ++ [(1, ((3 + 1 + 1 : Nat) : Int))], 3 + 1 + 1 + 1⟩) (by simp [lQ]) (show ((5 : Nat) : Int) ≠ 10 by decide) rfl rfl
 rw [show oA (lQ B w) 10 (f + 6) (s0 28 mem) = oA (lQ B w) 10 (f + 5 + 1) ⟨List.replicate 28 0, 0, 0, mem, [], 0⟩ from rfl, e1, e2, e3, e4, e5, e6]
 exact ⟨_, rfl, rfl⟩
theorem aBP (G : aI) (k : Nat) (n m : Int) (h0 : 0 < m) (h1 : m < 9223372036854775808) (hn : -9223372036854775808 ≤ n) (hn' : n < 9223372036854775808) :
  bC.f G (k + 1) [.int .i64 n, .int .i64 m] [] = some (.int .i64 (n % m), []) := by
 rw [bC.step]
 unfold bC.c
 rw [xK _ _ _ _ _ _ (by omega)]
 have hlt := Int.tmod_lt_of_pos n h0
 have hgt : -m < n.tmod m := by have := Int.tmod_lt_of_pos (-n) h0; rw [Int.neg_tmod] at this; omega
 have hm : n.tmod m % m = n % m := by
  rw [Int.tmod_eq_emod]; split
  ·simp
  ·have e : (m.natAbs : Int) = m := by omega
   simp [e]
 by_cases h : n.tmod m < 0
 ·simp only [vH, aCC, lP, h, decide_true, aEd, kH, List.length_nil, aCR, aDo]
  rw [fD (by omega) (by omega)]
  congr 3
  rw [← hm, ← Int.add_emod_right]
  exact (Int.emod_eq_of_lt (by omega) (by omega)).symm
 ·simp only [vH, aCC, lP, h, decide_false, aCH, List.length_nil, aCR, aDo]
  congr 3
  rw [← hm]
  exact (Int.emod_eq_of_lt (by omega) (by omega)).symm
end Go.Proofs.YtdfglgnflldkpaaDoor.Mir
namespace Go.Proofs.YtdfglgnflldkpaaDoor
open Go Go.Proofs.YtdfglgnflldkpaaDoor.Mir
set_option linter.unusedVariables false
set_option linter.unusedSimpArgs false
set_option maxHeartbeats 8000000
set_option maxRecDepth 20000
theorem aOj (T : Nat) (j : Nat) (H : aF) (z cs : List AV) (hz : z.length = 35) (hc : cs.length = 35) (e : H[j]? = some ⟨T, 35, [.agg z]⟩) : eH (aO 35 (.ptr j 1 0 0) (.agg cs) H) = some (.tup [], H.set j ⟨T, 35, [.agg cs]⟩) := by
 have e2 : jM z 0 cs = cs := by
  unfold jM
  rw [List.take_zero, List.nil_append, List.drop_of_length_le (by omega), List.append_nil]
 have e3 : (AV.agg cs).cells = cs := rfl
 have e4 : (AV.agg z).cells = z := rfl
 have hs : fF (.agg cs) = true := rfl
 unfold aO
 simp only [e, List.length_singleton, hs, List.getElem?_cons_zero, e3]
 rw [if_pos (by refine ⟨?_, ?_, ?_⟩ <;> first | trivial | exact hc), e4, if_pos (by omega), e2]
 rfl
theorem aMW (n : Int) : ∃ m : Nat, m ≤ 63 ∧ bits .and .i64 n 63 = (m : Int) := by
 refine ⟨(BitVec.ofInt 64 n).toNat % 64, by omega, ?_⟩
 show IntKind.i64.wrap ((BitVec.ofInt 64 n &&& BitVec.ofInt 64 63).toNat : Int) = _
 have e2 : (BitVec.ofInt 64 (63 : Int)).toNat = 2 ^ 6 - 1 := by decide
 rw [BitVec.toNat_and, e2, Nat.and_two_pow_sub_one_eq_mod, fD (by omega) (by omega)]
section
variable (G : aI) (k : Nat) (self : dE) (u1 u2 u3 : AV) (w : WI)
abbrev bxW (w : WI) : ABlk := ⟨60, 6, [.agg [I6 w.op, I6 w.d, I6 w.a, I6 w.b, I6 w.c, I6 w.k]]⟩
theorem xI (hu : cS 1 [u1, u2, u3] = true) (B : Int) (hB : 0 < B ∧ B < 100) (n : Nat) (h : B = w.a ∨ B = w.b ∨ B = w.c ∨ B = w.d) :
  gH (alembiclaw24_SelectEach.l19 G k 1 self) (n + 1) [u1, u2, u3, .ptr 0 1 0 0, .bool true, I6 B] [bxW w] = gH (alembiclaw24_SelectEach.l19 G k 1 self) n [u1, u2, u3, .ptr 0 1 0 0, .bool true, I6 (B - 1)] [bxW w] := by
 have hc : iL 1 [u1, u2, u3, .ptr 0 1 0 0, .bool true, I6 B] [bxW w] = some [bxW w] := by
  simp only [cS, Bool.and_eq_true] at hu
  unfold iL
  simp [cS, cK, dL, hu]
 rw [fJ, alembiclaw24_SelectEach.l19]
 refine jU ?_
 refine eC hc ?_
 have q : aQ Tryd.prog .sub 3 true (I6 B) (.int .i64 1) = some (I6 (B - 1)) := aFI (by omega) (by omega)
 obtain ⟨op, d, a, b, c, kk⟩ := w
 unfold bxW at *
 simp only at h ⊢
 by_cases h1 : B = a
 ·have q1 : aQ Tryd.prog .eql 3 false (I6 B) (I6 a) = some (.bool true) := jX h1
  clear h hc
  have fx := aOO q <| q1
  refine jL ?_
  rfl
 have q1 : aQ Tryd.prog .eql 3 false (I6 B) (I6 a) = some (.bool false) := gU h1
 by_cases h2 : B = b
 ·have q2 : aQ Tryd.prog .eql 3 false (I6 B) (I6 b) = some (.bool true) := jX h2
  clear h hc
  have fx := aOO q <| aOO q1 <| q2
  refine jL ?_
  rfl
 have q2 : aQ Tryd.prog .eql 3 false (I6 B) (I6 b) = some (.bool false) := gU h2
 by_cases h3 : B = c
 ·have q3 : aQ Tryd.prog .eql 3 false (I6 B) (I6 c) = some (.bool true) := jX h3
  clear h hc
  have fx := aOO q <| aOO q1 <| aOO q2 <| q3
  refine jL ?_
  rfl
 have q3 : aQ Tryd.prog .eql 3 false (I6 B) (I6 c) = some (.bool false) := gU h3
 have q4 : aQ Tryd.prog .eql 3 false (I6 B) (I6 d) = some (.bool true) := jX (by omega)
 clear h hc
 have fx := aOO q <| aOO q1 <| aOO q2 <| aOO q3 <| q4
 refine jL ?_
 rfl
theorem qG (hu : cS 1 [u1, u2, u3] = true) (B : Int) (n : Nat) (h1 : B ≠ w.a) (h2 : B ≠ w.b) (h3 : B ≠ w.c) (h4 : B ≠ w.d) :
  gH (alembiclaw24_SelectEach.l19 G k 1 self) (n + 1) [u1, u2, u3, .ptr 0 1 0 0, .bool true, I6 B] [bxW w] = some (.exit 0, [u1, u2, u3, .ptr 0 1 0 0, .bool true, I6 B], [bxW w]) := by
 have hc : iL 1 [u1, u2, u3, .ptr 0 1 0 0, .bool true, I6 B] [bxW w] = some [bxW w] := by
  simp only [cS, Bool.and_eq_true] at hu
  unfold iL
  simp [cS, cK, dL, hu]
 rw [fJ, alembiclaw24_SelectEach.l19]
 refine jU ?_
 refine eC hc ?_
 obtain ⟨op, d, a, b, c, kk⟩ := w
 unfold bxW at *
 simp only at h1 h2 h3 h4 ⊢
 have q1 : aQ Tryd.prog .eql 3 false (I6 B) (I6 a) = some (.bool false) := gU h1
 have q2 : aQ Tryd.prog .eql 3 false (I6 B) (I6 b) = some (.bool false) := gU h2
 have q3 : aQ Tryd.prog .eql 3 false (I6 B) (I6 c) = some (.bool false) := gU h3
 have q4 : aQ Tryd.prog .eql 3 false (I6 B) (I6 d) = some (.bool false) := gU h4
 clear hc
 have fx := aOO q1 <| aOO q2 <| aOO q3 <| q4
 refine jL ?_
 rfl
theorem aGa (hu : cS 1 [u1, u2, u3] = true) (n : Nat) : ∃ B : Int, (0 ≤ B ∧ B < 28) ∧ w.a ≠ B ∧ w.b ≠ B ∧ w.c ≠ B ∧ w.d ≠ B ∧
  gH (alembiclaw24_SelectEach.l19 G k 1 self) (n + 6) [u1, u2, u3, .ptr 0 1 0 0, .bool true, I6 27] [bxW w] = some (.exit 0, [u1, u2, u3, .ptr 0 1 0 0, .bool true, I6 B], [bxW w]) := by
 by_cases h27 : (27 : Int) = w.a ∨ 27 = w.b ∨ 27 = w.c ∨ 27 = w.d
 ·rw [xI G k self u1 u2 u3 w hu 27 (by decide) (n + 5) h27]
  by_cases h26 : (26 : Int) = w.a ∨ 26 = w.b ∨ 26 = w.c ∨ 26 = w.d
  ·rw [show (27 : Int) - 1 = 26 by rfl, xI G k self u1 u2 u3 w hu 26 (by decide) (n + 4) h26]
   by_cases h25 : (25 : Int) = w.a ∨ 25 = w.b ∨ 25 = w.c ∨ 25 = w.d
   ·rw [show (26 : Int) - 1 = 25 by rfl, xI G k self u1 u2 u3 w hu 25 (by decide) (n + 3) h25]
    by_cases h24 : (24 : Int) = w.a ∨ 24 = w.b ∨ 24 = w.c ∨ 24 = w.d
    ·rw [show (25 : Int) - 1 = 24 by rfl, xI G k self u1 u2 u3 w hu 24 (by decide) (n + 2) h24]
     have hno : w.a ≠ 23 ∧ w.b ≠ 23 ∧ w.c ≠ 23 ∧ w.d ≠ 23 := by omega
     exact ⟨23, by decide, hno.1, hno.2.1, hno.2.2.1, hno.2.2.2, qG G k self u1 u2 u3 w hu 23 (n + 1) (by omega) (by omega) (by omega) (by omega)⟩
    ·exact ⟨24, by decide, by omega, by omega, by omega, by omega, qG G k self u1 u2 u3 w hu 24 (n + 2) (by omega) (by omega) (by omega) (by omega)⟩
   ·exact ⟨25, by decide, by omega, by omega, by omega, by omega, qG G k self u1 u2 u3 w hu 25 (n + 3) (by omega) (by omega) (by omega) (by omega)⟩
  ·exact ⟨26, by decide, by omega, by omega, by omega, by omega, qG G k self u1 u2 u3 w hu 26 (n + 4) (by omega) (by omega) (by omega) (by omega)⟩
 ·exact ⟨27, by decide, by omega, by omega, by omega, by omega, qG G k self u1 u2 u3 w hu 27 (n + 5) (by omega) (by omega) (by omega) (by omega)⟩
end
abbrev GH : aI := aBf 180 [1, 0, 3, 2, 4]
theorem aMV : GOk GH := ⟨rfl, rfl, rfl, rfl, rfl⟩
theorem aGY (op d0 a0 b0 c0 k0 : Int) (u1 u2 u3 : Nat) (x y z v : Int) (hu1 : u1 < 18446744073709551616) (hu2 : u2 < 18446744073709551616) (hu3 : u3 < 18446744073709551616) (hx : -9223372036854775808 ≤ x ∧ x < 9223372036854775808) (hy : -9223372036854775808 ≤ y ∧ y < 9223372036854775808) (hz : -9223372036854775808 ≤ z ∧ z < 9223372036854775808) (hv : -9223372036854775808 ≤ v ∧ v < 9223372036854775808) :
  alembiclaw24_SelectEach.f GH 8001 [.agg [I6 op, I6 d0, I6 a0, I6 b0, I6 c0, I6 k0], Un u1, Un u2, Un u3, I6 x, I6 y, I6 z, I6 v] [] = some (.bool true, []) := by
 have hG := aMV
 have rf : ∀ H, aE (cZ.f GH 8000) [] H = _ := fun H => aD (H := H) (aJg GH 7920) rfl rfl
 have nx : ∀ H, aE (bC.f GH 8000) [I6 x, .int .i64 28] H = _ := fun H => aD (H := H) (aBP GH 7999 x 28 (by decide) (by decide) hx.1 hx.2) rfl rfl
 have ny : ∀ H, aE (bC.f GH 8000) [I6 y, .int .i64 28] H = _ := fun H => aD (H := H) (aBP GH 7999 y 28 (by decide) (by decide) hy.1 hy.2) rfl rfl
 have nz : ∀ H, aE (bC.f GH 8000) [I6 z, .int .i64 28] H = _ := fun H => aD (H := H) (aBP GH 7999 z 28 (by decide) (by decide) hz.1 hz.2) rfl rfl
 have nv : ∀ H, aE (bC.f GH 8000) [I6 v, .int .i64 28] H = _ := fun H => aD (H := H) (aBP GH 7999 v 28 (by decide) (by decide) hv.1 hv.2) rfl rfl
 obtain ⟨a, ha⟩ : ∃ a, a = x % 28 := ⟨_, rfl⟩
 obtain ⟨b, hb⟩ : ∃ b, b = y % 28 := ⟨_, rfl⟩
 obtain ⟨c, hc⟩ : ∃ c, c = z % 28 := ⟨_, rfl⟩
 obtain ⟨d, hd⟩ : ∃ d, d = v % 28 := ⟨_, rfl⟩
 rw [← ha] at nx
 rw [← hb] at ny
 rw [← hc] at nz
 rw [← hd] at nv
 have ha2 : 0 ≤ a ∧ a < 28 := by omega
 have hb2 : 0 ≤ b ∧ b < 28 := by omega
 have hc2 : 0 ≤ c ∧ c < 28 := by omega
 have hd2 : 0 ≤ d ∧ d < 28 := by omega
 obtain ⟨m, hm, hkk⟩ := aMW k0
 have kq : aQ Tryd.prog .and 2 true (I6 k0) (.int .i64 63) = some (Nn m) := by rw [nC, hkk]
 clear hkk ha hb hc hd hx hy hz hv
 rw [alembiclaw24_SelectEach.step]
 unfold alembiclaw24_SelectEach.c
 refine dX ?_
 by_cases hop : ¬ (2 ≤ op ∧ op ≤ 14)
 ·by_cases h2 : op < 2
  ·have q1 : aQ Tryd.prog .lss 3 true (I6 op) (.int .i64 2) = some (.bool true) := pR h2
   have fx := aOO rf <| q1
   refine jL ?_
   exact xG rfl
  ·have q1 : aQ Tryd.prog .lss 3 true (I6 op) (.int .i64 2) = some (.bool false) := rO (by omega)
   have q2 : aQ Tryd.prog .gtr 3 true (I6 op) (.int .i64 14) = some (.bool true) := aBY (by omega)
   have fx := aOO rf <| aOO q1 <| q2
   refine jL ?_
   exact xG rfl
 replace hop := Classical.not_not.1 hop
 have q1 : aQ Tryd.prog .lss 3 true (I6 op) (.int .i64 2) = some (.bool false) := rO (by omega)
 have q2 : aQ Tryd.prog .gtr 3 true (I6 op) (.int .i64 14) = some (.bool false) := tZ (by omega)
 obtain ⟨w, hw, hwop, hwa, hwd, hwb, hwc, hwk⟩ : ∃ w : WI, w.Each ∧ w.op = op ∧ w.a = a ∧ w.d = d ∧ w.b = (if op = 2 ∨ (10 ≤ op ∧ op ≤ 12) then 0 else b) ∧ w.c = (if op = 14 then c else 0) ∧ w.k = (if 10 ≤ op ∧ op ≤ 12 then (m : Int) else 0) := by
  refine ⟨⟨op, d, a, if op = 2 ∨ (10 ≤ op ∧ op ≤ 12) then 0 else b, if op = 14 then c else 0, if 10 ≤ op ∧ op ≤ 12 then (m : Int) else 0⟩, ⟨hop, ha2, ?_, ?_, hd2, fun h => ?_, fun h => ?_, fun h => ?_, ?_⟩, rfl, rfl, rfl, rfl, rfl, rfl⟩
  ·simp only; split <;> omega
  ·simp only; split <;> omega
  ·exact if_pos h
  ·exact if_neg h
  ·exact if_neg h
  ·simp only; split <;> omega
 have hlow : cS 1 [Un u1, Un u2, Un u3] = true := rfl
 obtain ⟨B, hB, hBa, hBb, hBc, hBd, lp⟩ := aGa GH 8000 (alembiclaw24_SelectEach.f GH 8000) (Un u1) (Un u2) (Un u3) w hlow 7994
 obtain ⟨mem, hmem⟩ : ∃ mem : List Nat, mem = [u1, u2, u3, 0] := ⟨_, rfl⟩
 have hml : mem.length = 4 := by rw [hmem]; rfl
 have hmm : ∀ x ∈ mem, x < 18446744073709551616 := by
  intro x hx
  rw [hmem] at hx
  simp only [List.mem_cons, List.not_mem_nil, or_false] at hx
  omega
 have hval := aEe hw hB
 obtain ⟨s', hs', hcode⟩ := aGZ hw hB hBa hBb hBc hBd mem hml 7993
 obtain ⟨ws, hws⟩ : ∃ ws, ws = lQ B w := ⟨_, rfl⟩
 rw [← hws] at hval hs'
 have hwl : ws.length = 6 := by rw [hws]; rfl
 have hgood := wQ hval
 have hok2 : ∀ j, j < ws.length → (ws.getD j default).Ok2 28 ws.length := fun j hj => by
  refine (hgood _ ?_).ok2
  rw [List.getD_eq_getElem?_getD, List.getElem?_eq_getElem hj]; exact List.getElem_mem hj
 have pc := aGU ws 28 4
 have ro_ : ∀ H, aE (bP.f GH 8000) [cV false ws 28 4] H = _ := fun H => aD (H := H) (aEv GH 7999 ws 28 4) (by simp [dQ, pc]) (aGT ws 28 4)
 have rrun : ∀ H, aE (bH.f GH 8000) [cV false ws 28 4, .nils, .ro false (bY mem), .int .i64 10] H = _ := fun H => aD (H := H) (aGw (R := 28) GH 7996 10 false ws 4 mem false (by decide) hmm (by omega) (by rw [hml]; rfl) (by decide) (by decide) (by omega) hok2 (by omega) s' hs') (by simp [dQ, pc, bG, gE]) (aCl s' (-1))
 have plW : dQ (iI (pH ws)) = true := nQ _ (fun _ => rfl) _
 have clW : iW (iI (pH ws)) = true := nL _ (fun _ => rfl) _
 have rr : ∀ H, aE (bU.f GH 8000) [cV false ws 28 4] H = _ := fun H => aD (H := H) (aCw GH hG 7988 ws 28 4 (by omega) (by decide) hval (by decide)) (by simp [dQ, pc]) (by simp [fM, iW, clW])
 have hlen : (pH ws).length ≤ 54 := by
  have := rH ws.length ws
  unfold pH; rw [List.length_map, aDn]; omega
 have hcs : ∀ w ∈ pH ws, 0 ≤ w ∧ w < 4294967296 := by
  intro w hw
  obtain ⟨i, hi, rfl⟩ := List.mem_map.1 hw
  have hri := sJ (R := 28) (by decide) hgood (by omega) i hi
  exact ⟨(rB hri).1, (rB hri).2.1⟩
 obtain ⟨Q, hQ, e1, e2, _⟩ := aKa (R := 28) (K := 7999) (f := 7999) (by decide) hgood (by omega) (by decide) (by decide) (by decide) mem (by omega) hmm s' hs' (by rw [hcode]; decide) (by decide) (fuel := 400) (F := 10)
 have hQ31 : Q.regs.length = 31 := ((aFO (pH ws) 400 (by decide) _ _ _ hQ (aKM 3 mem hmm (by omega)) (by simp only [q0]; decide)).1).rg.len
 have rmach : ∀ H, aE (aW.f GH 8000) [.ro false (iI (pH ws)), .ro false (bY mem), .int .i64 400] H = _ := fun H => aD (H := H) (aBp (G := GH) (k := 7958) (bor := false) (cs := pH ws) (fuel := 400) false mem hmm (by omega) (by decide) (by decide) (by omega) (by omega) hcs Q hQ) (by simp [dQ, bG, plW, gE]) (aEf Q)
 have hsl : s'.mem.length = 4 := by
  have := (aFN ws 10 28 (by decide) (fun j hj => (hok2 j hj).ok) _ _ _ hs' (aIB 28 mem hmm (by omega)) (by simp [s0]) (by simp [s0])).2.2
  rw [this]; exact hml
 obtain ⟨L, hL⟩ : ∃ L, L = rsL (.ro false (bY Q.mem)) (.ro false (gS Q.leaks)) Q := ⟨_, rfl⟩
 have hLl := aJO (.ro false (bY Q.mem)) (.ro false (gS Q.leaks)) Q hQ31
 rw [← hL] at hLl
 rw [show aGf Q = .agg L by rw [hL]; rfl] at rmach
 obtain ⟨Z, hZ, hZl⟩ : ∃ Z, Z = rsL .nils .nils (q0 0 []) ∧ Z.length = 35 := ⟨_, rfl, rfl⟩
 have zz : (AV.agg [.int .i64 0, .nils, .int .u64 0, .int .u64 0, .int .u64 0, .int .u64 0, .int .u64 0, .int .u64 0, .int .u64 0, .int .u64 0, .int .u64 0, .int .u64 0, .int .u64 0, .int .u64 0, .int .u64 0, .int .u64 0, .int .u64 0, .int .u64 0, .int .u64 0, .int .u64 0, .int .u64 0, .int .u64 0, .int .u64 0, .int .u64 0, .int .u64 0, .int .u64 0, .int .u64 0, .int .u64 0, .int .u64 0, .int .u64 0, .int .u64 0, .int .u64 0, .int .u64 0, .nils, .int .i64 0]) = .agg (rsL .nils .nils (q0 0 [])) := rfl
 have z0 : L[0]? = some (I6 0) := by rw [hL, ← hcode, ← e1]; rfl
 have z1 : L[1]? = some (.ro false (bY s'.mem)) := by rw [hL, e2]; rfl
 obtain ⟨S, hS⟩ : ∃ S, S = vM s' (-1) := ⟨_, rfl⟩
 rw [← hS] at rrun
 have Sx : S = .agg [I6 0, .ro false (bY s'.mem), .ro false (gS s'.leaks), Nn s'.steps, I6 (-1)] := by rw [hS, ← hcode]; rfl
 have bld : ∀ H, eP 6 6 (.agg [(.int .i64 0), (.int .i64 0), (.int .i64 0), (.int .i64 0), (.int .i64 0), (.int .i64 0)]) [(0, .agg [(.int .i64 15), I6 w.a, I6 B, (.int .i64 0), (.int .i64 0), (.int .i64 0)]), (1, .agg [(.int .i64 15), I6 w.b, I6 B, (.int .i64 0), (.int .i64 0), (.int .i64 1)]), (2, .agg [(.int .i64 15), I6 w.c, I6 B, (.int .i64 0), (.int .i64 0), (.int .i64 2)]), (3, .agg [I6 w.op, I6 w.d, I6 w.a, I6 w.b, I6 w.c, I6 w.k]), (4, .agg [(.int .i64 16), (.int .i64 0), I6 B, I6 w.d, (.int .i64 0), (.int .i64 3)]), (5, .agg [(.int .i64 20), (.int .i64 0), (.int .i64 0), (.int .i64 0), (.int .i64 0), (.int .i64 0)])] H = some (.ro false (gQ ws), H) := fun H => by rw [hws]; rfl
 have bldM : ∀ H, eP 1 4 (.int .u64 0) [(0, Un u1), (1, Un u2), (2, Un u3), (3, .int .u64 0)] H = some (.ro false (bY mem), H) := fun H => by rw [hmem]; rfl
 have cvx : cV false ws 28 4 = .agg [.ro false (gQ ws), .int .i64 28, .int .i64 4] := rfl
 rw [cvx] at ro_ rrun rr
 have bx1 : ∀ X Y, eY 40 (.agg [.int .i64 0, .nils, .nils, .int .i64 0, .int .i64 0]) [X, Y] = some (.ptr 2 1 0 0, [X, Y, ⟨40, 5, [.agg [.int .i64 0, .nils, .nils, .int .i64 0, .int .i64 0]]⟩]) := fun X Y => rfl
 have sx1 : ∀ X Y, eH (aO 5 (.ptr 2 1 0 0) S [X, Y, ⟨40, 5, [.agg [.int .i64 0, .nils, .nils, .int .i64 0, .int .i64 0]]⟩]) = some (.tup [], [X, Y, ⟨40, 5, [S]⟩]) := fun X Y => by rw [Sx]; rfl
 have bx2 : ∀ X Y, eY 46 (.agg Z) [X, Y, ⟨40, 5, [S]⟩] = some (.ptr 3 1 0 0, [X, Y, ⟨40, 5, [S]⟩, ⟨46, 35, [.agg Z]⟩]) := fun X Y => by rw [hZ]; rfl
 have sx2 : ∀ X Y, eH (aO 35 (.ptr 3 1 0 0) (.agg L) [X, Y, ⟨40, 5, [S]⟩, ⟨46, 35, [.agg Z]⟩]) = some (.tup [], [X, Y, ⟨40, 5, [S]⟩, ⟨46, 35, [.agg L]⟩]) := fun X Y => aOj 46 3 [X, Y, ⟨40, 5, [S]⟩, ⟨46, 35, [.agg Z]⟩] Z L hZl hLl rfl
 have y0 : ∀ X Y l, aC GH false 1 (.ptr 2 1 0 0) (X :: Y :: ⟨40, 5, [S]⟩ :: l) = some (I6 0) := fun X Y l => by rw [Sx]; rfl
 have y1 : ∀ X Y l, aC GH false 1 (.ptr 2 1 0 1) (X :: Y :: ⟨40, 5, [S]⟩ :: l) = some (.ro false (bY s'.mem)) := fun X Y l => by rw [Sx]; rfl
 have v0 : ∀ X Y, aC GH false 1 (.ptr 3 1 0 0) [X, Y, ⟨40, 5, [S]⟩, ⟨46, 35, [.agg L]⟩] = some (I6 0) := fun X Y => (show _ = L[0]? from rfl).trans z0
 have v1 : ∀ X Y, aC GH false 1 (.ptr 3 1 0 1) [X, Y, ⟨40, 5, [S]⟩, ⟨46, 35, [.agg L]⟩] = some (.ro false (bY s'.mem)) := fun X Y => (show _ = L[1]? from rfl).trans z1
 have lm : dV (.ro false (bY s'.mem)) = some (.int .i64 4) := by simp [dV, bJ, hsl]
 obtain ⟨g, hg⟩ : ∃ g, g = s'.mem.getD 3 0 := ⟨_, rfl⟩
 have ix : cB 1 (.ro false (bY s'.mem)) (.int .i64 3) = some (.rp false (Un g) 0) := by
  have := kN s'.mem 3 (by omega)
  rw [← hg] at this
  exact uX (j := 3) this rfl
 have lx : ∀ H, aC GH false 1 (.rp false (Un g) 0) H = some (Un g) := fun H => rfl
 have qn : aQ Tryd.prog .eql 30 true .nili .nili = some (.bool true) := by kernel_rfl
 have q00 : aQ Tryd.prog .eql 3 true (I6 0) (.int .i64 0) = some (.bool true) := jX rfl
 have qgg : aQ Tryd.prog .eql 43 false (Un g) (Un g) = some (.bool true) := jX rfl
 have q44 : aQ Tryd.prog .eql 3 true (.int .i64 4) (.int .i64 4) = some (.bool true) := jX rfl
 rw [zz, ← hZ]
 clear hG hw hB hBa hBb hBc hBd hmem hml hmm hval hs' hcode hws hwl hgood hok2 pc plW clW hlen hcs hQ e1 e2 hQ31 hsl hL hLl hZ hZl zz z0 z1 hS Sx cvx hg hlow ha2 hb2 hc2 hd2 hm
 generalize gQ ws = Wi at *
 generalize iI (pH ws) = Wc at *
 generalize bY mem = NM at *
 generalize bY s'.mem = NS at *
 unfold bxW at lp
 by_cases h14 : op = 14
 ·have i1 : aQ Tryd.prog .eql 3 true (I6 op) (.int .i64 10) = some (.bool false) := gU (by omega)
  have i2 : aQ Tryd.prog .eql 3 true (I6 op) (.int .i64 11) = some (.bool false) := gU (by omega)
  have i3 : aQ Tryd.prog .eql 3 true (I6 op) (.int .i64 12) = some (.bool false) := gU (by omega)
  have i4 : aQ Tryd.prog .neq 3 true (I6 op) (.int .i64 14) = some (.bool false) := aBZ (by omega)
  have i5 : aQ Tryd.prog .eql 3 true (I6 op) (.int .i64 2) = some (.bool false) := gU (by omega)
  rw [if_neg (by omega)] at hwb hwk
  rw [if_pos h14] at hwc
  rw [hwop, hwa, hwb, hwc, hwd, hwk] at lp bld
  clear hwop hwa hwb hwc hwd hwk h14 hop
  have fx := aOO rf <| aOO q1 <| aOO q2 <| aOO nx <| aOO ny <| aOO nz <| aOO nv <| aOO kq <| aOO i1 <| aOO i2 <| aOO i3 <| aOO i4 <| i5
  refine jL ?_
  refine eK ?_
  refine eL lp ?_
  have fx := aOO bld <| aOO bldM <| aOO ro_ <| aOO rrun <| aOO rr <| aOO bx1 <| aOO sx1 <| aOO rmach <| aOO bx2 <| aOO sx2 <| aOO y0 <| aOO y1 <| aOO v0 <| aOO v1 <| aOO lm <| aOO ix <| aOO lx <| aOO qn <| aOO q00 <| aOO qgg <| q44
  refine jL ?_
  exact xG rfl
 have i4 : aQ Tryd.prog .neq 3 true (I6 op) (.int .i64 14) = some (.bool true) := aCa h14
 rw [if_neg h14] at hwc
 by_cases h2 : op = 2
 ·have i1 : aQ Tryd.prog .eql 3 true (I6 op) (.int .i64 10) = some (.bool false) := gU (by omega)
  have i2 : aQ Tryd.prog .eql 3 true (I6 op) (.int .i64 11) = some (.bool false) := gU (by omega)
  have i3 : aQ Tryd.prog .eql 3 true (I6 op) (.int .i64 12) = some (.bool false) := gU (by omega)
  have i5 : aQ Tryd.prog .eql 3 true (I6 op) (.int .i64 2) = some (.bool true) := jX h2
  rw [if_pos (by omega)] at hwb
  rw [if_neg (by omega)] at hwk
  rw [hwop, hwa, hwb, hwc, hwd, hwk] at lp bld
  clear hwop hwa hwb hwc hwd hwk h14 hop h2
  have fx := aOO rf <| aOO q1 <| aOO q2 <| aOO nx <| aOO ny <| aOO nz <| aOO nv <| aOO kq <| aOO i1 <| aOO i2 <| aOO i3 <| aOO i4 <| i5
  refine jL ?_
  refine eK ?_
  refine eL lp ?_
  have fx := aOO bld <| aOO bldM <| aOO ro_ <| aOO rrun <| aOO rr <| aOO bx1 <| aOO sx1 <| aOO rmach <| aOO bx2 <| aOO sx2 <| aOO y0 <| aOO y1 <| aOO v0 <| aOO v1 <| aOO lm <| aOO ix <| aOO lx <| aOO qn <| aOO q00 <| aOO qgg <| q44
  refine jL ?_
  exact xG rfl
 have i5 : aQ Tryd.prog .eql 3 true (I6 op) (.int .i64 2) = some (.bool false) := gU h2
 by_cases hs : 10 ≤ op ∧ op ≤ 12
 ·rw [if_pos (by omega)] at hwb
  rw [if_pos hs] at hwk
  rw [hwop, hwa, hwb, hwc, hwd, hwk] at lp bld
  by_cases h10 : op = 10
  ·have i1 : aQ Tryd.prog .eql 3 true (I6 op) (.int .i64 10) = some (.bool true) := jX h10
   clear hwop hwa hwb hwc hwd hwk h14 hop h2 hs h10
   have fx := aOO rf <| aOO q1 <| aOO q2 <| aOO nx <| aOO ny <| aOO nz <| aOO nv <| aOO kq <| aOO i1 <| aOO i4 <| i5
   refine jL ?_
   refine eK ?_
   refine eL lp ?_
   have fx := aOO bld <| aOO bldM <| aOO ro_ <| aOO rrun <| aOO rr <| aOO bx1 <| aOO sx1 <| aOO rmach <| aOO bx2 <| aOO sx2 <| aOO y0 <| aOO y1 <| aOO v0 <| aOO v1 <| aOO lm <| aOO ix <| aOO lx <| aOO qn <| aOO q00 <| aOO qgg <| q44
   refine jL ?_
   exact xG rfl
  have i1 : aQ Tryd.prog .eql 3 true (I6 op) (.int .i64 10) = some (.bool false) := gU h10
  by_cases h11 : op = 11
  ·have i2 : aQ Tryd.prog .eql 3 true (I6 op) (.int .i64 11) = some (.bool true) := jX h11
   clear hwop hwa hwb hwc hwd hwk h14 hop h2 hs h10 h11
   have fx := aOO rf <| aOO q1 <| aOO q2 <| aOO nx <| aOO ny <| aOO nz <| aOO nv <| aOO kq <| aOO i1 <| aOO i2 <| aOO i4 <| i5
   refine jL ?_
   refine eK ?_
   refine eL lp ?_
   have fx := aOO bld <| aOO bldM <| aOO ro_ <| aOO rrun <| aOO rr <| aOO bx1 <| aOO sx1 <| aOO rmach <| aOO bx2 <| aOO sx2 <| aOO y0 <| aOO y1 <| aOO v0 <| aOO v1 <| aOO lm <| aOO ix <| aOO lx <| aOO qn <| aOO q00 <| aOO qgg <| q44
   refine jL ?_
   exact xG rfl
  have i2 : aQ Tryd.prog .eql 3 true (I6 op) (.int .i64 11) = some (.bool false) := gU h11
  have i3 : aQ Tryd.prog .eql 3 true (I6 op) (.int .i64 12) = some (.bool true) := jX (by omega)
  clear hwop hwa hwb hwc hwd hwk h14 hop h2 hs h10 h11
  have fx := aOO rf <| aOO q1 <| aOO q2 <| aOO nx <| aOO ny <| aOO nz <| aOO nv <| aOO kq <| aOO i1 <| aOO i2 <| aOO i3 <| aOO i4 <| i5
  refine jL ?_
  refine eK ?_
  refine eL lp ?_
  have fx := aOO bld <| aOO bldM <| aOO ro_ <| aOO rrun <| aOO rr <| aOO bx1 <| aOO sx1 <| aOO rmach <| aOO bx2 <| aOO sx2 <| aOO y0 <| aOO y1 <| aOO v0 <| aOO v1 <| aOO lm <| aOO ix <| aOO lx <| aOO qn <| aOO q00 <| aOO qgg <| q44
  refine jL ?_
  exact xG rfl
 ·have i1 : aQ Tryd.prog .eql 3 true (I6 op) (.int .i64 10) = some (.bool false) := gU (by omega)
  have i2 : aQ Tryd.prog .eql 3 true (I6 op) (.int .i64 11) = some (.bool false) := gU (by omega)
  have i3 : aQ Tryd.prog .eql 3 true (I6 op) (.int .i64 12) = some (.bool false) := gU (by omega)
  rw [if_neg (by omega)] at hwb
  rw [if_neg hs] at hwk
  rw [hwop, hwa, hwb, hwc, hwd, hwk] at lp bld
  clear hwop hwa hwb hwc hwd hwk h14 hop h2 hs
  have fx := aOO rf <| aOO q1 <| aOO q2 <| aOO nx <| aOO ny <| aOO nz <| aOO nv <| aOO kq <| aOO i1 <| aOO i2 <| aOO i3 <| aOO i4 <| i5
  refine jL ?_
  refine eK ?_
  refine eL lp ?_
  have fx := aOO bld <| aOO bldM <| aOO ro_ <| aOO rrun <| aOO rr <| aOO bx1 <| aOO sx1 <| aOO rmach <| aOO bx2 <| aOO sx2 <| aOO y0 <| aOO y1 <| aOO v0 <| aOO v1 <| aOO lm <| aOO ix <| aOO lx <| aOO qn <| aOO q00 <| aOO qgg <| q44
  refine jL ?_
  exact xG rfl
theorem LSelectEach.law (xs : List AV) (h : IsTs Tryd.prog [60, 43, 43, 43, 3, 3, 3, 3] xs) : ∃ k, alembiclaw24_SelectEach.f (aBf 180 [1, 0, 3, 2, 4]) k xs [] = some (.bool true, []) := by
 obtain ⟨x1, _, rfl, hx1, h⟩ := h.uncons
 obtain ⟨x2, _, rfl, hx2, h⟩ := h.uncons
 obtain ⟨x3, _, rfl, hx3, h⟩ := h.uncons
 obtain ⟨x4, _, rfl, hx4, h⟩ := h.uncons
 obtain ⟨x5, _, rfl, hx5, h⟩ := h.uncons
 obtain ⟨x6, _, rfl, hx6, h⟩ := h.uncons
 obtain ⟨x7, _, rfl, hx7, h⟩ := h.uncons
 obtain ⟨x8, _, rfl, hx8, h⟩ := h.uncons
 obtain rfl := h.unnil
 obtain ⟨i, rfl, _⟩ := aLN hx1
 obtain ⟨p1, rfl, h1⟩ := hx2.of_int (k := .u64) Tryd.underlying43
 obtain ⟨p2, rfl, h2⟩ := hx3.of_int (k := .u64) Tryd.underlying43
 obtain ⟨p3, rfl, h3⟩ := hx4.of_int (k := .u64) Tryd.underlying43
 obtain ⟨x, rfl, h5⟩ := hx5.of_int (k := .i64) Tryd.underlying3
 obtain ⟨y, rfl, h6⟩ := hx6.of_int (k := .i64) Tryd.underlying3
 obtain ⟨z, rfl, h7⟩ := hx7.of_int (k := .i64) Tryd.underlying3
 obtain ⟨v, rfl, h8⟩ := hx8.of_int (k := .i64) Tryd.underlying3
 replace h1 := aET h1
 replace h2 := aET h2
 replace h3 := aET h3
 obtain ⟨u1, rfl⟩ : ∃ u : Nat, p1 = (u : Int) := ⟨p1.toNat, by omega⟩
 obtain ⟨u2, rfl⟩ : ∃ u : Nat, p2 = (u : Int) := ⟨p2.toNat, by omega⟩
 obtain ⟨u3, rfl⟩ : ∃ u : Nat, p3 = (u : Int) := ⟨p3.toNat, by omega⟩
 exact ⟨8001, aGY i.op i.d i.a i.b i.c i.k u1 u2 u3 x y z v (by omega) (by omega) (by omega) (aAk h5) (aAk h6) (aAk h7) (aAk h8)⟩
end Go.Proofs.YtdfglgnflldkpaaDoor
namespace Go.Proofs.YtdfglgnflldkpaaDoor
open Go Go.ChangeShapes Go.WideShapes Go.RowKit Mir
set_option linter.unusedVariables false
set_option linter.unusedSimpArgs false
namespace RSelectEach
noncomputable def aAT (os : Os) : World :=
 let w0 := World.holding Tryd.prog os ⟨#[.cells #[.string ⟨#[97, 32, 110, 117, 109, 98, 101, 114, 32, 111, 117, 116, 32, 111, 102, 32, 105, 116, 115, 32, 114, 97, 110, 103, 101]⟩] 197, .cells #[.string ⟨#[116, 111, 111, 32, 109, 97, 110, 121]⟩] 197, .cells #[.string ⟨#[110, 111, 116, 32, 97, 115, 32, 105, 116, 32, 104, 97, 115, 32, 116, 111, 32, 98, 101]⟩] 197, .cells #[.string ⟨#[110, 111, 32, 115, 117, 99, 104, 32, 116, 104, 105, 110, 103, 32, 116, 111, 32, 100, 111]⟩] 197, .cells #[.string ⟨#[110, 111, 32, 115, 117, 99, 104, 32, 112, 108, 97, 99, 101]⟩] 197], #[], []⟩
 {w0 with heap := w0.heap
  |>.modify 1 (fun
   | .cells _ t frozen => .cells #[.iface 180 (.pointer (some ⟨Rk.low, 0, none⟩))] t frozen
   | o => o)
  |>.modify 0 (fun
   | .cells _ t frozen => .cells #[.iface 180 (.pointer (some ⟨Rk.low + 1, 0, none⟩))] t frozen
   | o => o)
  |>.modify 3 (fun
   | .cells _ t frozen => .cells #[.iface 180 (.pointer (some ⟨Rk.low + 2, 0, none⟩))] t frozen
   | o => o)
  |>.modify 2 (fun
   | .cells _ t frozen => .cells #[.iface 180 (.pointer (some ⟨Rk.low + 3, 0, none⟩))] t frozen
   | o => o)
  |>.modify 4 (fun
   | .cells _ t frozen => .cells #[.iface 180 (.pointer (some ⟨Rk.low + 4, 0, none⟩))] t frozen
   | o => o) }
theorem aAx (os : Os) (args : Array Value) : laidMetH Tryd.prog ([("alembic/api.ErrRange", Rows.laid_alembic_api_ErrRange), ("alembic/api.ErrMany", Rows.laid_alembic_api_ErrMany), ("alembic/api.ErrShape", Rows.laid_alembic_api_ErrShape), ("alembic/api.ErrOp", Rows.laid_alembic_api_ErrOp), ("alembic/api.ErrLabel", Rows.laid_alembic_api_ErrLabel)] : List (String × DataW Unit)) ((aAT os).forCall (fun _ _ => 0) ⟨#[], args, []⟩).memory :=
 laidMet_of_run (ps := [.cell 1 0, .cell (Rk.low) 0, .cell 0 0, .cell (Rk.low + 1) 0, .cell 3 0, .cell (Rk.low + 2) 0, .cell 2 0, .cell (Rk.low + 3) 0, .cell 4 0, .cell (Rk.low + 4) 0]) 8 (by kernel_rfl) (by kernel_rfl) (by kernel_rfl)
theorem aNF : aEY Tryd.prog 30 [("alembic/api.ErrRange", Rows.laid_alembic_api_ErrRange), ("alembic/api.ErrMany", Rows.laid_alembic_api_ErrMany), ("alembic/api.ErrShape", Rows.laid_alembic_api_ErrShape), ("alembic/api.ErrOp", Rows.laid_alembic_api_ErrOp), ("alembic/api.ErrLabel", Rows.laid_alembic_api_ErrLabel)] [1, 0, 3, 2, 4] := ⟨by kernel_rfl, by kernel_rfl, ⟨_, rfl⟩, by kernel_rfl, by kernel_rfl, ⟨_, rfl⟩, by kernel_rfl, by kernel_rfl, ⟨_, rfl⟩, by kernel_rfl, by kernel_rfl, ⟨_, rfl⟩, by kernel_rfl, by kernel_rfl, ⟨_, rfl⟩, trivial⟩
theorem sent {W : World} (h : laidMetH Tryd.prog ([("alembic/api.ErrRange", Rows.laid_alembic_api_ErrRange), ("alembic/api.ErrMany", Rows.laid_alembic_api_ErrMany), ("alembic/api.ErrShape", Rows.laid_alembic_api_ErrShape), ("alembic/api.ErrOp", Rows.laid_alembic_api_ErrOp), ("alembic/api.ErrLabel", Rows.laid_alembic_api_ErrLabel)] : List (String × DataW Unit)) W) : ∃ S, SentS W 180 [1, 0, 3, 2, 4] S :=
 aCg Tryd.underlying30 Rk.row Tryd.underlying180 Tryd.underlying197 rfl rfl Tryd.underlying9 (by kernel_rfl) (by kernel_rfl) aNF (by decide) h
theorem aJA : ∀ t ∈ ([60, 3, 2, 43] : List Nat), zG Tryd.prog [60, 3, 2, 43] t = true := List.all_eq_true.1 (by kernel_rfl)
set_option maxRecDepth 100000 in
theorem aLI (os : Os) (started : os.Started) (H : Type) (enc : TypeId × Value → H) :
  ReturnsInHanded {} Tryd.checked os 5 .any (fun w args => (Rows.selectEachSpec.pre enc Tryd.prog Tryd.f5 [] false w args ∧ laidMetH Tryd.prog ([("alembic/api.ErrRange", Rows.laid_alembic_api_ErrRange), ("alembic/api.ErrMany", Rows.laid_alembic_api_ErrMany), ("alembic/api.ErrShape", Rows.laid_alembic_api_ErrShape), ("alembic/api.ErrOp", Rows.laid_alembic_api_ErrOp), ("alembic/api.ErrLabel", Rows.laid_alembic_api_ErrLabel)] : List (String × DataW Unit)) w) ∧ sizedMet enc Tryd.prog Tryd.f5 (OpenSpec.ofChange Rows.selectEachSpec) false w args)
   (Rows.selectEachSpec.post enc Tryd.prog Tryd.f5 false true false false) := by
 refine returnsInHanded_of_change_and (C := Tryd.checked) (X := fun w _ => laidMetH Tryd.prog ([("alembic/api.ErrRange", Rows.laid_alembic_api_ErrRange), ("alembic/api.ErrMany", Rows.laid_alembic_api_ErrMany), ("alembic/api.ErrShape", Rows.laid_alembic_api_ErrShape), ("alembic/api.ErrOp", Rows.laid_alembic_api_ErrOp), ("alembic/api.ErrLabel", Rows.laid_alembic_api_ErrLabel)] : List (String × DataW Unit)) w) (fun _ _ _ hh h => h.of_heap hh) Rk.own started (by kernel_rfl) Tryd.func5
  (ChangeSpec.witness_at (enc := enc) (C := Tryd.checked) (os := os) (X := fun w _ => laidMetH Tryd.prog ([("alembic/api.ErrRange", Rows.laid_alembic_api_ErrRange), ("alembic/api.ErrMany", Rows.laid_alembic_api_ErrMany), ("alembic/api.ErrShape", Rows.laid_alembic_api_ErrShape), ("alembic/api.ErrOp", Rows.laid_alembic_api_ErrOp), ("alembic/api.ErrLabel", Rows.laid_alembic_api_ErrLabel)] : List (String × DataW Unit)) w) false (aAT os) #[.agg #[.int .i64 0, .int .i64 0, .int .i64 0, .int .i64 0, .int .i64 0, .int .i64 0], .int .u64 0, .int .u64 0, .int .u64 0, .int .i64 0, .int .i64 0, .int .i64 0, .int .i64 0] 8 rfl (by kernel_rfl) (by kernel_rfl) (by kernel_rfl) (by kernel_rfl) (by kernel_rfl) (aAx os _)) ?_
 intro W base args ds gs before hval0 hW _ _ hL _
 obtain ⟨S, hS⟩ := sent hL
 have hval : ∀ (j : Nat) t v, Tryd.f5.params.toList[j]? = some t → args.toList[j]? = some v → Value.okWide Tryd.prog W .any base t v := fun j t v h1 h2 => hval0 j t v (by simpa using h1) (by simpa using h2)
 have hW' := hW
 obtain ⟨p, q, hA, _, _, _, _⟩ := hW
 have hpar : Tryd.f5.params.toList = [60, 43, 43, 43, 3, 3, 3, 3] := by rw [Tryd.params5]
 rw [hpar] at hval
 replace hA : DataW.TrodAll enc Tryd.prog W 0 (fun _ => true) true Tryd.f5.params.toList args.toList ds p := hA
 rw [hpar] at hA
 obtain ⟨xs, h1, h2⟩ := aBa aJA (by decide) hval hA
 obtain ⟨k, hk⟩ := LSelectEach.law xs h1
 have hc := aGd (Mir.alembiclaw24_SelectEach.sound (aDG _ _) k) hk (aHd hS) h2
 rw [Array.toArray_toList] at hc
 refine hc.mono fun e W' ⟨he, hb⟩ => ⟨_, he, ?_⟩
 exact aHE rfl hpar (by kernel_rfl) Tryd.underlying4 (fun ds hd => by
  obtain ⟨d0, d1, d2, d3, d4, d5, d6, d7, rfl⟩ : ∃ d0 d1 d2 d3 d4 d5 d6 d7, ds = [d0, d1, d2, d3, d4, d5, d6, d7] := by
   match ds, hd with
   | [d0, d1, d2, d3, d4, d5, d6, d7], _ => exact ⟨d0, d1, d2, d3, d4, d5, d6, d7, rfl⟩
  rfl) Rk.laidOut (by kernel_rfl) hW' hb
theorem holds : Rows.SelectEachSaid :=
 OpenClaim.holds_of_wide 5 Tryd.f5 rfl rfl rfl rfl rfl rfl rfl ⟨rfl, rfl, rfl, rfl, rfl⟩ rfl rfl rfl rfl rfl (by kernel_rfl) Tryd.func5 (by kernel_rfl)
  (of_decide_eq_true (by kernel_rfl)) (by unfold Func.isWrapper; first | (rw [if_pos (by decide +kernel)]; kernel_rfl) | (rw [if_neg (by decide +kernel)]; exact ⟨rfl, rfl⟩))
  (fun os started H enc _ => aLI os started H enc)
theorem cardHolds : Rows.SelectEachCardSaid :=
 Claim7.holds_tied_plain_at .later [] [.sentinel, .sentinel, .sentinel, .sentinel, .sentinel] true (true, "92292b04e853d01d8cf3885d4f753a51952eaef99bf2156408a64e96f17010d7") true
  holds (fun _ h => by cases h) (by kernel_rfl) (fun _ h => by cases h) selectEach_row_tie rfl ⟨rfl, rfl⟩ (by kernel_rfl) rfl
  (fun f fn hf hfn => by
   obtain rfl : f = 5 := Option.some.inj ((show Tryd.prog.funcNamed "alembic/alembiclaw24.SelectEach" = some 5 by kernel_rfl).symm.trans hf) |>.symm
   obtain rfl : fn = Tryd.f5 := (Option.some.inj (Tryd.func5.symm.trans hfn)).symm
   exact ⟨by kernel_rfl, fun j t ht => by
    have hm : t ∈ ([60, 43, 43, 43, 3, 3, 3, 3] : List Nat) := by
     have := List.mem_of_getElem? (l := Tryd.f5.params.toList) (i := j) (by simpa using ht)
     rw [Tryd.params5] at this
     exact this
    have := List.all_eq_true.1 (show ([60, 43, 43, 43, 3, 3, 3, 3] : List Nat).all (fun t => !Tryd.prog.wantsStandIn t) = true by kernel_rfl) t hm
    exact (by simpa using this : Tryd.prog.wantsStandIn t = false)⟩)
  (by kernel_rfl)
end RSelectEach
end Go.Proofs.YtdfglgnflldkpaaDoor
