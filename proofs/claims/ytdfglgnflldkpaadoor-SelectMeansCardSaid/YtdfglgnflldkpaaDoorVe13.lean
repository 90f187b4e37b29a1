/- Printed by rowgen.py: the row of SelectMeans, out of its law in plain Lean. -/
import Derived.Test.YtdfglgnflldkpaaDoorVe12
import Derived.KernelRfl
import Derived.Test.YtdfglgnflldkpaaDoorTie
import Derived.Test.YtdfglgnflldkpaaDoorCards
import Derived.SevenTiedAt
namespace Go.Proofs.YtdfglgnflldkpaaDoor.Mir
open Go
set_option linter.unusedSimpArgs false
set_option linter.unusedVariables false
set_option maxHeartbeats 8000000
set_option maxRecDepth 20000
theorem aKp {r : List Nat} {d : Int} {x : Nat} (h : Rw d) : gC r d x = r.set d.toNat x := by
 unfold Rw at h
 unfold gC; rw [if_neg (by omega)]
theorem aFo (r : List Nat) : cO r 31 = 0 := rfl
theorem wP {op k : Int} {a : Nat} (h : 0 ≤ k ∧ k ≤ 63) : qW op k a = if op = 10 then (a * 2 ^ k.toNat % 18446744073709551616, true) else if op = 11 then (a / 2 ^ k.toNat, true) else (aCw a k.toNat, true) := by
 unfold qW; rw [if_neg (by omega)]
section
variable (d a b k : Int) (r : List Nat) (fl : FL)
theorem aIV : (dD ⟨6, d, a, 31, 0, 0⟩ r fl).1 = gC r d (cO r a ||| cO r 31) := by simp [dD, jN, jR]
theorem aJC : (dD ⟨3, d, a, b, 0, 0⟩ r fl).1 = gC r d ((cO r a + cO r b) % 18446744073709551616) := by simp [dD, jN, jR]
theorem aMS : (dD ⟨4, d, a, b, 0, 0⟩ r fl).1 = gC r d ((cO r a + 18446744073709551616 - cO r b) % 18446744073709551616) := by simp [dD, jN, jR]
theorem aNC : (dD ⟨8, d, a, b, 31, 0⟩ r fl).1 = gC r d ((cO r a * cO r b % 18446744073709551616 + cO r 31) % 18446744073709551616) := by simp [dD, jN, jR]
theorem aMO : (dD ⟨9, d, a, b, 0, 0⟩ r fl).1 = gC r d (cO r a * cO r b / 18446744073709551616) := by simp [dD, jN, jR]
theorem aMR : (dD ⟨5, d, a, b, 0, 0⟩ r fl).1 = gC r d (cO r a &&& cO r b) := by simp [dD, jN, jR]
theorem aMl : (dD ⟨6, d, a, b, 0, 0⟩ r fl).1 = gC r d (cO r a ||| cO r b) := by simp [dD, jN, jR]
theorem aNy : (dD ⟨7, d, a, b, 0, 0⟩ r fl).1 = gC r d (cO r a ^^^ cO r b) := by simp [dD, jN, jR]
theorem aGM : (dD ⟨12, d, a, 0, 0, k⟩ r fl).1 = gC r d (cO r a * 2 ^ u64 k % 18446744073709551616) := by simp [dD, jN, jR]
theorem aDd : (dD ⟨13, d, a, 0, 0, k⟩ r fl).1 = gC r d (cO r a / 2 ^ u64 k) := by simp [dD, jN, jR]
theorem aKd : (dD ⟨14, d, a, 0, 0, k⟩ r fl).1 = gC r d (aCw (cO r a) (u64 k)) := by simp [dD, jN, jR]
theorem aLg : (dD ⟨16, d, a, b, 1, 0⟩ r fl).1 = gC r d (if (!fl.z) = true then cO r a else cO r b) := by simp [dD, jN, jR]
theorem aJS : (dD ⟨17, d, 0, 0, 3, 0⟩ r fl).1 = gC r d (if (!fl.c) = true then 1 else 0) := by simp [dD, jN, jR]
theorem aKj : (dD ⟨10, d, a, 0, 0, k⟩ r fl).1 = gC r d ((cO r a + u64 k) % 18446744073709551616) := by simp [dD, jN, jR]
theorem aNp (x y : Nat) : (tH x y).c = decide (y ≤ x) := by simp [tH, aGk]
theorem aMv (x y : Nat) : (tH x y).z = decide ((x + 18446744073709551616 - y) % 18446744073709551616 = 0) := by simp only [tH, aGk]
theorem aGU : dD ⟨15, 0, a, b, 0, 0⟩ r fl = (r, tH (cO r a) (cO r b)) := by simp [dD]
end
theorem aMq (k : Int) (x y z : Nat) : jW 2 k x y z = (x, true) := by simp [jW]
theorem aNL (k : Int) (x y z : Nat) : jW 3 k x y z = ((x + y) % 18446744073709551616, true) := by simp [jW]
theorem aMw (k : Int) (x y z : Nat) : jW 4 k x y z = ((x + 18446744073709551616 - y) % 18446744073709551616, true) := by simp [jW]
theorem aNz (k : Int) (x y z : Nat) : jW 5 k x y z = (x * y % 18446744073709551616, true) := by simp [jW]
theorem aNG (k : Int) (x y z : Nat) : jW 6 k x y z = (x * y / 18446744073709551616, true) := by simp [jW]
theorem aNS (k : Int) (x y z : Nat) : jW 7 k x y z = (x &&& y, true) := by simp [jW]
theorem aNg (k : Int) (x y z : Nat) : jW 8 k x y z = (x ||| y, true) := by simp [jW]
theorem aMV (k : Int) (x y z : Nat) : jW 9 k x y z = (x ^^^ y, true) := by simp [jW]
theorem aKe (k : Int) (x y z : Nat) : jW 13 k x y z = (if x < y then 1 else 0, true) := by simp [jW]
theorem aKT (k : Int) (x y z : Nat) : jW 14 k x y z = (if x ≠ 0 then y else z, true) := by simp [jW]
section
variable {ws : List WI} {R : Nat} {fuel : Int} {s : MS} {q : QS} {i : WI}
theorem aIH (hR : R ≤ 28) (hw : ∀ w ∈ ws, w.Good R ws.length) (hl : ws.length ≤ 10000) {j : Nat} (hj : j < ws.length) {L : List MI} (hL : iW ws.length (ws.getD j default) = iB L) (t : Nat) {x : MI} (hx : L[t]? = some x) (hn : ¬ (x.op = 12 ∧ x.imm = 0)) : At (oR ws) ((lY ws j : Int) + t) x :=
 uL hR hw hl hj (by rw [hL, nB]; exact hx) hn
theorem lM (hsim : Sim ws R s q) (hs : s.Ok R) (hR : R ≤ 28) (hj : s.at_ < ws.length) (hi : ws.getD s.at_ default = i) (hst : (q.steps : Int) + 9 < fuel) (hop : 1 ≤ i.op ∧ i.op ≤ 14) (hv : (jW i.op i.k (s.rg i.a) (s.rg i.b) (s.rg i.c)).2 = true) (hd : 0 ≤ i.d ∧ i.d < R)
  (hc : (iW ws.length i).length = 1) {x : MI} (hA : At (oR ws) ((lY ws s.at_ : Int) + (0 : Nat)) x) (ho : x.op ≤ 17) (hx : (dD x q.regs q.flags).1 = q.regs.set i.d.toNat (jW i.op i.k (s.rg i.a) (s.rg i.b) (s.rg i.c)).1) :
  ∃ s2 b, s.tick.step i = (s2, b) ∧ mN fuel ws R s q s2 b := by
 refine aAC hsim hs hR hj hi hop hv hd hc (by decide) (fl2 := (dD x q.regs q.flags).2) ?_
 have e0 : (lY ws s.at_ : Int) + (0 : Nat) = q.at_ := by rw [hsim.at_]; simp
 rw [e0] at hA
 have h1 := xQ (cd := q.code) (mem := q.mem) (r := q.regs) (lk := q.leaks) (st := q.steps) (fl := q.flags) (fuel := fuel) hA ho (by omega)
 rw [hx] at h1
 have e1 : (lY ws s.at_ : Int) = q.at_ := hsim.at_.symm
 rw [e1]
 exact h1
theorem aDF (hsim : Sim ws R s q) (hs : s.Ok R) (hR : R ≤ 28) (hj : s.at_ < ws.length) (hi : ws.getD s.at_ default = i) (hst : (q.steps : Int) + 9 < fuel) (hop : 1 ≤ i.op ∧ i.op ≤ 14) (hv : (jW i.op i.k (s.rg i.a) (s.rg i.b) (s.rg i.c)).2 = true) (hd : 0 ≤ i.d ∧ i.d < R)
  (hc : (iW ws.length i).length = 2) {x y : MI} (hA : At (oR ws) ((lY ws s.at_ : Int) + (0 : Nat)) x) (hB : At (oR ws) ((lY ws s.at_ : Int) + (1 : Nat)) y) (ho : x.op ≤ 17) (ho2 : y.op ≤ 17) {fl : FL} (hx : dD x q.regs q.flags = (q.regs, fl)) (hy : (dD y q.regs fl).1 = q.regs.set i.d.toNat (jW i.op i.k (s.rg i.a) (s.rg i.b) (s.rg i.c)).1) :
  ∃ s2 b, s.tick.step i = (s2, b) ∧ mN fuel ws R s q s2 b := by
 refine aAC hsim hs hR hj hi hop hv hd hc (by decide) (fl2 := (dD y q.regs fl).2) ?_
 have e0 : (lY ws s.at_ : Int) + (0 : Nat) = q.at_ := by rw [hsim.at_]; simp
 have e1 : (lY ws s.at_ : Int) + (1 : Nat) = q.at_ + 1 := by rw [hsim.at_]; simp
 rw [e0] at hA
 rw [e1] at hB
 have h1 := xQ (cd := q.code) (mem := q.mem) (r := q.regs) (lk := q.leaks) (st := q.steps) (fl := q.flags) (fuel := fuel) hA ho (by omega)
 rw [hx] at h1
 have h2 := xQ (cd := q.code) (mem := q.mem) (r := q.regs) (lk := q.leaks ++ [(1, q.at_)]) (st := q.steps + 1) (fl := fl) (fuel := fuel) hB ho2 (by push_cast; omega)
 rw [hy] at h2
 have e2 : (lY ws s.at_ : Int) = q.at_ := hsim.at_.symm
 rw [e2]
 have h3 := h1.trans h2
 rw [List.append_assoc, show q.at_ + 1 + 1 = q.at_ + ((2 : Nat) : Int) by omega] at h3
 exact h3
theorem aJz (hsim : Sim ws R s q) (hs : s.Ok R) (hR : R ≤ 28) (hw : ∀ w ∈ ws, w.Good R ws.length) (hl : ws.length ≤ 10000) (hj : s.at_ < ws.length) (hi : ws.getD s.at_ default = i) (hg : i.Good R ws.length) (hst : (q.steps : Int) + 9 < fuel) (hop : 1 ≤ i.op ∧ i.op ≤ 14) :
  ∃ s2 b, s.tick.step i = (s2, b) ∧ mN fuel ws R s q s2 b := by
 obtain ⟨ha, hdbc⟩ := wI hg hR
 have hsh := hg.ok2.sh
 have hv := aGc (a := s.rg i.a) (b := s.rg i.b) (c := s.rg i.c) hop hsh
 have hd := hg.ok2.ok.d (by omega)
 have hb := hg.ok2.ok.b (by omega)
 have hc := hg.ok2.ok.c (by omega)
 have ha2 := hg.ok2.ok.a (by omega) (by omega)
 have ga := vY hsim ha2.1 ha2.2 hR
 have gb := vY hsim hb.1 hb.2 hR
 have gc := vY hsim hc.1 hc.2 hR
 have la := hs.rg i.a
 have lb := hs.rg i.b
 have lc := hs.rg i.c
 have hdR := (hdbc (by omega)).1
 have sF : ∀ x, gC q.regs i.d x = q.regs.set i.d.toNat x := fun x => aKp hdR
 obtain ⟨op, d, a, b, c, k⟩ := i
 simp only at hop
 have hop2 : op = 1 ∨ op = 2 ∨ op = 3 ∨ op = 4 ∨ op = 5 ∨ op = 6 ∨ op = 7 ∨ op = 8 ∨ op = 9 ∨ op = 10 ∨ op = 11 ∨ op = 12 ∨ op = 13 ∨ op = 14 := by omega
 have aP : ∀ (L : List MI), iW ws.length ⟨op, d, a, b, c, k⟩ = iB L → ∀ (t : Nat) (x : MI), L[t]? = some x → ¬ (x.op = 12 ∧ x.imm = 0) → At (oR ws) ((lY ws s.at_ : Int) + t) x := fun L hL t x hx hn => aIH hR hw hl hj (by rw [hi]; exact hL) t hx hn
 rcases hop2 with rfl | rfl | rfl | rfl | rfl | rfl | rfl | rfl | rfl | rfl | rfl | rfl | rfl | rfl
 ·
  have hcd := wJ d (by unfold Rw at hdR; simp only at hdR; omega) (u64 k) (jD k) q.flags
  refine aAC hsim hs hR hj hi hop hv hd (c := (iY d (u64 k)).length) (nA _) (by have := (kQ d (u64 k)).2; omega) (fl2 := q.flags) ?_
  have g := xL (cs := oR ws) (fuel := fuel) (cd := q.code) (mem := q.mem) (fl := q.flags) (d := d) (iY d (u64 k)) (lY ws s.at_) q.regs q.leaks q.steps hcd.1 (fun t x hx => aP _ rfl t x hx (by have := (hcd.1 x (List.mem_of_getElem? hx)).2; omega)) (by have := (kQ d (u64 k)).2; omega)
  rw [hcd.2 q.regs hsim.rl, ← hsim.at_] at g
  have e1 : (lY ws s.at_ : Int) = q.at_ := hsim.at_.symm
  rw [e1]
  exact g
 ·refine lM hsim hs hR hj hi hst hop hv hd rfl (aP [_] rfl 0 _ rfl (by simp)) (by simp) ?_
  rw [aIV]
  rw [sF, ga, aFo, Nat.or_zero]
  simp only [aMq]
 ·refine lM hsim hs hR hj hi hst hop hv hd rfl (aP [_] rfl 0 _ rfl (by simp)) (by simp) ?_
  rw [aJC]
  rw [sF, ga, gb]
  simp only [aNL]
 ·refine lM hsim hs hR hj hi hst hop hv hd rfl (aP [_] rfl 0 _ rfl (by simp)) (by simp) ?_
  rw [aMS]
  rw [sF, ga, gb]
  simp only [aMw]
 ·refine lM hsim hs hR hj hi hst hop hv hd rfl (aP [_] rfl 0 _ rfl (by simp)) (by simp) ?_
  rw [aNC]
  rw [sF, ga, gb, aFo, Nat.add_zero, Nat.mod_mod]
  simp only [aNz]
 ·refine lM hsim hs hR hj hi hst hop hv hd rfl (aP [_] rfl 0 _ rfl (by simp)) (by simp) ?_
  rw [aMO]
  rw [sF, ga, gb]
  simp only [aNG]
 ·refine lM hsim hs hR hj hi hst hop hv hd rfl (aP [_] rfl 0 _ rfl (by simp)) (by simp) ?_
  rw [aMR]
  rw [sF, ga, gb]
  simp only [aNS]
 ·refine lM hsim hs hR hj hi hst hop hv hd rfl (aP [_] rfl 0 _ rfl (by simp)) (by simp) ?_
  rw [aMl]
  rw [sF, ga, gb]
  simp only [aNg]
 ·refine lM hsim hs hR hj hi hst hop hv hd rfl (aP [_] rfl 0 _ rfl (by simp)) (by simp) ?_
  rw [aNy]
  rw [sF, ga, gb]
  simp only [aMV]
 ·have hk := hsh (by simp) (by simp)
  simp only at hk
  have ev : ∀ x y z, jW 10 k x y z = (x * 2 ^ k.toNat % 18446744073709551616, true) := fun x y z => wP hk
  have ek : u64 k = k.toNat := by unfold u64; omega
  by_cases h0 : k = 0
  ·subst h0
   refine lM hsim hs hR hj hi hst hop hv hd rfl (aIb hR hw hl hj hdR (ha (by simp) (by simp)) (t := 0) (by rw [hi]; rfl)) (by simp) ?_
   rw [aDd]
   rw [sF, ga, ek]
   simp only [ev]
   have e2 : (2 : Nat) ^ (0 : Int).toNat = 1 := rfl
   rw [e2, Nat.div_one, Nat.mul_one, Nat.mod_eq_of_lt la]
  ·refine lM hsim hs hR hj hi hst hop hv hd rfl (aP [_] rfl 0 _ rfl (by simp only; omega)) (by simp) ?_
   rw [aGM]
   rw [sF, ga, ek]
   simp only [ev]
 ·have hk := hsh (by simp) (by simp)
  simp only at hk
  have ev : ∀ x y z, jW 11 k x y z = (x / 2 ^ k.toNat, true) := fun x y z => wP hk
  have ek : u64 k = k.toNat := by unfold u64; omega
  refine lM hsim hs hR hj hi hst hop hv hd rfl (aP [_] rfl 0 _ rfl (by simp)) (by simp) ?_
  rw [aDd]
  rw [sF, ga, ek]
  simp only [ev]
 ·have hk := hsh (by simp) (by simp)
  simp only at hk
  have ev : ∀ x y z, jW 12 k x y z = (aCw x k.toNat, true) := fun x y z => wP hk
  have ek : u64 k = k.toNat := by unfold u64; omega
  refine lM hsim hs hR hj hi hst hop hv hd rfl (aP [_] rfl 0 _ rfl (by simp)) (by simp) ?_
  rw [aKd]
  rw [sF, ga, ek]
  simp only [ev]
 ·refine aDF hsim hs hR hj hi hst hop hv hd rfl (aP [_, _] rfl 0 _ rfl (by simp)) (aP [_, _] rfl 1 _ rfl (by simp)) (by simp) (by simp) (fl := tH (cO q.regs a) (cO q.regs b)) (aGU ..) ?_
  rw [aJS, aNp]
  rw [sF, ga, gb]
  simp only [aKe]
  congr 1
  by_cases h : s.rg a < s.rg b
  ·rw [if_pos h, decide_eq_false (by omega)]; rfl
  ·rw [if_neg h, decide_eq_true (by omega)]; rfl
 ·refine aDF hsim hs hR hj hi hst hop hv hd rfl (aP [_, _] rfl 0 _ rfl (by simp)) (aP [_, _] rfl 1 _ rfl (by simp)) (by simp) (by simp) (fl := tH (cO q.regs a) (cO q.regs 31)) (aGU ..) ?_
  have key : ∀ x y z : Nat, x < 18446744073709551616 → (if (!decide ((x + 18446744073709551616 - 0) % 18446744073709551616 = 0)) = true then y else z) = if x ≠ 0 then y else z := fun x y z hx => by
   have e : (x + 18446744073709551616 - 0) % 18446744073709551616 = x := by omega
   rw [e]
   by_cases h : x = 0 <;> simp [h]
  rw [aLg, aMv]
  rw [sF, ga, gb, gc, aFo, key _ _ _ la]
  simp only [aKT]
end
section
variable {ws : List WI} {R : Nat} {fuel : Int} {s : MS} {q : QS} {d a b c k : Int}
theorem mN.go {s2 : MS} {m : Nat} {q2 : QS} (Y X : List (Int × Int)) (hg : qD (oR ws) fuel q m q2) (hm : m ≤ 10) (hY : s2.leaks = s.leaks ++ Y) (hX : q2.leaks = q.leaks ++ X) (hk : ∀ pc T, mlk ws pc (Y ++ T) = X ++ mlk ws s.at_ T) (hmem : q2.mem = s2.mem) (hst : q2.steps ≤ q.steps + 9) (hs : Sim ws R s2 q2) : mN fuel ws R s q s2 true :=
 ⟨m, q2, Y, X, hm, hY, hX, hk, hmem, hst, fun _ => ⟨hg, hs⟩, fun h => by cases h⟩
theorem mN.fin {s2 : MS} {m : Nat} {q2 : QS} (Y X : List (Int × Int)) (hg : aDL (oR ws) fuel q m q2) (hm : m ≤ 10) (hY : s2.leaks = s.leaks ++ Y) (hX : q2.leaks = q.leaks ++ X) (hk : ∀ pc T, mlk ws pc (Y ++ T) = X ++ mlk ws s.at_ T) (hmem : q2.mem = s2.mem) (hst : q2.steps ≤ q.steps + 9) (hc : q2.code = s2.code) : mN fuel ws R s q s2 false :=
 ⟨m, q2, Y, X, hm, hY, hX, hk, hmem, hst, fun h => (by cases h), fun _ => ⟨hg, hc⟩⟩
theorem aKZ (hsim : Sim ws R s q) (hR : R ≤ 28) (hw : ∀ w ∈ ws, w.Good R ws.length) (hl : ws.length ≤ 10000) (hj : s.at_ < ws.length) (hi : ws.getD s.at_ default = ⟨17, d, a, b, c, k⟩) (hk : 0 ≤ k ∧ k ≤ ws.length) (hst : (q.steps : Int) + 9 < fuel) :
  ∃ s2 b2, s.tick.step ⟨17, d, a, b, c, k⟩ = (s2, b2) ∧ mN fuel ws R s q s2 b2 := by
 have hp := uA ws k.toNat (by omega)
 have hA := uL (i := ⟨20, 0, 0, 0, 0, ((lH ws).getD k.toNat 0 : Int) - lY ws s.at_⟩) hR hw hl hj (t := 0) (by rw [hi]; rfl) (by simp)
 rw [hp] at hA
 have e0 : (lY ws s.at_ : Int) + (0 : Nat) = q.at_ := by rw [hsim.at_]; simp
 have e1 : (lY ws s.at_ : Int) = q.at_ := hsim.at_.symm
 rw [e0, e1] at hA
 have g := aOY (cd := q.code) (mem := q.mem) (r := q.regs) (lk := q.leaks) (st := q.steps) (fl := q.flags) (fuel := fuel) hA (by omega)
 refine ⟨⟨s.regs, k.toNat, s.code, s.mem, s.leaks ++ [(1, (s.at_ : Int))], s.steps + 1⟩, true, rfl, mN.go [(1, (s.at_ : Int))] [(1, q.at_)] g (by omega) rfl rfl (fun pc T => ?_) hsim.mem (by show q.steps + 1 ≤ q.steps + 9; omega) ⟨hsim.rl, hsim.rg, hsim.mem, ?_⟩⟩
 ·show (if (1 : Int) = 1 then lkA ws s.at_ ++ mlk ws s.at_ T else _) = _
  rw [if_pos rfl]
  unfold lkA
  rw [Int.toNat_natCast, hi, if_neg (by simp), e1]; rfl
 ·show q.at_ + ((lY ws k.toNat : Int) - q.at_) = (lY ws k.toNat : Int)
  omega
theorem aJg {op : Int} (ho : op = 18 ∨ op = 19) (g : Bool) (hg : g = (decide (s.rg a = 0) == decide (op = 18))) :
  s.tick.step ⟨op, d, a, b, c, k⟩ = (⟨s.regs, if g = true then k.toNat else s.at_ + 1, s.code, s.mem, s.leaks ++ [(1, (s.at_ : Int)), (2, if g = true then 1 else 0)], s.steps + 1⟩, true) := by
 have e : ∀ j, MS.rg ({ s.tick with at_ := s.tick.at_ + 1 } : MS) j = s.rg j := fun j => rfl
 have el : s.leaks ++ [(1, (s.at_ : Int))] ++ [(2, if g = true then 1 else 0)] = s.leaks ++ [(1, (s.at_ : Int)), (2, if g = true then 1 else 0)] := by simp
 unfold MS.step
 simp only
 rw [if_neg (by omega), if_pos (by omega)]
 unfold MS.branch
 simp only [e]
 rw [if_neg (by omega), ← hg, ← el]
 cases g <;> rfl
theorem aGn {op : Int} (ho : op = 18 ∨ op = 19) (hsim : Sim ws R s q) (hR : R ≤ 28) (hw : ∀ w ∈ ws, w.Good R ws.length) (hl : ws.length ≤ 10000) (hj : s.at_ < ws.length) (hi : ws.getD s.at_ default = ⟨op, d, a, b, c, k⟩) (hk : 0 ≤ k ∧ k ≤ ws.length) (ha : 0 ≤ a ∧ a < R) (hst : (q.steps : Int) + 9 < fuel) :
  ∃ s2 b2, s.tick.step ⟨op, d, a, b, c, k⟩ = (s2, b2) ∧ mN fuel ws R s q s2 b2 := by
 obtain ⟨g, hg⟩ : ∃ g : Bool, g = (decide (s.rg a = 0) == decide (op = 18)) := ⟨_, rfl⟩
 obtain ⟨o2, ho2⟩ : ∃ o2 : Int, o2 = if op = 18 then 22 else 23 := ⟨_, rfl⟩
 have hp := uA ws k.toNat (by omega)
 have hch : iW ws.length ⟨op, d, a, b, c, k⟩ = [(⟨o2, a, 0, 0, 0, 0⟩, some k)] := by
  rcases ho with rfl | rfl <;> (rw [ho2]; rfl)
 have hlen : (iW ws.length ⟨op, d, a, b, c, k⟩).length = 1 := by rw [hch]; rfl
 have hA := uL (i := ⟨o2, a, 0, 0, 0, ((lH ws).getD k.toNat 0 : Int) - lY ws s.at_⟩) hR hw hl hj (t := 0) (by rw [hi, hch]; rfl) (by rcases ho with rfl | rfl <;> (rw [ho2]; simp))
 rw [hp] at hA
 have e0 : (lY ws s.at_ : Int) + (0 : Nat) = q.at_ := by rw [hsim.at_]; simp
 have e1 : (lY ws s.at_ : Int) = q.at_ := hsim.at_.symm
 rw [e0, e1] at hA
 have ga := vY hsim ha.1 ha.2 hR
 have hg2 : g = (if o2 = 22 then decide (cO q.regs a = 0) else decide (cO q.regs a ≠ 0)) := by
  rw [hg, ga, ho2]
  rcases ho with rfl | rfl
  ·by_cases h : s.rg a = 0 <;> simp [h]
  ·by_cases h : s.rg a = 0 <;> simp [h]
 have gg := aMg (cd := q.code) (mem := q.mem) (r := q.regs) (lk := q.leaks) (st := q.steps) (fl := q.flags) (fuel := fuel) (op := o2) (by rcases ho with rfl | rfl <;> simp [ho2]) g hg2 hA (by omega)
 refine ⟨_, true, aJg ho g hg, mN.go [(1, (s.at_ : Int)), (2, if g = true then 1 else 0)] [(1, q.at_), (2, if g = true then 1 else 0)] gg (by omega) rfl ?_ (fun pc T => ?_) hsim.mem ?_ ⟨hsim.rl, hsim.rg, hsim.mem, ?_⟩⟩
 ·simp
 ·show (if (1 : Int) = 1 then lkA ws s.at_ ++ (if (2 : Int) = 1 then _ else lkB ws s.at_ (if g = true then 1 else 0) ++ mlk ws s.at_ T) else _) = _
  rw [if_pos rfl, if_neg (by decide)]
  unfold lkA lkB
  rw [Int.toNat_natCast, hi, if_pos (by rcases ho with rfl | rfl <;> simp), if_pos (by rcases ho with rfl | rfl <;> simp), e1]; rfl
 ·show q.steps + 1 ≤ q.steps + 9; omega
 ·cases g
  ·show q.at_ + 1 = (lY ws (s.at_ + 1) : Int)
   rw [aAs ws s.at_ hj, hi, hlen]; omega
  ·show q.at_ + ((lY ws k.toNat : Int) - q.at_) = (lY ws k.toNat : Int)
   omega
theorem aLk (hsim : Sim ws R s q) (hR : R ≤ 28) (hw : ∀ w ∈ ws, w.Good R ws.length) (hl : ws.length ≤ 10000) (hj : s.at_ < ws.length) (hi : ws.getD s.at_ default = ⟨20, d, a, b, c, k⟩) (hk : 0 ≤ k ∧ k ≤ 2) (hst : (q.steps : Int) + 9 < fuel) :
  ∃ s2 b2, s.tick.step ⟨20, d, a, b, c, k⟩ = (s2, b2) ∧ mN fuel ws R s q s2 b2 := by
 have hA := uL (i := ⟨24, 0, 0, 0, 0, k⟩) hR hw hl hj (t := 0) (by rw [hi]; rfl) (by simp)
 have e0 : (lY ws s.at_ : Int) + (0 : Nat) = q.at_ := by rw [hsim.at_]; simp
 have e1 : (lY ws s.at_ : Int) = q.at_ := hsim.at_.symm
 rw [e0] at hA
 have g := aNR (cd := q.code) (mem := q.mem) (r := q.regs) (lk := q.leaks) (st := q.steps) (fl := q.flags) (fuel := fuel) hk.2 hA (by omega)
 refine ⟨⟨s.regs, s.at_ + 1, k, s.mem, s.leaks ++ [(1, (s.at_ : Int))], s.steps + 1⟩, false, rfl, mN.fin [(1, (s.at_ : Int))] [(1, q.at_)] g (by omega) rfl rfl (fun pc T => ?_) hsim.mem (by show q.steps + 1 ≤ q.steps + 9; omega) rfl⟩
 show (if (1 : Int) = 1 then lkA ws s.at_ ++ mlk ws s.at_ T else _) = _
 rw [if_pos rfl]
 unfold lkA
 rw [Int.toNat_natCast, hi, if_neg (by simp), e1]; rfl
theorem aBR {op : Int} (ho : op = 15 ∨ op = 16) {y : Nat} (hy : y = (s.rg a + u64 k) % 18446744073709551616) (hm : s.mem.length ≤ y) :
  s.tick.step ⟨op, d, a, b, c, k⟩ = (⟨s.regs, s.at_ + 1, 3, s.mem, s.leaks ++ [(1, (s.at_ : Int)), (3, mT y)], s.steps + 1⟩, false) := by
 have e : ∀ j, MS.rg ({ s.tick with at_ := s.tick.at_ + 1 } : MS) j = s.rg j := fun j => rfl
 have em : MS.mem ({ s.tick with at_ := s.tick.at_ + 1 } : MS) = s.mem := rfl
 have el : s.leaks ++ [(1, (s.at_ : Int))] ++ [(3, mT y)] = s.leaks ++ [(1, (s.at_ : Int)), (3, mT y)] := by simp
 unfold MS.step
 simp only
 rw [if_pos ho]
 unfold MS.touch
 simp only [e, ← hy]
 rw [if_pos (show s.tick.mem.length ≤ y from hm), ← el]
 rfl
theorem aIx {y : Nat} (hy : y = (s.rg a + u64 k) % 18446744073709551616) (hm : ¬ s.mem.length ≤ y) :
  s.tick.step ⟨15, d, a, b, c, k⟩ = (⟨s.regs.set d.toNat (s.mem.getD y 0), s.at_ + 1, s.code, s.mem, s.leaks ++ [(1, (s.at_ : Int)), (3, mT y)], s.steps + 1⟩, true) := by
 have e : ∀ j, MS.rg ({ s.tick with at_ := s.tick.at_ + 1 } : MS) j = s.rg j := fun j => rfl
 have el : s.leaks ++ [(1, (s.at_ : Int))] ++ [(3, mT y)] = s.leaks ++ [(1, (s.at_ : Int)), (3, mT y)] := by simp
 unfold MS.step
 simp only
 rw [if_pos (Or.inl trivial)]
 unfold MS.touch
 simp only [e, ← hy]
 rw [if_neg (show ¬ s.tick.mem.length ≤ y from hm), if_pos trivial, ← el]
 rfl
theorem aHT {y : Nat} (hy : y = (s.rg a + u64 k) % 18446744073709551616) (hm : ¬ s.mem.length ≤ y) :
  s.tick.step ⟨16, d, a, b, c, k⟩ = (⟨s.regs, s.at_ + 1, s.code, s.mem.set y (s.rg b), s.leaks ++ [(1, (s.at_ : Int)), (3, mT y)], s.steps + 1⟩, true) := by
 have e : ∀ j, MS.rg ({ s.tick with at_ := s.tick.at_ + 1 } : MS) j = s.rg j := fun j => rfl
 have el : s.leaks ++ [(1, (s.at_ : Int))] ++ [(3, mT y)] = s.leaks ++ [(1, (s.at_ : Int)), (3, mT y)] := by simp
 unfold MS.step
 simp only
 rw [if_pos (Or.inr trivial)]
 unfold MS.touch
 simp only [e, ← hy]
 rw [if_neg (show ¬ s.tick.mem.length ≤ y from hm), if_neg (show ¬ (16 : Int) = 15 by decide), ← el]
 rfl
theorem aLx {i : WI} {P : Int} {y : Nat} {cd : Int} {mem r : List Nat} {lk : List (Int × Int)} {st : Nat} {fl : FL} (hrl : r.length = 31) (ha : Rw i.a) (hk : 0 ≤ i.k ∧ i.k ≤ 65535) (hy : y = (cO r i.a + u64 i.k) % 18446744073709551616)
  (hA : ∀ (t : Nat) (x : MI), (mO i)[t]? = some x → At (oR ws) (P + t) x) (hst : (st : Int) + 5 < fuel) :
  qD (oR ws) fuel ⟨cd, mem, r, lk, st, fl, P⟩ (mO i).length ⟨cd, mem, r.set 28 y, lk ++ wN P (mO i).length, st + (mO i).length, fl, P + (mO i).length⟩ := by
 unfold mO at hA ⊢
 by_cases h : i.k ≤ 4095
 ·rw [if_pos h] at hA ⊢
  have h0 := hA 0 _ rfl
  rw [show P + ((0 : Nat) : Int) = P by omega] at h0
  have g := xQ (cd := cd) (mem := mem) (r := r) (lk := lk) (st := st) (fl := fl) (fuel := fuel) h0 (by simp) (by omega)
  rw [aKj] at g
  have e2 : (dD ⟨10, 28, i.a, 0, 0, i.k⟩ r fl).2 = fl := by simp [dD]
  have e3 : gC r 28 ((cO r i.a + u64 i.k) % 18446744073709551616) = r.set 28 y := by rw [← hy]; rfl
  rw [e2, e3] at g
  exact g
 ·rw [if_neg h] at hA ⊢
  obtain ⟨L, hL⟩ : ∃ L, L = iY 28 (u64 i.k) := ⟨_, rfl⟩
  have hcd := wJ 28 (by decide) (u64 i.k) (jD _) fl
  have hlen := (kQ 28 (u64 i.k)).2
  rw [← hL] at hA hcd hlen ⊢
  have g := xL (cs := oR ws) (fuel := fuel) (cd := cd) (mem := mem) (fl := fl) (d := 28) L P r lk st hcd.1 (fun t x hx => hA t x (by rw [List.getElem?_append_left (List.getElem?_eq_some_iff.1 hx).1]; exact hx)) (by omega)
  rw [hcd.2 r hrl] at g
  have h0 := hA L.length ⟨3, 28, i.a, 28, 0, 0⟩ (by rw [List.getElem?_append_right (Nat.le_refl _), Nat.sub_self]; rfl)
  have g2 := xQ (cd := cd) (mem := mem) (r := r.set (28 : Int).toNat (u64 i.k)) (lk := lk ++ wN P L.length) (st := st + L.length) (fl := fl) (fuel := fuel) h0 (by simp) (by push_cast; omega)
  rw [aJC] at g2
  have e2 : (dD ⟨3, 28, i.a, 28, 0, 0⟩ (r.set (28 : Int).toNat (u64 i.k)) fl).2 = fl := by simp [dD]
  have e28 : (28 : Int).toNat = 28 := rfl
  rw [e28] at g g2 e2
  have e4 : cO (r.set 28 (u64 i.k)) 28 = u64 i.k := by
   unfold cO; rw [if_neg (by decide), e28, mP _ _ _ _ (by omega), if_pos rfl]
  have e5 : cO (r.set 28 (u64 i.k)) i.a = cO r i.a := by
   unfold Rw at ha
   unfold cO; rw [if_neg (by omega), if_neg (by omega), mP _ _ _ _ (by omega), if_neg (by omega)]
  have e3 : gC (r.set 28 (u64 i.k)) 28 ((cO (r.set 28 (u64 i.k)) i.a + cO (r.set 28 (u64 i.k)) 28) % 18446744073709551616) = r.set 28 y := by
   rw [e4, e5, ← hy]
   unfold gC; rw [if_neg (by decide), e28, List.set_set]
  rw [e2, e3] at g2
  have g3 := g.trans g2
  rw [List.length_append, List.length_singleton, show P + ((L.length + 1 : Nat) : Int) = P + L.length + 1 by omega, aCO, aKC, ← List.append_assoc]
  exact g3
theorem aAK {op o2 r : Int} (ho : (op = 15 ∧ o2 = 18 ∧ r = d) ∨ (op = 16 ∧ o2 = 19 ∧ r = b)) (hsim : Sim ws R s q) (hs : s.Ok R) (hR : R ≤ 28) (hw : ∀ w ∈ ws, w.Good R ws.length) (hl : ws.length ≤ 10000) (hj : s.at_ < ws.length) (hi : ws.getD s.at_ default = ⟨op, d, a, b, c, k⟩) (ha : 0 ≤ a ∧ a < R) (hr : 0 ≤ r ∧ r < R) (hk : 0 ≤ k ∧ k ≤ 65535) (hm : s.mem.length ≤ 60000) (hst : (q.steps : Int) + 10 < fuel) :
  ∃ s2 b2, s.tick.step ⟨op, d, a, b, c, k⟩ = (s2, b2) ∧ mN fuel ws R s q s2 b2 := by
 have hop : op = 15 ∨ op = 16 := by omega
 have hch : iW ws.length ⟨op, d, a, b, c, k⟩ = nX o2 r ⟨op, d, a, b, c, k⟩ ws.length := by
  rcases ho with ⟨rfl, rfl, rfl⟩ | ⟨rfl, rfl, rfl⟩ <;> rfl
 obtain ⟨i, hii⟩ : ∃ i : WI, i = ⟨op, d, a, b, c, k⟩ := ⟨_, rfl⟩
 have hia : i.a = a := by rw [hii]
 have hik : i.k = k := by rw [hii]
 obtain ⟨C, hC⟩ : ∃ C, C = (mO i).length := ⟨_, rfl⟩
 have hC5 : C ≤ 5 ∧ 1 ≤ C := by
  rw [hC]; unfold mO
  have := (kQ 28 (u64 i.k)).2
  split
  ·simp
  ·simp; omega
 obtain ⟨P, hP⟩ : ∃ P : Int, P = q.at_ := ⟨_, rfl⟩
 have e1 : (lY ws s.at_ : Int) = P := by rw [hP]; exact hsim.at_.symm
 have hfx : mZ (lH ws) (lY ws s.at_) (iW ws.length (ws.getD s.at_ default)) = mO i ++ ([⟨13, 29, 28, 0, 0, 16⟩] ++ ([⟨23, 29, 0, 0, 0, (lY ws ws.length : Int) - (P + C + 1)⟩] ++ [⟨12, 28, 28, 0, 0, 3⟩, ⟨o2, r, 28, 0, 0, 0⟩])) := by
  rw [hi, hch, ← hii]
  unfold nX
  rw [nQ, nQ, nQ, nB, nB, nB, nA, nA, ← hC]
  have hp := uA ws ws.length (Nat.le_refl _)
  have e : ((lH ws).getD ((ws.length : Int)).toNat 0 : Int) = (lY ws ws.length : Int) := by rw [Int.toNat_natCast, hp]
  simp only [mZ, e, List.length_singleton]
  rw [show ((lY ws s.at_ + C + 1 : Nat) : Int) = P + C + 1 by omega]
 have hat : ∀ (t : Nat) (x : MI), (mO i ++ ([⟨13, 29, 28, 0, 0, 16⟩] ++ ([⟨23, 29, 0, 0, 0, (lY ws ws.length : Int) - (P + C + 1)⟩] ++ [⟨12, 28, 28, 0, 0, 3⟩, ⟨o2, r, 28, 0, 0, 0⟩])))[t]? = some x → ¬ (x.op = 12 ∧ x.imm = 0) → At (oR ws) (P + t) x := fun t x hx hn => by
  have := uL (i := x) hR hw hl hj (t := t) (by rw [hfx]; exact hx) hn
  rw [e1] at this; exact this
 have hat2 : ∀ (t : Nat) (x : MI), ([⟨13, 29, 28, 0, 0, 16⟩, ⟨23, 29, 0, 0, 0, (lY ws ws.length : Int) - (P + C + 1)⟩, ⟨12, 28, 28, 0, 0, 3⟩, ⟨o2, r, 28, 0, 0, 0⟩] : List MI)[t]? = some x → ¬ (x.op = 12 ∧ x.imm = 0) → At (oR ws) (P + C + t) x := fun t x hx hn => by
  have := hat (C + t) x (by rw [List.getElem?_append_right (by omega), ← hC, Nat.add_sub_cancel_left]; exact hx) hn
  rw [show P + C + (t : Int) = P + ((C + t : Nat) : Int) by omega]; exact this
 have hAd : ∀ (t : Nat) (x : MI), (mO i)[t]? = some x → At (oR ws) (P + t) x := fun t x hx => by
  refine hat t x (by rw [List.getElem?_append_left (List.getElem?_eq_some_iff.1 hx).1]; exact hx) ?_
  have hmem := List.mem_of_getElem? hx
  unfold mO at hmem
  split at hmem
  ·rw [List.mem_singleton.1 hmem]; simp
  ·rcases List.mem_append.1 hmem with h | h
   ·have := ((wJ 28 (by decide) (u64 i.k) (jD _) jO).1 x h).2; omega
   ·rw [List.mem_singleton.1 h]; simp
 have ga := vY hsim ha.1 ha.2 hR
 obtain ⟨y, hy⟩ : ∃ y, y = (s.rg a + u64 k) % 18446744073709551616 := ⟨_, rfl⟩
 have hyl : y < 18446744073709551616 := by rw [hy]; exact Nat.mod_lt _ (by decide)
 have haw : Rw i.a := by rw [hia]; unfold Rw; omega
 have g1 := aLx (i := i) (P := P) (y := y) (cd := q.code) (mem := q.mem) (r := q.regs) (lk := q.leaks) (st := q.steps) (fl := q.flags) (fuel := fuel) hsim.rl haw (by rw [hik]; exact hk) (by rw [hia, hik, ga]; exact hy) hAd (by omega)
 rw [← hC] at g1
 have eq0 : (⟨q.code, q.mem, q.regs, q.leaks, q.steps, q.flags, P⟩ : QS) = q := by rw [hP]
 rw [eq0] at g1
 have hrl := hsim.rl
 have a0 := hat2 0 _ rfl (by simp)
 rw [show P + C + ((0 : Nat) : Int) = P + C by omega] at a0
 have g2 := xQ (cd := q.code) (mem := q.mem) (r := q.regs.set 28 y) (lk := q.leaks ++ wN P C) (st := q.steps + C) (fl := q.flags) (fuel := fuel) a0 (by simp) (by push_cast; omega)
 have e13 : (dD ⟨13, 29, 28, 0, 0, 16⟩ (q.regs.set 28 y) q.flags).1 = (q.regs.set 28 y).set 29 (y / 65536) := by
  rw [aDd]
  have : cO (q.regs.set 28 y) 28 = y := by
   unfold cO; rw [if_neg (by decide)]
   have e28 : (28 : Int).toNat = 28 := rfl
   rw [e28, mP _ _ _ _ (by omega), if_pos rfl]
  rw [this]
  have e16 : 2 ^ u64 16 = 65536 := rfl
  rw [e16]; rfl
 have f13 : (dD ⟨13, 29, 28, 0, 0, 16⟩ (q.regs.set 28 y) q.flags).2 = q.flags := by simp [dD]
 rw [e13, f13] at g2
 obtain ⟨r2, hr2⟩ : ∃ r2, r2 = (q.regs.set 28 y).set 29 (y / 65536) := ⟨_, rfl⟩
 have hr2l : r2.length = 31 := by rw [hr2]; simpa using hrl
 have r2g : ∀ j, r2.getD j 0 = if 29 = j then y / 65536 else if 28 = j then y else q.regs.getD j 0 := fun j => by
  rw [hr2, mP _ _ _ _ (by simp; omega), mP _ _ _ _ (by omega)]
 rw [← hr2] at g2
 have g12 := g1.trans g2
 obtain ⟨g, hg⟩ : ∃ g : Bool, g = decide (y / 65536 ≠ 0) := ⟨_, rfl⟩
 have a1 := hat2 1 _ rfl (by simp)
 rw [show P + C + ((1 : Nat) : Int) = P + C + 1 by omega] at a1
 have hg2 : g = (if (23 : Int) = 22 then decide (cO r2 29 = 0) else decide (cO r2 29 ≠ 0)) := by
  rw [if_neg (by decide), hg]
  have : cO r2 29 = y / 65536 := by
   unfold cO; rw [if_neg (by decide)]
   have e29 : (29 : Int).toNat = 29 := rfl
   rw [e29, r2g, if_pos rfl]
  rw [this]
 have g3 := aMg (cd := q.code) (mem := q.mem) (r := r2) (lk := q.leaks ++ wN P C ++ [(1, P + C)]) (st := q.steps + C + 1) (fl := q.flags) (fuel := fuel) (Or.inr rfl) g hg2 a1 (by push_cast; omega)
 have g13 := g12.trans g3
 have mk : ∀ x : Int, ∀ pc T, mlk ws pc ([(1, (s.at_ : Int)), (3, x)] ++ T) = lkT P C (u64 x) ++ mlk ws s.at_ T := fun x pc T => by
  show (if (1 : Int) = 1 then lkA ws s.at_ ++ (if (3 : Int) = 1 then _ else lkB ws s.at_ x ++ mlk ws s.at_ T) else _) = _
  rw [if_pos rfl, if_neg (by decide)]
  unfold lkA lkB
  rw [Int.toNat_natCast, hi, if_pos (by rcases hop with rfl | rfl <;> simp), if_neg (by rcases hop with rfl | rfl <;> simp), e1, ← hii, ← hC]; rfl
 have uy : u64 (mT y) = y := aLr y hyl
 have lks : ∀ l : List (Int × Int), q.leaks ++ wN P C ++ [(1, P + C)] ++ [(1, P + C + 1)] ++ l = q.leaks ++ (wN P (C + 2) ++ l) := fun l => by
  rw [aCO]; simp [wN]
 by_cases hfar : y / 65536 = 0
 ·have hy16 : y < 65536 := by omega
  have hgf : g = false := by rw [hg]; simp [hfar]
  rw [hgf] at g13
  simp only [Bool.false_eq_true, if_false] at g13
  have a2 := hat2 2 _ rfl (by simp)
  rw [show P + C + ((2 : Nat) : Int) = P + C + 1 + 1 by omega] at a2
  have g4 := xQ (cd := q.code) (mem := q.mem) (r := r2) (lk := q.leaks ++ wN P C ++ [(1, P + C)] ++ [(1, P + C + 1)] ++ [(2, 0)]) (st := q.steps + C + 1 + 1) (fl := q.flags) (fuel := fuel) a2 (by simp) (by push_cast; omega)
  have e12 : (dD ⟨12, 28, 28, 0, 0, 3⟩ r2 q.flags).1 = r2.set 28 (8 * y) := by
   rw [aGM]
   have : cO r2 28 = y := by
    unfold cO; rw [if_neg (by decide)]
    have e28 : (28 : Int).toNat = 28 := rfl
    rw [e28, r2g, if_neg (by decide), if_pos rfl]
   rw [this]
   have e3 : 2 ^ u64 3 = 8 := rfl
   rw [e3, show y * 8 % 18446744073709551616 = 8 * y by omega]; rfl
  have f12 : (dD ⟨12, 28, 28, 0, 0, 3⟩ r2 q.flags).2 = q.flags := by simp [dD]
  rw [e12, f12] at g4
  obtain ⟨r3, hr3⟩ : ∃ r3, r3 = r2.set 28 (8 * y) := ⟨_, rfl⟩
  have hr3l : r3.length = 31 := by rw [hr3]; simpa using hr2l
  have r3g : ∀ j, j < R → r3.getD j 0 = s.regs.getD j 0 := fun j hjR => by
   rw [hr3, mP _ _ _ _ (by omega), if_neg (by omega), r2g, if_neg (by omega), if_neg (by omega)]; exact hsim.rg j hjR
  have r28 : cO r3 28 = 8 * y := by
   unfold cO; rw [if_neg (by decide)]
   have e28 : (28 : Int).toNat = 28 := rfl
   rw [e28, hr3, mP _ _ _ _ (by omega), if_pos rfl]
  rw [← hr3] at g4
  have g14 := g13.trans g4
  have a3 := hat2 3 _ rfl (by simp; omega)
  rw [show P + C + ((3 : Nat) : Int) = P + C + 1 + 1 + 1 by omega] at a3
  have lkt : lkT P C y = wN P (C + 2) ++ [(2, 0), (1, P + C + 2), (1, P + C + 3), (3, mT (8 * y))] := by
   unfold lkT; rw [if_neg (by omega)]
  have lfin : q.leaks ++ wN P C ++ [(1, P + C)] ++ [(1, P + C + 1)] ++ [(2, 0)] ++ [(1, P + C + 1 + 1)] ++ [(1, P + C + 1 + 1 + 1)] ++ [(3, mT (8 * y))] = q.leaks ++ lkT P C y := by
   rw [lkt, ← lks]
   simp only [List.append_assoc, List.cons_append, List.nil_append]
   rw [show P + (C : Int) + 1 + 1 = P + C + 2 by omega, show P + (C : Int) + 2 + 1 = P + C + 3 by omega]
  by_cases hin : s.mem.length ≤ y
  ·have g5 := aME (cd := q.code) (mem := q.mem) (r := r3) (lk := q.leaks ++ wN P C ++ [(1, P + C)] ++ [(1, P + C + 1)] ++ [(2, 0)] ++ [(1, P + C + 1 + 1)]) (st := q.steps + C + 1 + 1 + 1) (fl := q.flags) (fuel := fuel) (by omega) a3 (by push_cast; omega) hy16 r28 (by rw [hsim.mem]; exact hin)
   have ge := g14.ends g5
   refine ⟨_, false, aBR hop hy hin, mN.fin [(1, (s.at_ : Int)), (3, mT y)] (lkT P C y) ge (by omega) rfl lfin (fun pc T => ?_) hsim.mem ?_ rfl⟩
   ·rw [mk, uy]
   ·show q.steps + C + 1 + 1 + 1 + 1 ≤ q.steps + 9; omega
  ·have hat4 : ∀ w, (iW ws.length ⟨op, d, a, b, c, k⟩).length = w → w = C + 4 := fun w hw => by
    rw [← hw, hch, ← hii]
    unfold nX
    simp [iB, ← hC]
   have atn : (lY ws (s.at_ + 1) : Int) = P + C + 1 + 1 + 1 + 1 := by
    rw [aAs ws s.at_ hj, hi, hat4 _ rfl]; omega
   have hrr : ∀ x, gC r3 r x = r3.set r.toNat x := fun x => by unfold gC; rw [if_neg (by omega)]
   rcases ho with ⟨rfl, rfl, rfl⟩ | ⟨rfl, rfl, rfl⟩
   ·have g5 := aOj (cd := q.code) (mem := q.mem) (r := r3) (lk := q.leaks ++ wN P C ++ [(1, P + C)] ++ [(1, P + C + 1)] ++ [(2, 0)] ++ [(1, P + C + 1 + 1)]) (st := q.steps + C + 1 + 1 + 1) (fl := q.flags) (fuel := fuel) a3 (by push_cast; omega) hy16 r28 (by rw [hsim.mem]; omega)
    have ge := g14.trans g5
    refine ⟨_, true, aIx hy hin, mN.go [(1, (s.at_ : Int)), (3, mT y)] (lkT P C y) ge (by omega) rfl lfin (fun pc T => ?_) hsim.mem ?_ ⟨?_, ?_, hsim.mem, atn.symm⟩⟩
    ·rw [mk, uy]
    ·show q.steps + C + 1 + 1 + 1 + 1 ≤ q.steps + 9; omega
    ·show (gC r3 _ _).length = 31
     rw [hrr, List.length_set]; exact hr3l
    ·show ∀ j, j < R → (gC r3 _ _).getD j 0 = _
     rw [hrr, hsim.mem]
     exact aGt hs.len hr3l hR r3g _ _ (by omega)
   ·have g5 := aOH (cd := q.code) (mem := q.mem) (r := r3) (lk := q.leaks ++ wN P C ++ [(1, P + C)] ++ [(1, P + C + 1)] ++ [(2, 0)] ++ [(1, P + C + 1 + 1)]) (st := q.steps + C + 1 + 1 + 1) (fl := q.flags) (fuel := fuel) a3 (by push_cast; omega) hy16 r28 (by rw [hsim.mem]; omega)
    have ge := g14.trans g5
    have grr : cO r3 r = s.rg r := by
     unfold cO MS.rg; rw [if_neg (by omega)]; exact r3g _ (by omega)
    have em : q.mem.set y (cO r3 r) = s.mem.set y (s.rg r) := by rw [grr, hsim.mem]
    refine ⟨_, true, aHT hy hin, mN.go [(1, (s.at_ : Int)), (3, mT y)] (lkT P C y) ge (by omega) rfl lfin (fun pc T => ?_) em ?_ ⟨hr3l, r3g, em, atn.symm⟩⟩
    ·rw [mk, uy]
    ·show q.steps + C + 1 + 1 + 1 + 1 ≤ q.steps + 9; omega
 ·have hgt : g = true := by rw [hg]; simp [hfar]
  rw [hgt] at g13
  simp only [if_true] at g13
  rw [show P + (C : Int) + 1 + ((lY ws ws.length : Int) - (P + C + 1)) = (lY ws ws.length : Int) by omega] at g13
  have g4 := aHV (fuel := fuel) (cs := oR ws) (cd := q.code) (mem := q.mem) (r := r2) (lk := q.leaks ++ wN P C ++ [(1, P + C)] ++ [(1, P + C + 1)] ++ [(2, 1)]) (st := q.steps + C + 1 + 1) (fl := q.flags) (p := (lY ws ws.length : Int)) (by rw [aGg]; unfold oR; rw [List.length_map]; omega)
  have ge := g13.ends g4
  have lkt : lkT P C y = wN P (C + 2) ++ [(2, 1)] := by
   unfold lkT; rw [if_pos hfar]
  refine ⟨_, false, aBR hop hy (by omega), mN.fin [(1, (s.at_ : Int)), (3, mT y)] (lkT P C y) ge (by omega) rfl ?_ (fun pc T => ?_) hsim.mem ?_ rfl⟩
  ·rw [lkt, ← lks]
  ·rw [mk, uy]
  ·show q.steps + C + 1 + 1 ≤ q.steps + 9; omega
end
section
variable {ws : List WI} {R : Nat} {fuel : Int} {s : MS} {q : QS} {i : WI}
theorem aHQ (hsim : Sim ws R s q) (hs : s.Ok R) (hR : R ≤ 28) (hw : ∀ w ∈ ws, w.Good R ws.length) (hl : ws.length ≤ 10000) (hj : s.at_ < ws.length) (hi : ws.getD s.at_ default = i) (hg : i.Good R ws.length) (hm : s.mem.length ≤ 60000) (hst : (q.steps : Int) + 10 < fuel) :
  ∃ s2 b, s.tick.step i = (s2, b) ∧ mN fuel ws R s q s2 b := by
 have h20 := hg.ok2.ok.op
 by_cases h14 : i.op ≤ 14
 ·exact aJz hsim hs hR hw hl hj hi hg (by omega) ⟨h20.1, h14⟩
 have hk := hg.ok2.ok.k
 have ha := hg.ok2.ok.a
 have hd := hg.ok2.ok.d
 have hb := hg.ok2.ok.b
 have hmem := hg.mem
 have hhalt := hg.halt
 obtain ⟨op, d, a, b, c, k⟩ := i
 simp only at h14 h20 hk ha hd hb hmem hhalt
 have : op = 15 ∨ op = 16 ∨ op = 17 ∨ op = 18 ∨ op = 19 ∨ op = 20 := by omega
 rcases this with rfl | rfl | rfl | rfl | rfl | rfl
 ·exact aAK (.inl ⟨rfl, rfl, rfl⟩) hsim hs hR hw hl hj hi (ha (by omega) (by omega)) (hd (by omega)) (hmem (by omega)) hm hst
 ·exact aAK (.inr ⟨rfl, rfl, rfl⟩) hsim hs hR hw hl hj hi (ha (by omega) (by omega)) (hb (by omega)) (hmem (by omega)) hm hst
 ·exact aKZ hsim hR hw hl hj hi (hk (by omega) (by omega)) (by omega)
 ·exact aGn (.inl rfl) hsim hR hw hl hj hi (hk (by omega) (by omega)) (ha (by omega) (by omega)) (by omega)
 ·exact aGn (.inr rfl) hsim hR hw hl hj hi (hk (by omega) (by omega)) (ha (by omega) (by omega)) (by omega)
 ·exact aLk hsim hR hw hl hj hi (hhalt rfl) (by omega)
end
theorem aGK {ws : List WI} {R : Nat} {F fuel : Int} (hR : R ≤ 28) (hw : ∀ w ∈ ws, w.Good R ws.length) (hl : ws.length ≤ 10000) (hF : F ≤ 99999) (hfuel : 9 * F + 20 < fuel) : ∀ (f : Nat) (s s' : MS) (q : QS), uK ws F f s = some s' → s'.code ≠ 4 → s.Ok R → Sim ws R s q → s.at_ ≤ ws.length → (s.steps : Int) ≤ F → q.steps ≤ 9 * s.steps → s.mem.length ≤ 60000 →
  ∃ (m : Nat) (q' : QS) (T : List (Int × Int)), (m : Int) ≤ 10 * (F - s.steps) + 1 ∧ aDL (oR ws) fuel q m q' ∧ q'.code = s'.code ∧ q'.mem = s'.mem ∧ s'.leaks = s.leaks ++ T ∧ ∀ pc, q'.leaks = q.leaks ++ mlk ws pc T
 | 0, s, s', q, h, _, _, _, _, _, _, _ => by simp [uK] at h
 | f + 1, s, s', q, h, hc, hs, hsim, hat, hst, hq, hm => by
  simp only [uK] at h
  by_cases h1 : ws.length ≤ s.at_
  ·rw [if_pos h1] at h; simp only [Option.some.injEq] at h; subst h
   have hp : q.at_ = (lY ws ws.length : Int) := by rw [hsim.at_, show s.at_ = ws.length by omega]
   have g := aHV (fuel := fuel) (cs := oR ws) (cd := q.code) (mem := q.mem) (r := q.regs) (lk := q.leaks) (st := q.steps) (fl := q.flags) (p := q.at_) (by rw [hp, aGg]; unfold oR; rw [List.length_map]; omega)
   exact ⟨1, _, [], by omega, g, rfl, hsim.mem, by simp, fun pc => by simp [mlk]⟩
  rw [if_neg h1] at h
  by_cases h2 : (s.steps : Int) = F
  ·rw [if_pos h2] at h; simp only [Option.some.injEq] at h; subst h
   exact absurd rfl hc
  rw [if_neg h2] at h
  have hj : s.at_ < ws.length := by omega
  have hmemi : ws.getD s.at_ default ∈ ws := by
   rw [List.getD_eq_getElem?_getD, List.getElem?_eq_getElem hj]; exact List.getElem_mem hj
  have hg := hw _ hmemi
  have okt : s.tick.Ok R := ⟨hs.len, hs.regs, hs.mem, by have := hs.leaks; simp [MS.tick, MS.leak]; omega, hs.big, by simp [MS.tick, MS.leak]; omega⟩
  obtain ⟨o1, o2, o3, o4⟩ := MS.step_ok okt hg.ok2.ok (by have := hs.leaks; simp [MS.tick, MS.leak]; omega) (show s.tick.at_ < ws.length from hj)
  have tst : s.tick.steps = s.steps + 1 := rfl
  have tm : s.tick.mem = s.mem := rfl
  obtain ⟨s2, b, hsb, m, q2, Y, X, m10, hY, hX, hmk, hmm, hqs, hgo, hend⟩ := aHQ (fuel := fuel) hsim hs hR hw hl hj rfl hg hm (by omega)
  rw [hsb] at h o1 o2 o3 o4
  simp only at h o1 o2 o3 o4
  cases b
  ·simp only [Option.some.injEq] at h
   subst h
   obtain ⟨he, hcode⟩ := hend rfl
   refine ⟨m, q2, Y, by omega, he, hcode, hmm, hY, fun pc => ?_⟩
   have := hmk pc []
   rw [List.append_nil] at this
   rw [hX, this]; simp [mlk]
  ·obtain ⟨hgo, hsim2⟩ := hgo rfl
   obtain ⟨m2, q', T, hm2, he, hcode, hmem, hT, hmlk⟩ := aGK hR hw hl hF hfuel f s2 s' q2 h hc o1 hsim2 o2 (by rw [o3, tst]; push_cast; omega) (by rw [o3, tst]; omega) (by rw [o4, tm]; exact hm)
   rw [o3, tst] at hm2
   refine ⟨m + m2, q', Y ++ T, by push_cast at hm2 ⊢; omega, hgo.ends he, hcode, hmem, by rw [hT, hY, List.append_assoc], fun pc => ?_⟩
   rw [hmlk s.at_, hX, hmk, List.append_assoc]
theorem aPo (ws : List WI) (R : Nat) (hR : R ≤ 28) (mem : List Nat) (cd : Int) : Sim ws R (s0 R mem) (q0 cd mem) := by
 refine ⟨by simp [q0], fun j hj => ?_, rfl, ?_⟩
 ·show (List.replicate 31 0).getD j 0 = (List.replicate R 0).getD j 0
  rw [List.getD_eq_getElem?_getD, List.getD_eq_getElem?_getD, List.getElem?_replicate, List.getElem?_replicate, if_pos hj, if_pos (by omega)]
 ·show (0 : Int) = (lY ws 0 : Int)
  simp [lY, iN]
theorem aLt {ws : List WI} {R : Nat} {F fuel : Int} {K f : Nat} (hR : R ≤ 28) (hw : ∀ w ∈ ws, w.Good R ws.length) (hl : ws.length ≤ 10000) (h0 : 0 ≤ F) (hF : F ≤ 99999) (hfuel : 9 * F + 20 < fuel) (mem : List Nat) (hm : mem.length ≤ 60000) (hmm : ∀ x ∈ mem, x < 18446744073709551616) (s' : MS) (h : uK ws F f (s0 R mem) = some s') (hc : s'.code ≠ 4) (hK : 10 * F + 1 ≤ K) :
  ∃ q', pR (oR ws) fuel K (q0 3 mem) = some q' ∧ q'.code = s'.code ∧ q'.mem = s'.mem ∧ q'.leaks = mlk ws 0 s'.leaks := by
 obtain ⟨m, q', T, hm, he, h1, h2, h3, h4⟩ := aGK hR hw hl hF hfuel f (s0 R mem) s' (q0 3 mem) h hc (aIF R mem hmm (by omega)) (aPo ws R hR mem 3) (by simp [s0]) (by simp only [s0]; omega) (by simp [q0]) (by simpa [s0] using hm)
 have e : s'.leaks = T := by rw [h3]; simp [s0]
 refine ⟨q', ?_, h1, h2, by rw [h4 0, e]; simp [q0]⟩
 have hs0 : (s0 R mem).steps = 0 := rfl
 rw [hs0] at hm
 have := he (K - m)
 rw [show K - m + m = K by omega] at this
 exact this
theorem aKK {v : VE} (h : v ≠ .ok) : aQ Tryd.prog .neq 30 true (veV v) .nili = some (.bool true) := by
 cases v with
 | ok => exact absurd rfl h
 | bare e => kernel_rfl
 | at_ j e => kernel_rfl
theorem aBL (v : VE) : bH [.sl 1 0 0 0 1, veV v] 0 [⟨71, 1, []⟩, ⟨71, 1, []⟩] = some (.ret, [.tup [.ro false [], veV v]], []) := by
 refine aGj ?_
 refine aGv (by simp [dH, cG]) ?_
 exact jZ (wZ (ty := 71) (xs := []) rfl (by omega) rfl rfl rfl) (jZ (mI (aKh v) 5) vU)
section
variable (G : aG) (hg : GOk G) (k : Nat) (ws : List WI) (r m : Int)
theorem aAH : bC (cV false ws r m) = true := by simp [bC, eO, aIW, cV]
theorem aJj : fZ (cV false ws r m) = true := by simp [fZ, jH, aNF, cV]
include hg in
theorem aEO (hk : ws.length < k + 7) (hl : ws.length ≤ 1000000) (h : kJ ws r m ≠ .ok) : bX.f G (k + 9) [cV false ws r m] [] = some (.tup [.ro false [], veV (kJ ws r m)], []) := by
 rw [bX.step]
 unfold bX.c
 have c0 : ∀ H, dV (cV false ws r m) H = some (.rp false (cV false ws r m) 0, H) := fun H => rfl
 have c1 : ∀ H, aC G true 3 (.rp false (cV false ws r m) 0) H = some (cV false ws r m) := fun H => rfl
 have r1 : ∀ H, aD (dX.f G (k + 8)) [cV false ws r m] H = _ := fun H => aE (H := H) (tO G hg k ws r m hk hl) (by simp [eO, aAH]) (sN _)
 have q := aKK h
 have fin := aBL (kJ ws r m)
 generalize kJ ws r m = v at *
 generalize cV false ws r m = C at *
 refine eZ ?_
 have fx := aPQ c0 <| aPQ c1 <| aPQ r1 <| q
 refine kM ?_
 exact oF fin
include hg in
theorem aEj (hk : ws.length < k + 7) (hl : ws.length ≤ 1000000) (h : kJ ws r m = .ok) (hr : 28 < r) : bX.f G (k + 9) [cV false ws r m] [] = some (.tup [.ro false [], veV (.bare 0)], []) := by
 rw [bX.step]
 unfold bX.c
 have c0 : ∀ H, dV (cV false ws r m) H = some (.rp false (cV false ws r m) 0, H) := fun H => rfl
 have c1 : ∀ H, aC G true 3 (.rp false (cV false ws r m) 0) H = some (cV false ws r m) := fun H => rfl
 have c2 : aA 1 (.rp false (cV false ws r m) 0) = some (.rp false (cV false ws r m) 1) := rfl
 have c3 : ∀ H, aC G false 1 (.rp false (cV false ws r m) 1) H = some (I6 r) := fun H => rfl
 have r1 : ∀ H, aD (dX.f G (k + 8)) [cV false ws r m] H = _ := fun H => aE (H := H) (tO G hg k ws r m hk hl) (by simp [eO, aAH]) (sN _)
 rw [h] at r1
 have q : aQ Tryd.prog .neq 30 true (veV .ok) .nili = some (.bool false) := by kernel_rfl
 have e0 : ∀ H, aC G false 1 (.gl 0) H = some (eV 0) := fun H => hg.g0
 have e2 : aQ Tryd.prog .gtr 3 true (I6 r) (.int .i64 28) = some (.bool true) := yZ (by omega)
 have fin := aBL (.bare 0)
 have ev : veV (.bare 0) = eV 0 := rfl
 rw [ev] at fin ⊢
 generalize cV false ws r m = C at *
 generalize eV 0 = E0 at *
 generalize veV .ok = E1 at *
 refine eZ ?_
 have fx := aPQ c0 <| aPQ c1 <| aPQ c2 <| aPQ c3 <| aPQ r1 <| aPQ q <| aPQ e0 <| e2
 refine kM ?_
 exact oF fin
include hg in
theorem aEm (hl : ws.length ≤ 60) (hk : 1000 ≤ k) (h : kJ ws r m = .ok) (hr : r ≤ 28) : bX.f G (k + 12) [cV false ws r m] [] = some (.tup [.ro false (iC (oR ws)), .nili], []) := by
 have hv := tO (bor := false) G hg (k + 3) ws r m (by omega) (by omega)
 rw [h] at hv
 have hgood := yS h
 have hr0 := (xG h).1
 have hR : r.toNat ≤ 28 := by omega
 obtain ⟨s0, hs0⟩ : ∃ s0, s0 = (KS.run ws.length ws k00).mark := ⟨_, rfl⟩
 have hrun := aJk ws
 rw [← hs0] at hrun
 obtain ⟨s1, hs1⟩ : ∃ s1, s1 = KS.fixes s0.jumps s0 := ⟨_, rfl⟩
 have ho1 : s1.out = aCA ws := by rw [hs1]; exact aIX ws s0 hs0
 have hfl := sJ ws.length ws
 have hjl : ∀ (L : JL) (b : Nat), (nR b L).length ≤ L.length := by
  intro L
  induction L with
  | nil => intro b; simp [nR]
  | cons x L ih =>
   intro b
   obtain ⟨i, o⟩ := x
   cases o with
   | none => have := ih (b + 1); simp only [nR, List.length_cons]; omega
   | some t => have := ih (b + 1); simp only [nR, List.length_cons]; omega
 have hJ : s0.jumps.length ≤ 540 := by rw [hrun]; have := hjl (iN ws.length ws) 0; show (nR 0 (iN ws.length ws)).length ≤ 540; omega
 have hO : s0.out.length ≤ 540 := by rw [hrun]; simp only [List.length_map]; omega
 have hpl : s0.place.length = ws.length + 1 := by rw [hrun]; exact aFj ws
 have := aHm G k ws r m hv hr (fun w hw => (hgood w hw).ok2.ok.op) (by omega) (by omega) s0 hs0 s1 hs1 (by omega) (by omega) (fun p hp => by
   rw [hrun] at hp
   have := aGA (e := ws.length) (m := ws.length) ⟨by omega, by omega⟩ (Nat.le_refl _) ws 0 hgood p hp
   rw [hpl, hrun]
   simp only [List.length_map]
   omega) (fun q hq => by rw [hrun] at hq; have := aBE ws q hq; omega) (by omega) (by omega) (by omega) (by rw [ho1]; exact tT hR hgood (by omega))
 rw [ho1] at this
 exact this
end
def uF (n : Nat) (R M : Int) (m : Nat) : Prop := n ≤ 60 ∧ R ≤ 40 ∧ M ≤ 80 ∧ m ≤ 80
instance (n : Nat) (R M : Int) (m : Nat) : Decidable (uF n R M m) := by unfold uF; infer_instance
theorem aFP (G : aG) (k : Nat) (cs : List WI) (R M : Int) (mem : List Nat) :
  cF.f G (k + 1) [cV false cs R M, .ro false (bT mem)] [] = some (.bool (decide (uF cs.length R M mem.length)), []) := by
 rw [cF.step]
 unfold cF.c cV
 have l1 : dQ (.ro false (iE cs)) = some (I6 cs.length) := by simp [dQ, kE]
 have l2 : dQ (.ro false (bT mem)) = some (I6 mem.length) := by simp [dQ, bN]
 refine eZ ?_
 repeat' first
  | (with_reducible first | refine eT ?_ | refine eN ?_ | refine eS ?_ | refine eXn ?_ | refine eXr ?_ | refine eX ?_ | refine eI ?_ | refine eK ?_ | refine eV0 ?_ | refine sW ?_ | refine sX ?_ | refine sV ?_ | refine tD ?_ | refine tB ?_ | refine sY ?_)
  | ((with_reducible apply eCn); (simp only [eG, eF]; first | done | (with_reducible exact rfl)))
  | ((with_reducible apply eJ); (rfl))
  | ((with_reducible apply sZ); (first | rfl | (simp only [eG, eF]; rfl)))
  | ((with_reducible apply eB); (first | (with_reducible exact rfl) | (simp (disch := omega) only [qf, l1, l2]; first | done | (with_reducible exact rfl) | (with_reducible exact ⟨rfl, rfl⟩)) | (simp (disch := omega) only [qa, jY, AV.cells, fQ, aY, lO, fR, fX, kX, Nat.reduceLeDiff, Nat.reduceLT, Nat.reduceAdd, ↓reduceIte, l1, l2]; first | done | (with_reducible exact rfl) | (with_reducible exact ⟨rfl, rfl⟩))))
  | ((with_reducible apply eR); (simp only [eG, eF]; (with_reducible exact rfl)))
  | ((with_reducible first | refine tY ?_ ?_ | refine tU ?_ ?_ | refine tQ ?_ ?_ | refine tW ?_ ?_ | refine uE ?_ ?_ | refine tP ?_ ?_ | refine tX ?_ ?_ | refine pB ?_ ?_ | refine sGd ?_ ?_ | refine oZ ?_ ?_) <;> intro hq <;> try subst hq)
 all_goals (refine uH ?_; first | exact (decide_eq_true (by unfold uF; omega)).symm | exact (decide_eq_false (by unfold uF; omega)).symm)
theorem aFN (G : aG) (k : Nat) (cs : List WI) (R M : Int) : cA.f G (k + 1) [cV false cs R M] [] = some (cV false cs R M, []) := by
 rw [cA.step]
 unfold cA.c cV
 refine eZ ?_
 repeat' first
  | (with_reducible first | refine eT ?_ | refine eN ?_ | refine eS ?_ | refine eXn ?_ | refine eXr ?_ | refine eX ?_ | refine eI ?_ | refine eK ?_ | refine eV0 ?_ | refine sW ?_ | refine sX ?_ | refine sV ?_ | refine tD ?_ | refine tB ?_ | refine sY ?_)
  | ((with_reducible apply eCn); (simp only [eG, eF]; first | done | (with_reducible exact rfl)))
  | ((with_reducible apply eJ); (rfl))
  | ((with_reducible apply sZ); (first | rfl | (simp only [eG, eF]; rfl)))
  | ((with_reducible apply eB); (first | (with_reducible exact rfl) | (simp (disch := omega) only [qa, jY, AV.cells, fQ, aY, lO, fR, fX, kX, Nat.reduceLeDiff, Nat.reduceLT, Nat.reduceAdd, ↓reduceIte]; first | done | (with_reducible exact rfl) | (with_reducible exact ⟨rfl, rfl⟩))))
  | ((with_reducible apply eR); (simp only [eG, eF]; (with_reducible exact rfl)))
  | ((with_reducible first | refine tY ?_ ?_ | refine tU ?_ ?_ | refine tQ ?_ ?_ | refine tW ?_ ?_ | refine uE ?_ ?_ | refine tP ?_ ?_ | refine tX ?_ ?_ | refine pB ?_ ?_ | refine sGd ?_ ?_ | refine oZ ?_ ?_) <;> intro hq <;> try subst hq)
 refine oF ?_
 unfold fK
 exact nF (by simp [cG, dH, jV, AV.cells]) _
theorem aKI (G : aG) (k : Nat) : dO.f G (k + 80) [] [] = some (.bool true, []) := by kernel_rfl
end Go.Proofs.YtdfglgnflldkpaaDoor.Mir
namespace Go.Proofs.YtdfglgnflldkpaaDoor
open Go Go.Proofs.YtdfglgnflldkpaaDoor.Mir
set_option linter.unusedVariables false
set_option linter.unusedSimpArgs false
set_option maxHeartbeats 8000000
set_option maxRecDepth 20000
theorem aPn (T : Nat) (j : Nat) (H : aF) (z cs : List AV) (hz : z.length = 35) (hc : cs.length = 35) (e : H[j]? = some ⟨T, 35, [.agg z]⟩) : fB (aL 35 (.ptr j 1 0 0) (.agg cs) H) = some (.tup [], H.set j ⟨T, 35, [.agg cs]⟩) := by
 have e2 : jY z 0 cs = cs := by
  unfold jY
  rw [List.take_zero, List.nil_append, List.drop_of_length_le (by omega), List.append_nil]
 have e3 : (AV.agg cs).cells = cs := rfl
 have e4 : (AV.agg z).cells = z := rfl
 have hs : fQ (.agg cs) = true := rfl
 unfold aL
 simp only [e, List.length_singleton, hs, List.getElem?_cons_zero, e3]
 rw [if_pos (by refine ⟨?_, ?_, ?_⟩ <;> first | trivial | exact hc), e4, if_pos (by omega), e2]
 rfl
theorem aIw (cs : List Int) (j : Nat) (w : Int) (h : cs[j]? = some w) : cJ 1 (.ro false (iC cs)) (Nn j) = some (.rp false (cX w) 0) := by
 have e : (iC cs)[j]? = some (cX w) := by unfold iC; rw [List.getElem?_map, h]; rfl
 exact tV e rfl
theorem aAh (G : aG) (k : Nat) (self : cN) (A C : AV) (b : Bool) (B : ABlk) (hB : dH 1 B.elems = true) (hA : cG 1 A = true) (hC : cG 1 C = true) (cs : List Int) (hl : cs.length ≤ 100000) (hcs : ∀ w ∈ cs, 0 ≤ w ∧ w < 4294967296 ∧ ∃ i, ofF w = some i) : ∀ (d j n : Nat) (X : aF), j + d = cs.length → d < n →
  gV (alembiclaw24_SelectMeans.l15 G (k + 40) 1 self) n [A, C, .undef, .bool b, .ro false (iC cs), Nn j] (B :: X) = some (.exit 0, [A, C, .undef, .bool b, .ro false (iC cs), Nn cs.length], [B])
 | d, j, 0, X, h, hn => by omega
 | 0, j, n + 1, X, h, hn => by
  have hj : j = cs.length := by omega
  subst hj
  have hc : iR 1 [A, C, .undef, .bool b, .ro false (iC cs), Nn cs.length] (B :: X) = some [B] := by
   unfold iR
   simp [dH, cG, dY, hA, hC, hB, nL]
  have lc : dQ (.ro false (iC cs)) = some (Nn cs.length) := by simp [dQ, qA]
  rw [fJ, alembiclaw24_SelectMeans.l15]
  refine jT ?_
  refine eC hc ?_
  have fx := lc
  refine kM ?_
  refine iA ?_; rfl
 | d + 1, j, n + 1, X, h, hn => by
  obtain ⟨w, hw⟩ : ∃ w, w = cs[j]'(by omega) := ⟨_, rfl⟩
  have hget : cs[j]? = some w := by rw [List.getElem?_eq_getElem (by omega), hw]
  obtain ⟨w0, w1, i, ho⟩ := hcs w (List.mem_of_getElem? hget)
  have hc : iR 1 [A, C, .undef, .bool b, .ro false (iC cs), Nn j] (B :: X) = some [B] := by
   unfold iR
   simp [dH, cG, dY, hA, hC, hB, nL]
  have lc : dQ (.ro false (iC cs)) = some (Nn cs.length) := by simp [dQ, qA]
  have q1 : aQ Tryd.prog .lss 3 false (Nn j) (Nn cs.length) = some (.bool true) := qM (by omega)
  have q2 : aQ Tryd.prog .add 3 true (Nn j) (.int .i64 1) = some (Nn (j + 1)) := by
   rw [kL, fW (by omega) (by omega)]; congr 2
  have d1 := aIw cs j w hget
  have d2 : ∀ H, aC G false 1 (.rp false (cX w) 0) H = some (cX w) := fun H => rfl
  have ov : ofV (ofF w) = .tup [i.v, .bool true] := by rw [ho]; rfl
  have r1 : ∀ H, aD (iH.f G (k + 40)) [cX w] H = some (.tup [i.v, .bool true], H) := fun H => by
   have := aLq G k w w0 w1
   rw [ov] at this
   exact aE (H := H) this rfl rfl
  have bx : fI 57 (.agg [(.int .i64 0), (.int .i64 0), (.int .i64 0), (.int .i64 0), (.int .i64 0), (.int .i64 0)]) [B] = some (.ptr 1 1 0 0, [B, ⟨57, 6, [mV 0 0 0 0 0 0]⟩]) := rfl
  have st : fB (aL 6 (.ptr 1 1 0 0) i.v [B, ⟨57, 6, [mV 0 0 0 0 0 0]⟩]) = some (.tup [], [B, ⟨57, 6, [i.v]⟩]) := rfl
  have ih := aAh G k self A C b B hB hA hC cs hl hcs d (j + 1) n [⟨57, 6, [i.v]⟩] (by omega) (by omega)
  rw [fJ, alembiclaw24_SelectMeans.l15]
  refine jT ?_
  refine eC hc ?_
  clear hcs ho ov
  generalize i.v = iv at *
  generalize iC cs = W at *
  generalize cX w = W1 at *
  have fx := aPQ lc <| aPQ q1 <| aPQ q2 <| aPQ d1 <| aPQ d2 <| aPQ r1 <| aPQ bx <| st
  refine kM ?_
  exact ih
theorem aHh (ws : List WI) (r m : Int) (mem : List Nat) (hmm : ∀ x ∈ mem, x < 18446744073709551616) : alembiclaw24_SelectMeans.f GA 8001 [cV false ws r m, .ro false (bT mem)] [] = some (.bool true, []) := by
 have hG := aOL
 have rf : ∀ H, aD (dO.f GA 8000) [] H = _ := fun H => aE (H := H) (aKI GA 7920) rfl rfl
 have pc := aAH ws r m
 have rl : ∀ H, aD (cF.f GA 8000) [cV false ws r m, .ro false (bT mem)] H = _ := fun H => aE (H := H) (aFP GA 7999 ws r m mem) (by simp [eO, pc, gX, bC]) rfl
 have ro_ : ∀ H, aD (cA.f GA 8000) [cV false ws r m] H = _ := fun H => aE (H := H) (aFN GA 7999 ws r m) (by simp [eO, pc]) (aJj ws r m)
 have b1 : ∀ H, dV (cV false ws r m) H = some (.rp false (cV false ws r m) 0, H) := fun H => rfl
 have d1 : ∀ H, aC GA true 3 (.rp false (cV false ws r m) 0) H = some (cV false ws r m) := fun H => rfl
 have d2 : aA 2 (.rp false (cV false ws r m) 0) = some (.rp false (cV false ws r m) 2) := rfl
 have d3 : ∀ H, aC GA false 1 (.rp false (cV false ws r m) 2) H = some (I6 m) := fun H => rfl
 have d4 : aA 1 (.rp false (cV false ws r m) 0) = some (.rp false (cV false ws r m) 1) := rfl
 have d5 : ∀ H, aC GA false 1 (.rp false (cV false ws r m) 1) H = some (I6 r) := fun H => rfl
 have lm : dQ (.ro false (bT mem)) = some (I6 mem.length) := by simp [dQ, bN]
 have le : dQ (.ro false []) = some (.int .i64 0) := rfl
 have bx0 : fI 34 (.agg [.int .i64 0, .bool false, .int .i64 0]) [] = some (.ptr 0 1 0 0, [⟨34, 3, [.agg [.int .i64 0, .bool false, .int .i64 0]]⟩]) := rfl
 rw [alembiclaw24_SelectMeans.step]
 unfold alembiclaw24_SelectMeans.c
 refine eZ ?_
 by_cases hl : ¬ uF ws.length r m mem.length
 ·rw [decide_eq_false hl] at rl
  generalize cV false ws r m = C at *
  have fx := aPQ rf <| aPQ rl <| aPQ b1 <| d1
  refine kM ?_
  exact uH rfl
 replace hl := Classical.not_not.1 hl
 rw [decide_eq_true hl] at rl
 unfold uF at hl
 have rv : ∀ H, aD (bJ.f GA 8000) [cV false ws r m] H = _ := fun H => aE (H := H) (aEA GA 7997 ws r m (by omega) (by omega)) (by simp [eO, pc]) (aBm _)
 have rs : ∀ v, v.low → ∀ H, aD (dL.f GA 8000) [veV v, wF v] H = _ := fun v hv H => aE (H := H) (aIn 7959 v hv) (by simp [eO, aBB, aBC]) rfl
 have rb : ∀ c H, aD (dB.f GA 8000) [I6 c] H = _ := fun c H => aE (H := H) (aCj GA 7999 c) rfl rfl
 have st : ∀ v, fB (aL 3 (.ptr 0 1 0 0) (wF v) [⟨34, 3, [.agg [.int .i64 0, .bool false, .int .i64 0]]⟩]) = some (.tup [], [⟨34, 3, [wF v]⟩]) := fun v => by cases v <;> rfl
 have ld : ∀ v l, aC GA true 3 (.ptr 0 1 0 0) (⟨34, 3, [wF v]⟩ :: l) = some (wF v) := fun v l => by cases v <;> rfl
 have hlow := aEX ws r m
 have k0 : aA 0 (.ptr 0 1 0 0) = some (.ptr 0 1 0 0) := rfl
 by_cases hv : kJ ws r m ≠ .ok
 ·have rr : ∀ H, aD (bX.f GA 8000) [cV false ws r m] H = _ := fun H => aE (H := H) (aEO GA hG 7991 ws r m (by omega) (by omega) hv) (by simp [eO, pc]) (by simp [fZ, jH, sN])
  obtain ⟨c, p, j, hft, hc⟩ : ∃ c p j, wF (kJ ws r m) = qH c p j ∧ c ≠ 0 := by
   cases h : kJ ws r m with
   | ok => exact absurd h hv
   | bare e => exact ⟨_, _, _, rfl, aGD e⟩
   | at_ j e => exact ⟨_, _, _, rfl, aGD e⟩
  have rs' := rs _ hlow
  have sv := st (kJ ws r m)
  have lv := ld (kJ ws r m)
  rw [hft] at rv rs' sv lv
  have lc : ∀ l, aC GA false 1 (.ptr 0 1 0 0) (⟨34, 3, [qH c p j]⟩ :: l) = some (I6 c) := fun l => rfl
  have q1 : aQ Tryd.prog .eql 3 true (I6 c) (.int .i64 0) = some (.bool false) := pP hc
  have q2 : aQ Tryd.prog .neq 3 true (I6 c) (.int .i64 0) = some (.bool true) := vT hc
  clear hft hv hlow st ld rs
  generalize veV (kJ ws r m) = V at *
  generalize qH c p j = Fv at *
  generalize cV false ws r m = C at *
  have fx := aPQ rf <| aPQ rl <| aPQ b1 <| aPQ d1 <| aPQ d2 <| aPQ d3 <| aPQ d4 <| aPQ d5 <| aPQ ro_ <| aPQ rv <| aPQ bx0 <| aPQ sv <| aPQ k0 <| aPQ lc <| aPQ q1 <| aPQ q2 <| aPQ rr <| aPQ lv <| aPQ rs' <| le
  refine kM ?_
  exact uH rfl
 replace hv := Classical.not_not.1 hv
 have hvok := xG hv
 have sv := st .ok
 have lv := ld .ok
 rw [hv] at rv
 have f0 : wF .ok = qH 0 false 0 := rfl
 rw [f0] at rv sv lv
 have lc : ∀ l, aC GA false 1 (.ptr 0 1 0 0) (⟨34, 3, [qH 0 false 0]⟩ :: l) = some (I6 0) := fun l => rfl
 have q1 : aQ Tryd.prog .eql 3 true (I6 0) (.int .i64 0) = some (.bool true) := oE rfl
 by_cases hr : 28 < r
 ·have rr : ∀ H, aD (bX.f GA 8000) [cV false ws r m] H = _ := fun H => aE (H := H) (aEj GA hG 7991 ws r m (by omega) (by omega) hv hr) (by simp [eO, pc]) (by simp [fZ, jH, sN])
  have rs' := rs (.bare 0) (show 0 < 6 by omega)
  have sv2 : fB (aL 3 (.ptr 0 1 0 0) (qH 103 false 0) [⟨34, 3, [qH 0 false 0]⟩]) = some (.tup [], [⟨34, 3, [qH 103 false 0]⟩]) := rfl
  have lv2 : ∀ l, aC GA true 3 (.ptr 0 1 0 0) (⟨34, 3, [qH 103 false 0]⟩ :: l) = some (qH 103 false 0) := fun l => rfl
  have lc2 : ∀ l, aC GA false 1 (.ptr 0 1 0 0) (⟨34, 3, [qH 103 false 0]⟩ :: l) = some (I6 103) := fun l => rfl
  have f1 : wF (.bare 0) = qH 103 false 0 := rfl
  rw [f1] at rs'
  have q2 : aQ Tryd.prog .neq 3 true (I6 103) (.int .i64 0) = some (.bool true) := vT (by decide)
  have q3 : aQ Tryd.prog .gtr 3 true (I6 r) (.int .i64 28) = some (.bool true) := yZ (by omega)
  have rb' := rb 103
  clear hlow st ld rs rb
  generalize veV (.bare 0) = V at *
  generalize qH 103 false 0 = Fv at *
  generalize qH 0 false 0 = F0 at *
  generalize cV false ws r m = C at *
  have fx := aPQ rf <| aPQ rl <| aPQ b1 <| aPQ d1 <| aPQ d2 <| aPQ d3 <| aPQ d4 <| aPQ d5 <| aPQ ro_ <| aPQ rv <| aPQ bx0 <| aPQ sv <| aPQ k0 <| aPQ lc <| aPQ q1 <| aPQ q2 <| aPQ q3 <| aPQ rr <| aPQ lv <| aPQ rs' <| aPQ le <| aPQ rb' <| aPQ sv2 <| aPQ lv2 <| lc2
  refine kM ?_
  exact uH rfl
 obtain ⟨R, rfl⟩ : ∃ R : Nat, r = R := ⟨r.toNat, by omega⟩
 have hR : R ≤ 28 := by omega
 have hgood := yS hv
 rw [Int.toNat_natCast] at hgood
 have plW : eO (iC (oR ws)) = true := oV _ (fun _ => rfl) _
 have clW : jH (iC (oR ws)) = true := pD _ (fun _ => rfl) _
 have rr : ∀ H, aD (bX.f GA 8000) [cV false ws R m] H = _ := fun H => aE (H := H) (aEm GA hG 7988 ws R m (by omega) (by decide) hv (by omega)) (by simp [eO, pc]) (by simp [fZ, jH, clW])
 have rs' := rs .ok trivial
 rw [f0, show veV .ok = .nili from rfl] at rs'
 have q2 : aQ Tryd.prog .neq 3 true (I6 0) (.int .i64 0) = some (.bool false) := zM rfl
 have q3 : aQ Tryd.prog .gtr 3 true (I6 R) (.int .i64 28) = some (.bool false) := vD (by omega)
 have hlen : (oR ws).length ≤ 540 := by
  have := sJ ws.length ws
  unfold oR; rw [List.length_map, aDr]; omega
 have hcs : ∀ w ∈ oR ws, 0 ≤ w ∧ w < 4294967296 ∧ ∃ i, ofF w = some i := by
  intro w hw
  obtain ⟨i, hi, rfl⟩ := List.mem_map.1 hw
  have hri := tT hR hgood (by omega) i hi
  refine ⟨(rK hri).1, (rK hri).2.1, ?_⟩
  by_cases h12 : i.op = 12 ∧ i.imm = 0
  ·obtain ⟨op, d, n, m2, a, imm⟩ := i
   obtain ⟨rfl, rfl⟩ := h12
   have h2 : m2 = 0 ∧ a = 0 ∧ aT ⟨13, d, n, 0, 0, 0⟩ = true := by
    simp [aT, kK, aO, fD, gI, dU, gS, fC, dS] at hri ⊢
    omega
   obtain ⟨rfl, rfl, h3⟩ := h2
   exact ⟨_, by rw [aEB]; exact uV h3 (by simp)⟩
  ·exact ⟨i, uV hri h12⟩
 have lp := aAh GA 7960 (alembiclaw24_SelectMeans.f GA 8000) (.ro false (bT mem)) (.rp false (cV false ws R m) 0) true ⟨34, 3, [qH 0 false 0]⟩ (by simp [dH, cG, qH]) (by simp [cG, gY]) (by simp [cG, cV, dH, jV]) (oR ws) (by omega) hcs (oR ws).length 0 8000 [] (by omega) (by omega)
 by_cases hmne : (mem.length : Int) ≠ m
 ·have q4 : aQ Tryd.prog .neq 3 false (I6 mem.length) (I6 m) = some (.bool true) := vT hmne
  clear hlow st ld rs rb hcs plW clW hgood hlen
  generalize cV false ws R m = C at *
  generalize qH 0 false 0 = F0 at *
  generalize iC (oR ws) = W at *
  generalize (oR ws).length = N at *
  generalize bT mem = NM at *
  have fx := aPQ rf <| aPQ rl <| aPQ b1 <| aPQ d1 <| aPQ d2 <| aPQ d3 <| aPQ d4 <| aPQ d5 <| aPQ ro_ <| aPQ rv <| aPQ bx0 <| aPQ sv <| aPQ k0 <| aPQ lc <| aPQ q1 <| aPQ q2 <| aPQ q3 <| aPQ q4 <| aPQ rr <| aPQ lv <| aPQ rs' <| lm
  refine kM ?_
  refine eK ?_
  refine eL lp ?_
  have fx := aPQ b1 <| aPQ d1 <| aPQ d2 <| aPQ d3 <| aPQ q4 <| lm
  refine kM ?_
  exact uH rfl
 replace hmne : (mem.length : Int) = m := Classical.not_not.1 hmne
 have q4 : aQ Tryd.prog .neq 3 false (I6 mem.length) (I6 m) = some (.bool false) := zM hmne
 obtain ⟨s', hs'⟩ := aBx ws 300 7999 (s0 R mem) (by simp [s0]) (by simp [s0])
 have hok2 : ∀ j, j < ws.length → (ws.getD j default).Ok2 R ws.length := fun j hj => by
  refine (hgood _ ?_).ok2
  rw [List.getD_eq_getElem?_getD, List.getElem?_eq_getElem hj]; exact List.getElem_mem hj
 have rrun : ∀ H, aD (bP.f GA 8000) [cV false ws R m, .nils, .ro false (bT mem), .int .i64 300] H = _ := fun H => aE (H := H) (aHb GA 7996 300 false ws R m mem false (by omega) hmm (by omega) hmne.symm (by decide) (by decide) (by omega) hok2 (by omega) s' hs') (by simp [eO, pc, bC, gX]) (aCt s' (-1))
 have qp : (wW s' (-1)) = .agg [I6 s'.code, .ro false (bT s'.mem), .ro false (iM s'.leaks), Nn s'.steps, I6 (-1)] := rfl
 obtain ⟨Q, hQ⟩ := aBP (oR ws) 4864 7999 (q0 3 mem) (by simp [q0]) (by simp [q0])
 have hQ31 : Q.regs.length = 31 := ((aGH (oR ws) 4864 (by decide) _ _ _ hQ (aLO 3 mem hmm (by omega)) (by simp only [q0]; decide)).1).rg.len
 have rmach0 := aCL (G := GA) (k := 7958) (bor := false) (cs := oR ws) (fuel := 4864) false mem hmm (by omega) (by decide) (by decide) (by omega) (by omega) (fun w hw => ⟨(hcs w hw).1, (hcs w hw).2.1⟩) Q hQ
 have rmach : ∀ H, aD (aW.f GA 8000) [.ro false (iC (oR ws)), .ro false (bT mem), .int .i64 4864] H = _ := fun H => aE (H := H) rmach0 (by simp [eO, bC, plW, gX]) (aFm Q)
 obtain ⟨L, hL⟩ : ∃ L, L = rsL (.ro false (bT Q.mem)) (.ro false (iM Q.leaks)) Q := ⟨_, rfl⟩
 have hLl := aKS (.ro false (bT Q.mem)) (.ro false (iM Q.leaks)) Q hQ31
 rw [← hL] at hLl
 rw [show aHa Q = .agg L by rw [hL]; rfl] at rmach
 obtain ⟨Z, hZ, hZl⟩ : ∃ Z, Z = rsL .nils .nils (q0 0 []) ∧ Z.length = 35 := ⟨_, rfl, rfl⟩
 have zz : (AV.agg [.int .i64 0, .nils, .int .u64 0, .int .u64 0, .int .u64 0, .int .u64 0, .int .u64 0, .int .u64 0, .int .u64 0, .int .u64 0, .int .u64 0, .int .u64 0, .int .u64 0, .int .u64 0, .int .u64 0, .int .u64 0, .int .u64 0, .int .u64 0, .int .u64 0, .int .u64 0, .int .u64 0, .int .u64 0, .int .u64 0, .int .u64 0, .int .u64 0, .int .u64 0, .int .u64 0, .int .u64 0, .int .u64 0, .int .u64 0, .int .u64 0, .int .u64 0, .int .u64 0, .nils, .int .i64 0]) = .agg (rsL .nils .nils (q0 0 [])) := rfl
 have z0 : L[0]? = some (I6 Q.code) := by rw [hL]; rfl
 have z1 : L[1]? = some (.ro false (bT Q.mem)) := by rw [hL]; rfl
 obtain ⟨S, hS⟩ : ∃ S, S = (AV.agg [I6 s'.code, .ro false (bT s'.mem), .ro false (iM s'.leaks), Nn s'.steps, I6 (-1)]) := ⟨_, rfl⟩
 rw [qp, ← hS] at rrun
 have bx1 : ∀ w, fI 40 (.agg [.int .i64 0, .nils, .nils, .int .i64 0, .int .i64 0]) [⟨34, 3, [w]⟩] = some (.ptr 1 1 0 0, [⟨34, 3, [w]⟩, ⟨40, 5, [.agg [.int .i64 0, .nils, .nils, .int .i64 0, .int .i64 0]]⟩]) := fun w => rfl
 have sx1 : ∀ w, fB (aL 5 (.ptr 1 1 0 0) S [⟨34, 3, [w]⟩, ⟨40, 5, [.agg [.int .i64 0, .nils, .nils, .int .i64 0, .int .i64 0]]⟩]) = some (.tup [], [⟨34, 3, [w]⟩, ⟨40, 5, [S]⟩]) := fun w => by rw [hS]; rfl
 have bx2 : ∀ w, fI 46 (.agg Z) [⟨34, 3, [w]⟩, ⟨40, 5, [S]⟩] = some (.ptr 2 1 0 0, [⟨34, 3, [w]⟩, ⟨40, 5, [S]⟩, ⟨46, 35, [.agg Z]⟩]) := fun w => by rw [hZ]; rfl
 have sx2 : ∀ w, fB (aL 35 (.ptr 2 1 0 0) (.agg L) [⟨34, 3, [w]⟩, ⟨40, 5, [S]⟩, ⟨46, 35, [.agg Z]⟩]) = some (.tup [], [⟨34, 3, [w]⟩, ⟨40, 5, [S]⟩, ⟨46, 35, [.agg L]⟩]) := fun w => aPn 46 2 [⟨34, 3, [w]⟩, ⟨40, 5, [S]⟩, ⟨46, 35, [.agg Z]⟩] Z L hZl hLl rfl
 have y0 : ∀ w l, aC GA false 1 (.ptr 1 1 0 0) (⟨34, 3, [w]⟩ :: ⟨40, 5, [S]⟩ :: l) = some (I6 s'.code) := fun w l => by rw [hS]; rfl
 have y1 : ∀ w l, aC GA false 1 (.ptr 1 1 0 1) (⟨34, 3, [w]⟩ :: ⟨40, 5, [S]⟩ :: l) = some (.ro false (bT s'.mem)) := fun w l => by rw [hS]; rfl
 have u0 : ∀ w, aC GA false 1 (.ptr 2 1 0 0) [⟨34, 3, [w]⟩, ⟨40, 5, [S]⟩, ⟨46, 35, [.agg L]⟩] = some (I6 Q.code) := fun w => (show _ = L[0]? from rfl).trans z0
 have u1 : ∀ w, aC GA false 1 (.ptr 2 1 0 1) [⟨34, 3, [w]⟩, ⟨40, 5, [S]⟩, ⟨46, 35, [.agg L]⟩] = some (.ro false (bT Q.mem)) := fun w => (show _ = L[1]? from rfl).trans z1
 have fa1 : aA 0 (.ptr 1 1 0 0) = some (.ptr 1 1 0 0) := rfl
 have fa2 : aA 1 (.ptr 1 1 0 0) = some (.ptr 1 1 0 1) := rfl
 have fa3 : aA 0 (.ptr 2 1 0 0) = some (.ptr 2 1 0 0) := rfl
 have fa4 : aA 1 (.ptr 2 1 0 0) = some (.ptr 2 1 0 1) := rfl
 rw [zz, ← hZ]
 by_cases hcode : s'.code = 4
 ·have q5 : aQ Tryd.prog .eql 3 true (I6 s'.code) (.int .i64 4) = some (.bool true) := oE hcode
  clear hlow st ld rs rb hcs plW clW hgood hlen hok2 hL hLl hZ hZl zz z0 z1 hS qp rmach0 hQ hs' hcode hQ31
  generalize cV false ws R m = C at *
  generalize qH 0 false 0 = F0 at *
  generalize iC (oR ws) = W at *
  generalize (oR ws).length = N at *
  generalize bT mem = NM at *
  have fx := aPQ rf <| aPQ rl <| aPQ b1 <| aPQ d1 <| aPQ d2 <| aPQ d3 <| aPQ d4 <| aPQ d5 <| aPQ ro_ <| aPQ rv <| aPQ bx0 <| aPQ sv <| aPQ k0 <| aPQ lc <| aPQ q1 <| aPQ q2 <| aPQ q3 <| aPQ q4 <| aPQ rr <| aPQ lv <| aPQ rs' <| lm
  refine kM ?_
  refine eK ?_
  refine eL lp ?_
  have fx := aPQ b1 <| aPQ d1 <| aPQ d2 <| aPQ d3 <| aPQ q4 <| aPQ lm <| aPQ ro_ <| aPQ rrun <| aPQ bx1 <| aPQ sx1 <| aPQ rmach <| aPQ bx2 <| aPQ sx2 <| aPQ fa1 <| aPQ fa2 <| aPQ fa3 <| aPQ fa4 <| aPQ y0 <| aPQ y1 <| aPQ u0 <| aPQ u1 <| q5
  refine kM ?_
  exact uH rfl
 ·obtain ⟨q', hq', e1, e2, e3⟩ := aLt (K := 7999) (f := 7999) hR hgood (by omega) (by decide) (by decide) (by decide) mem (by omega) hmm s' hs' hcode (by decide) (fuel := 4864) (F := 300)
  rw [hQ] at hq'
  simp only [Option.some.injEq] at hq'
  subst hq'
  have q5 : aQ Tryd.prog .eql 3 true (I6 s'.code) (.int .i64 4) = some (.bool false) := pP hcode
  have q6 : aQ Tryd.prog .eql 3 false (I6 s'.code) (I6 Q.code) = some (.bool true) := oE e1.symm
  have hml : s'.mem.length ≤ 80 := by
   have := (aGb ws 300 R (by decide) (fun j hj => (hok2 j hj).ok) _ _ _ hs' (aIF R mem hmm (by omega)) (by simp [s0]) (by simp [s0])).2.2
   rw [this]; simp only [s0]; omega
  have rsame : ∀ H, aD (bA.f GA 8000) [.ro false (bT s'.mem), .ro false (bT Q.mem)] H = _ := fun H => aE (H := H) (by rw [e2]; exact xE GA 7999 false false s'.mem (by omega) (by omega)) (by simp [eO, bC, gX]) rfl
  clear hlow st ld rs rb hcs plW clW hgood hlen hok2 hL hLl hZ hZl zz z0 z1 hS qp rmach0 hQ hs' hcode hQ31 e1 e2 e3 hml
  generalize cV false ws R m = C at *
  generalize qH 0 false 0 = F0 at *
  generalize iC (oR ws) = W at *
  generalize (oR ws).length = N at *
  generalize bT mem = NM at *
  have fx := aPQ rf <| aPQ rl <| aPQ b1 <| aPQ d1 <| aPQ d2 <| aPQ d3 <| aPQ d4 <| aPQ d5 <| aPQ ro_ <| aPQ rv <| aPQ bx0 <| aPQ sv <| aPQ k0 <| aPQ lc <| aPQ q1 <| aPQ q2 <| aPQ q3 <| aPQ q4 <| aPQ rr <| aPQ lv <| aPQ rs' <| lm
  refine kM ?_
  refine eK ?_
  refine eL lp ?_
  have fx := aPQ b1 <| aPQ d1 <| aPQ d2 <| aPQ d3 <| aPQ q4 <| aPQ lm <| aPQ ro_ <| aPQ rrun <| aPQ bx1 <| aPQ sx1 <| aPQ rmach <| aPQ bx2 <| aPQ sx2 <| aPQ fa1 <| aPQ fa2 <| aPQ fa3 <| aPQ fa4 <| aPQ y0 <| aPQ y1 <| aPQ u0 <| aPQ u1 <| aPQ q5 <| aPQ q6 <| rsame
  refine kM ?_
  exact uH rfl
theorem LSelectMeans.law (xs : List AV) (h : IsTs Tryd.prog [24, 25] xs) : ∃ k, alembiclaw24_SelectMeans.f (aCf 180 [1, 5, 0, 3, 6, 2, 7, 8, 4, 9, 10, 11, 12, 13]) k xs [] = some (.bool true, []) := by
 obtain ⟨x1, _, rfl, hx1, h⟩ := h.uncons
 obtain ⟨x2, _, rfl, hx2, h⟩ := h.uncons
 obtain rfl := h.unnil
 obtain ⟨cs, R, M, rfl, hR, hM⟩ := aLb hx1
 obtain ⟨mem, rfl, hm⟩ := aIu Tryd.underlying25 Tryd.underlying43 hx2
 exact ⟨8001, aHh cs R M mem hm⟩
end Go.Proofs.YtdfglgnflldkpaaDoor
namespace Go.Proofs.YtdfglgnflldkpaaDoor
open Go Go.ChangeShapes Go.WideShapes Go.RowKit Mir
set_option linter.unusedVariables false
set_option linter.unusedSimpArgs false
namespace RSelectMeans
noncomputable def aBv (os : Os) : World :=
 let w0 := World.holding Tryd.prog os ⟨#[.cells #[.string ⟨#[97, 32, 110, 117, 109, 98, 101, 114, 32, 111, 117, 116, 32, 111, 102, 32, 105, 116, 115, 32, 114, 97, 110, 103, 101]⟩] 197, .cells #[.string ⟨#[110, 111, 116, 32, 97, 115, 32, 108, 111, 110, 103, 32, 97, 115, 32, 105, 116, 32, 104, 97, 115, 32, 116, 111, 32, 98, 101]⟩] 197, .cells #[.string ⟨#[116, 111, 111, 32, 109, 97, 110, 121]⟩] 197, .cells #[.string ⟨#[110, 111, 116, 32, 97, 115, 32, 105, 116, 32, 104, 97, 115, 32, 116, 111, 32, 98, 101]⟩] 197, .cells #[.string ⟨#[116, 104, 101, 114, 101, 32, 105, 115, 32, 110, 111, 110, 101]⟩] 197, .cells #[.string ⟨#[110, 111, 32, 115, 117, 99, 104, 32, 116, 104, 105, 110, 103, 32, 116, 111, 32, 100, 111]⟩] 197, .cells #[.string ⟨#[110, 111, 32, 115, 117, 99, 104, 32, 118, 97, 114, 105, 97, 98, 108, 101]⟩] 197, .cells #[.string ⟨#[97, 32, 115, 101, 99, 114, 101, 116, 32, 119, 104, 101, 114, 101, 32, 105, 116, 32, 109, 97, 121, 32, 110, 111, 116, 32, 98, 101]⟩] 197, .cells #[.string ⟨#[110, 111, 32, 115, 117, 99, 104, 32, 112, 108, 97, 99, 101]⟩] 197, .cells #[.string ⟨#[116, 111, 111, 32, 102, 97, 114]⟩] 197, .cells #[.string ⟨#[105, 116, 32, 116, 97, 107, 101, 115, 32, 116, 111, 111, 32, 108, 111, 110, 103]⟩] 197, .cells #[.string ⟨#[119, 104, 101, 114, 101, 32, 116, 104, 101, 114, 101, 32, 105, 115, 32, 110, 111, 116, 104, 105, 110, 103]⟩] 197, .cells #[.string ⟨#[110, 111, 32, 115, 117, 99, 104, 32, 119, 111, 114, 100]⟩] 197, .cells #[.string ⟨#[110, 111, 116, 32, 97, 32, 110, 117, 109, 98, 101, 114]⟩] 197], #[], []⟩
 {w0 with heap := w0.heap
  |>.modify 1 (fun
   | .cells _ t frozen => .cells #[.iface 180 (.pointer (some ⟨Rk.low, 0, none⟩))] t frozen
   | o => o)
  |>.modify 5 (fun
   | .cells _ t frozen => .cells #[.iface 180 (.pointer (some ⟨Rk.low + 1, 0, none⟩))] t frozen
   | o => o)
  |>.modify 0 (fun
   | .cells _ t frozen => .cells #[.iface 180 (.pointer (some ⟨Rk.low + 2, 0, none⟩))] t frozen
   | o => o)
  |>.modify 3 (fun
   | .cells _ t frozen => .cells #[.iface 180 (.pointer (some ⟨Rk.low + 3, 0, none⟩))] t frozen
   | o => o)
  |>.modify 6 (fun
   | .cells _ t frozen => .cells #[.iface 180 (.pointer (some ⟨Rk.low + 4, 0, none⟩))] t frozen
   | o => o)
  |>.modify 2 (fun
   | .cells _ t frozen => .cells #[.iface 180 (.pointer (some ⟨Rk.low + 5, 0, none⟩))] t frozen
   | o => o)
  |>.modify 7 (fun
   | .cells _ t frozen => .cells #[.iface 180 (.pointer (some ⟨Rk.low + 6, 0, none⟩))] t frozen
   | o => o)
  |>.modify 8 (fun
   | .cells _ t frozen => .cells #[.iface 180 (.pointer (some ⟨Rk.low + 7, 0, none⟩))] t frozen
   | o => o)
  |>.modify 4 (fun
   | .cells _ t frozen => .cells #[.iface 180 (.pointer (some ⟨Rk.low + 8, 0, none⟩))] t frozen
   | o => o)
  |>.modify 9 (fun
   | .cells _ t frozen => .cells #[.iface 180 (.pointer (some ⟨Rk.low + 9, 0, none⟩))] t frozen
   | o => o)
  |>.modify 10 (fun
   | .cells _ t frozen => .cells #[.iface 180 (.pointer (some ⟨Rk.low + 10, 0, none⟩))] t frozen
   | o => o)
  |>.modify 11 (fun
   | .cells _ t frozen => .cells #[.iface 180 (.pointer (some ⟨Rk.low + 11, 0, none⟩))] t frozen
   | o => o)
  |>.modify 12 (fun
   | .cells _ t frozen => .cells #[.iface 180 (.pointer (some ⟨Rk.low + 12, 0, none⟩))] t frozen
   | o => o)
  |>.modify 13 (fun
   | .cells _ t frozen => .cells #[.iface 180 (.pointer (some ⟨Rk.low + 13, 0, none⟩))] t frozen
   | o => o) }
theorem aBg (os : Os) (args : Array Value) : laidMetH Tryd.prog ([("alembic/api.ErrRange", Rows.laid_alembic_api_ErrRange), ("alembic/api.ErrLength", Rows.laid_alembic_api_ErrLength), ("alembic/api.ErrMany", Rows.laid_alembic_api_ErrMany), ("alembic/api.ErrShape", Rows.laid_alembic_api_ErrShape), ("alembic/api.ErrNone", Rows.laid_alembic_api_ErrNone), ("alembic/api.ErrOp", Rows.laid_alembic_api_ErrOp), ("alembic/api.ErrVar", Rows.laid_alembic_api_ErrVar), ("alembic/api.ErrSecret", Rows.laid_alembic_api_ErrSecret), ("alembic/api.ErrLabel", Rows.laid_alembic_api_ErrLabel), ("alembic/api.ErrFar", Rows.laid_alembic_api_ErrFar), ("alembic/api.ErrFuel", Rows.laid_alembic_api_ErrFuel), ("alembic/api.ErrFault", Rows.laid_alembic_api_ErrFault), ("alembic/api.ErrWord", Rows.laid_alembic_api_ErrWord), ("alembic/api.ErrNumber", Rows.laid_alembic_api_ErrNumber)] : List (String × DataW Unit)) ((aBv os).forCall (fun _ _ => 0) ⟨#[], args, []⟩).memory :=
 laidMet_of_run (ps := [.cell 1 0, .cell (Rk.low) 0, .cell 5 0, .cell (Rk.low + 1) 0, .cell 0 0, .cell (Rk.low + 2) 0, .cell 3 0, .cell (Rk.low + 3) 0, .cell 6 0, .cell (Rk.low + 4) 0, .cell 2 0, .cell (Rk.low + 5) 0, .cell 7 0, .cell (Rk.low + 6) 0, .cell 8 0, .cell (Rk.low + 7) 0, .cell 4 0, .cell (Rk.low + 8) 0, .cell 9 0, .cell (Rk.low + 9) 0, .cell 10 0, .cell (Rk.low + 10) 0, .cell 11 0, .cell (Rk.low + 11) 0, .cell 12 0, .cell (Rk.low + 12) 0, .cell 13 0, .cell (Rk.low + 13) 0]) 8 (by kernel_rfl) (by kernel_rfl) (by kernel_rfl)
theorem aOw : aGu Tryd.prog 30 [("alembic/api.ErrRange", Rows.laid_alembic_api_ErrRange), ("alembic/api.ErrLength", Rows.laid_alembic_api_ErrLength), ("alembic/api.ErrMany", Rows.laid_alembic_api_ErrMany), ("alembic/api.ErrShape", Rows.laid_alembic_api_ErrShape), ("alembic/api.ErrNone", Rows.laid_alembic_api_ErrNone), ("alembic/api.ErrOp", Rows.laid_alembic_api_ErrOp), ("alembic/api.ErrVar", Rows.laid_alembic_api_ErrVar), ("alembic/api.ErrSecret", Rows.laid_alembic_api_ErrSecret), ("alembic/api.ErrLabel", Rows.laid_alembic_api_ErrLabel), ("alembic/api.ErrFar", Rows.laid_alembic_api_ErrFar), ("alembic/api.ErrFuel", Rows.laid_alembic_api_ErrFuel), ("alembic/api.ErrFault", Rows.laid_alembic_api_ErrFault), ("alembic/api.ErrWord", Rows.laid_alembic_api_ErrWord), ("alembic/api.ErrNumber", Rows.laid_alembic_api_ErrNumber)] [1, 5, 0, 3, 6, 2, 7, 8, 4, 9, 10, 11, 12, 13] := ⟨by kernel_rfl, by kernel_rfl, ⟨_, rfl⟩, by kernel_rfl, by kernel_rfl, ⟨_, rfl⟩, by kernel_rfl, by kernel_rfl, ⟨_, rfl⟩, by kernel_rfl, by kernel_rfl, ⟨_, rfl⟩, by kernel_rfl, by kernel_rfl, ⟨_, rfl⟩, by kernel_rfl, by kernel_rfl, ⟨_, rfl⟩, by kernel_rfl, by kernel_rfl, ⟨_, rfl⟩, by kernel_rfl, by kernel_rfl, ⟨_, rfl⟩, by kernel_rfl, by kernel_rfl, ⟨_, rfl⟩, by kernel_rfl, by kernel_rfl, ⟨_, rfl⟩, by kernel_rfl, by kernel_rfl, ⟨_, rfl⟩, by kernel_rfl, by kernel_rfl, ⟨_, rfl⟩, by kernel_rfl, by kernel_rfl, ⟨_, rfl⟩, by kernel_rfl, by kernel_rfl, ⟨_, rfl⟩, trivial⟩
theorem sent {W : World} (h : laidMetH Tryd.prog ([("alembic/api.ErrRange", Rows.laid_alembic_api_ErrRange), ("alembic/api.ErrLength", Rows.laid_alembic_api_ErrLength), ("alembic/api.ErrMany", Rows.laid_alembic_api_ErrMany), ("alembic/api.ErrShape", Rows.laid_alembic_api_ErrShape), ("alembic/api.ErrNone", Rows.laid_alembic_api_ErrNone), ("alembic/api.ErrOp", Rows.laid_alembic_api_ErrOp), ("alembic/api.ErrVar", Rows.laid_alembic_api_ErrVar), ("alembic/api.ErrSecret", Rows.laid_alembic_api_ErrSecret), ("alembic/api.ErrLabel", Rows.laid_alembic_api_ErrLabel), ("alembic/api.ErrFar", Rows.laid_alembic_api_ErrFar), ("alembic/api.ErrFuel", Rows.laid_alembic_api_ErrFuel), ("alembic/api.ErrFault", Rows.laid_alembic_api_ErrFault), ("alembic/api.ErrWord", Rows.laid_alembic_api_ErrWord), ("alembic/api.ErrNumber", Rows.laid_alembic_api_ErrNumber)] : List (String × DataW Unit)) W) : ∃ S, SentS W 180 [1, 5, 0, 3, 6, 2, 7, 8, 4, 9, 10, 11, 12, 13] S :=
 aCZ Tryd.underlying30 Rk.row Tryd.underlying180 Tryd.underlying197 rfl rfl Tryd.underlying9 (by kernel_rfl) (by kernel_rfl) aOw (by decide) h
theorem aKF : ∀ t ∈ ([24, 22, 60, 3, 2, 25, 43] : List Nat), aAa Tryd.prog [24, 22, 60, 3, 2, 25, 43] t = true := List.all_eq_true.1 (by kernel_rfl)
set_option maxRecDepth 100000 in
theorem aMH (os : Os) (started : os.Started) (H : Type) (enc : TypeId × Value → H) :
  ReturnsInHanded {} Tryd.checked os 14 .any (fun w args => (Rows.selectMeansSpec.pre enc Tryd.prog Tryd.f14 [] false w args ∧ laidMetH Tryd.prog ([("alembic/api.ErrRange", Rows.laid_alembic_api_ErrRange), ("alembic/api.ErrLength", Rows.laid_alembic_api_ErrLength), ("alembic/api.ErrMany", Rows.laid_alembic_api_ErrMany), ("alembic/api.ErrShape", Rows.laid_alembic_api_ErrShape), ("alembic/api.ErrNone", Rows.laid_alembic_api_ErrNone), ("alembic/api.ErrOp", Rows.laid_alembic_api_ErrOp), ("alembic/api.ErrVar", Rows.laid_alembic_api_ErrVar), ("alembic/api.ErrSecret", Rows.laid_alembic_api_ErrSecret), ("alembic/api.ErrLabel", Rows.laid_alembic_api_ErrLabel), ("alembic/api.ErrFar", Rows.laid_alembic_api_ErrFar), ("alembic/api.ErrFuel", Rows.laid_alembic_api_ErrFuel), ("alembic/api.ErrFault", Rows.laid_alembic_api_ErrFault), ("alembic/api.ErrWord", Rows.laid_alembic_api_ErrWord), ("alembic/api.ErrNumber", Rows.laid_alembic_api_ErrNumber)] : List (String × DataW Unit)) w) ∧ sizedMet enc Tryd.prog Tryd.f14 (OpenSpec.ofChange Rows.selectMeansSpec) false w args)
   (Rows.selectMeansSpec.post enc Tryd.prog Tryd.f14 false true false false) := by
 refine returnsInHanded_of_change_and (C := Tryd.checked) (X := fun w _ => laidMetH Tryd.prog ([("alembic/api.ErrRange", Rows.laid_alembic_api_ErrRange), ("alembic/api.ErrLength", Rows.laid_alembic_api_ErrLength), ("alembic/api.ErrMany", Rows.laid_alembic_api_ErrMany), ("alembic/api.ErrShape", Rows.laid_alembic_api_ErrShape), ("alembic/api.ErrNone", Rows.laid_alembic_api_ErrNone), ("alembic/api.ErrOp", Rows.laid_alembic_api_ErrOp), ("alembic/api.ErrVar", Rows.laid_alembic_api_ErrVar), ("alembic/api.ErrSecret", Rows.laid_alembic_api_ErrSecret), ("alembic/api.ErrLabel", Rows.laid_alembic_api_ErrLabel), ("alembic/api.ErrFar", Rows.laid_alembic_api_ErrFar), ("alembic/api.ErrFuel", Rows.laid_alembic_api_ErrFuel), ("alembic/api.ErrFault", Rows.laid_alembic_api_ErrFault), ("alembic/api.ErrWord", Rows.laid_alembic_api_ErrWord), ("alembic/api.ErrNumber", Rows.laid_alembic_api_ErrNumber)] : List (String × DataW Unit)) w) (fun _ _ _ hh h => h.of_heap hh) Rk.own started (by kernel_rfl) Tryd.func14
  (ChangeSpec.witness_at (enc := enc) (C := Tryd.checked) (os := os) (X := fun w _ => laidMetH Tryd.prog ([("alembic/api.ErrRange", Rows.laid_alembic_api_ErrRange), ("alembic/api.ErrLength", Rows.laid_alembic_api_ErrLength), ("alembic/api.ErrMany", Rows.laid_alembic_api_ErrMany), ("alembic/api.ErrShape", Rows.laid_alembic_api_ErrShape), ("alembic/api.ErrNone", Rows.laid_alembic_api_ErrNone), ("alembic/api.ErrOp", Rows.laid_alembic_api_ErrOp), ("alembic/api.ErrVar", Rows.laid_alembic_api_ErrVar), ("alembic/api.ErrSecret", Rows.laid_alembic_api_ErrSecret), ("alembic/api.ErrLabel", Rows.laid_alembic_api_ErrLabel), ("alembic/api.ErrFar", Rows.laid_alembic_api_ErrFar), ("alembic/api.ErrFuel", Rows.laid_alembic_api_ErrFuel), ("alembic/api.ErrFault", Rows.laid_alembic_api_ErrFault), ("alembic/api.ErrWord", Rows.laid_alembic_api_ErrWord), ("alembic/api.ErrNumber", Rows.laid_alembic_api_ErrNumber)] : List (String × DataW Unit)) w) false (aBv os) #[.agg #[.slice none 0 0, .int .i64 0, .int .i64 0], .slice none 0 0] 8 rfl (by kernel_rfl) (by kernel_rfl) (by kernel_rfl) (by kernel_rfl) (by kernel_rfl) (aBg os _)) ?_
 intro W base args ds gs before hval0 hW _ _ hL _
 obtain ⟨S, hS⟩ := sent hL
 have hval : ∀ (j : Nat) t v, Tryd.f14.params.toList[j]? = some t → args.toList[j]? = some v → Value.okWide Tryd.prog W .any base t v := fun j t v h1 h2 => hval0 j t v (by simpa using h1) (by simpa using h2)
 have hW' := hW
 obtain ⟨p, q, hA, _, _, _, _⟩ := hW
 have hpar : Tryd.f14.params.toList = [24, 25] := by rw [Tryd.params14]
 rw [hpar] at hval
 replace hA : DataW.TrodAll enc Tryd.prog W 0 (fun _ => true) true Tryd.f14.params.toList args.toList ds p := hA
 rw [hpar] at hA
 obtain ⟨xs, h1, h2⟩ := aCi aKF (by decide) hval hA
 obtain ⟨k, hk⟩ := LSelectMeans.law xs h1
 have hc := aHf (Mir.alembiclaw24_SelectMeans.sound (aEs _ _) k) hk (aJB hS) h2
 rw [Array.toArray_toList] at hc
 refine hc.mono fun e W' ⟨he, hb⟩ => ⟨_, he, ?_⟩
 exact aJp rfl hpar (by kernel_rfl) Tryd.underlying4 (fun ds hd => by
  obtain ⟨d0, d1, rfl⟩ : ∃ d0 d1, ds = [d0, d1] := by
   match ds, hd with
   | [d0, d1], _ => exact ⟨d0, d1, rfl⟩
  rfl) Rk.laidOut (by kernel_rfl) hW' hb
theorem holds : Rows.SelectMeansSaid :=
 OpenClaim.holds_of_wide 14 Tryd.f14 rfl rfl rfl rfl rfl rfl rfl ⟨rfl, rfl, rfl, rfl, rfl⟩ rfl rfl rfl rfl rfl (by kernel_rfl) Tryd.func14 (by kernel_rfl)
  (of_decide_eq_true (by kernel_rfl)) (by unfold Func.isWrapper; first | (rw [if_pos (by decide +kernel)]; kernel_rfl) | (rw [if_neg (by decide +kernel)]; exact ⟨rfl, rfl⟩))
  (fun os started H enc _ => aMH os started H enc)
theorem cardHolds : Rows.SelectMeansCardSaid :=
 Claim7.holds_tied_plain_at .later [] [.sentinel, .sentinel, .sentinel, .sentinel, .sentinel, .sentinel, .sentinel, .sentinel, .sentinel, .sentinel, .sentinel, .sentinel, .sentinel, .sentinel] true (true, "92292b04e853d01d8cf3885d4f753a51952eaef99bf2156408a64e96f17010d7") true
  holds (fun _ h => by cases h) (by kernel_rfl) (fun _ h => by cases h) selectMeans_row_tie rfl ⟨rfl, rfl⟩ (by kernel_rfl) rfl
  (fun f fn hf hfn => by
   obtain rfl : f = 14 := Option.some.inj ((show Tryd.prog.funcNamed "alembic/alembiclaw24.SelectMeans" = some 14 by kernel_rfl).symm.trans hf) |>.symm
   obtain rfl : fn = Tryd.f14 := (Option.some.inj (Tryd.func14.symm.trans hfn)).symm
   exact ⟨by kernel_rfl, fun j t ht => by
    have hm : t ∈ ([24, 25] : List Nat) := by
     have := List.mem_of_getElem? (l := Tryd.f14.params.toList) (i := j) (by simpa using ht)
     rw [Tryd.params14] at this
     exact this
    have := List.all_eq_true.1 (show ([24, 25] : List Nat).all (fun t => !Tryd.prog.wantsStandIn t) = true by kernel_rfl) t hm
    exact (by simpa using this : Tryd.prog.wantsStandIn t = false)⟩)
  (by kernel_rfl)
end RSelectMeans
end Go.Proofs.YtdfglgnflldkpaaDoor
