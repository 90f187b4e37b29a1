/- Part 9 of the proof: what these functions do. -/
import Derived.Test.YtlkgkfgkiidhdaaDoorVi8
import Derived.KernelRfl
namespace Go.Proofs.YtlkgkfgkiidhdaaDoor.Mir
open Go
set_option linter.unusedSimpArgs false
set_option linter.unusedVariables false
set_option maxHeartbeats 8000000
set_option maxRecDepth 20000
section
variable (G : aF) (k : Nat) (self : cE) {H : aB} {p q r n : Nat} {us : List Int} (hS : SH H p q r n us)
theorem aBb {c : Bool} {a b : Nat} (h : a ≤ b) : aX Tryd.prog .leq 3 c (Nn a) (Nn b) = some (.bool true) := vM (by omega)
theorem aBa {c : Bool} {a b : Nat} (h : b < a) : aX Tryd.prog .leq 3 c (Nn a) (Nn b) = some (.bool false) := aBg (by omega)
theorem aJk {c : Bool} {a : Nat} (h : a ≤ 10000) : aX Tryd.prog .mul 3 c (.int .i64 2) (Nn a) = some (Nn (2 * a : Nat)) := by
 rw [aAy, eD (by omega) (by omega)]; congr 2
theorem aKd {c : Bool} {a : Nat} (h : a ≤ 10000) : aX Tryd.prog .mul 3 c (Nn a) (.int .i64 2) = some (Nn (2 * a : Nat)) := by
 rw [aAy, eD (by omega) (by omega)]; congr 2; omega
include hS in
theorem aAc (m bs i j : Nat) : cI H.length [dS p n, Nn m, cS q, Nn bs, Nn i, Nn j] = true := by
 have h1 : decide (p < H.length) = true := decide_eq_true hS.hp
 have h2 : decide (q < H.length) = true := decide_eq_true (aFI hS)
 simp only [dS, cS, cI, cB, h1, h2, Bool.and_self]
include hS in
theorem aFU (m bs : Nat) : cI H.length [dS p n, Nn m, cS q, Nn bs] = true := by
 have h1 : decide (p < H.length) = true := decide_eq_true hS.hp
 have h2 : decide (q < H.length) = true := decide_eq_true (aFI hS)
 simp only [dS, cS, cI, cB, h1, h2, Bool.and_self]
include hS in
theorem aHF (hn : n ≤ 1000) (hk : n < k) : ∀ (f a : Nat) (l : List Nat), a ≤ n → n - a < f → l.length = n → (∀ x ∈ l, x < n) →
  ∃ (a' b' : Nat) (l' : List Nat), dK (aK.l2 G (k + 2) H.length self) f [dS p n, Nn n, cS q, .int .i64 20, Nn a, Nn (a + 20 : Nat)] (SO H p l) = some (.exit 0, [dS p n, Nn n, cS q, .int .i64 20, Nn a', Nn b'], SO H p l') ∧ l'.Perm l ∧ a' ≤ n
 | 0, a, l, _, h, _, _ => by omega
 | f + 1, a, l, ha, hf, hl, hx => by
  have hc : fN H.length [dS p n, Nn n, cS q, .int .i64 20, Nn a, Nn (a + 20 : Nat)] (SO H p l) = some (SO H p l) := gL hS.hb l _ (aAc hS n 20 a (a + 20))
  by_cases h : a + 20 ≤ n
  ·have g1 : aX Tryd.prog .leq 3 false (Nn (a + 20 : Nat)) (Nn n) = some (.bool true) := aBb h
   have e1 : aX Tryd.prog .add 3 false (Nn (a + 20 : Nat)) (.int .i64 20) = some (Nn (a + 20 + 20 : Nat)) := nM (b := 20) (by omega)
   obtain ⟨l1, w1, p1⟩ := aCw G k hS hn hk a (a + 20) (by omega) h l hl hx
   obtain ⟨a', b', l', w2, p2, p3⟩ := aHF hn hk f (a + 20) l1 h (by omega) (by rw [p1.length_eq]; exact hl) (kI p1 hx)
   refine ⟨a', b', l', ?_, p2.trans p1, p3⟩
   rw [bB, aK.l2]
   refine fV ?_
   refine eC hc ?_
   have fx := aMv g1 <| aMv e1 <| w1
   refine gT ?_
   exact w2
  ·have g1 : aX Tryd.prog .leq 3 false (Nn (a + 20 : Nat)) (Nn n) = some (.bool false) := aBa (by omega)
   refine ⟨a, a + 20, l, ?_, List.Perm.refl _, ha⟩
   rw [bB, aK.l2]
   refine fV ?_
   refine eC hc ?_
   have fx := g1
   refine gT ?_
   refine gA ?_; rfl
include hS in
theorem aHG (hn : n ≤ 1000) (hk : 2 * n < k) (bs : Nat) (h1 : 1 ≤ bs) (h2 : bs ≤ 2000) : ∀ (f a : Nat) (l : List Nat), a ≤ n → n - a < f → l.length = n → (∀ x ∈ l, x < n) →
  ∃ (a' b' : Nat) (l' : List Nat), dK (aK.l9 G (k + 3) H.length self) f [dS p n, Nn n, cS q, Nn bs, Nn a, Nn (a + 2 * bs : Nat)] (SO H p l) = some (.exit 4, [dS p n, Nn n, cS q, Nn bs, Nn a', Nn b'], SO H p l') ∧ l'.Perm l ∧ a' ≤ n
 | 0, a, l, _, h, _, _ => by omega
 | f + 1, a, l, ha, hf, hl, hx => by
  have hc : fN H.length [dS p n, Nn n, cS q, Nn bs, Nn a, Nn (a + 2 * bs : Nat)] (SO H p l) = some (SO H p l) := gL hS.hb l _ (aAc hS n bs a (a + 2 * bs))
  by_cases h : a + 2 * bs ≤ n
  ·have g1 : aX Tryd.prog .leq 3 false (Nn (a + 2 * bs : Nat)) (Nn n) = some (.bool true) := aBb h
   have e0 : aX Tryd.prog .add 3 false (Nn a) (Nn bs) = some (Nn (a + bs : Nat)) := nM (by omega)
   have e1 : aX Tryd.prog .mul 3 true (.int .i64 2) (Nn bs) = some (Nn (2 * bs : Nat)) := aJk (by omega)
   have e2 : aX Tryd.prog .add 3 false (Nn (a + 2 * bs : Nat)) (Nn (2 * bs : Nat)) = some (Nn (a + 2 * bs + 2 * bs : Nat)) := nM (by omega)
   obtain ⟨l1, w1, p1⟩ := sR G hS hn (2 * bs) k a (a + bs) (a + 2 * bs) l (by omega) (by omega) (by omega) (by omega) h hl hx
   obtain ⟨a', b', l', w2, p2, p3⟩ := aHG hn hk bs h1 h2 f (a + 2 * bs) l1 h (by omega) (by rw [p1.length_eq]; exact hl) (kI p1 hx)
   refine ⟨a', b', l', ?_, p2.trans p1, p3⟩
   rw [bB, aK.l9]
   refine fV ?_
   refine eC hc ?_
   have fx := aMv g1 <| aMv e0 <| aMv e1 <| aMv e2 <| w1
   refine gT ?_
   exact w2
  ·have g1 : aX Tryd.prog .leq 3 false (Nn (a + 2 * bs : Nat)) (Nn n) = some (.bool false) := aBa (by omega)
   refine ⟨a, a + 2 * bs, l, ?_, List.Perm.refl _, ha⟩
   rw [bB, aK.l9]
   refine fV ?_
   refine eC hc ?_
   have fx := g1
   refine gT ?_
   refine gA ?_; rfl
include hS in
theorem aEa (hn : n ≤ 1000) (hk : 2 * n < k) : ∀ (f bs : Nat) (l : List Nat), 1 ≤ bs → bs ≤ 2000 → n - bs < f → l.length = n → (∀ x ∈ l, x < n) →
  ∃ (b' : Nat) (l' : List Nat), dK (aK.l7 G (k + 3) H.length self) f [dS p n, Nn n, cS q, Nn bs] (SO H p l) = some (.exit 2, [dS p n, Nn n, cS q, Nn b'], SO H p l') ∧ l'.Perm l
 | 0, bs, l, _, _, h, _, _ => by omega
 | f + 1, bs, l, h1, h2, hf, hl, hx => by
  have hlen := iH H p l
  have hc : fN H.length [dS p n, Nn n, cS q, Nn bs] (SO H p l) = some (SO H p l) := gL hS.hb l _ (aFU hS n bs)
  by_cases h : bs < n
  ·have g1 : aX Tryd.prog .lss 3 false (Nn bs) (Nn n) = some (.bool true) := gN (by omega)
   have e1 : aX Tryd.prog .mul 3 true (.int .i64 2) (Nn bs) = some (Nn (2 * bs : Nat)) := aJk (by omega)
   have e3 : aX Tryd.prog .mul 3 true (Nn bs) (.int .i64 2) = some (Nn (2 * bs : Nat)) := aKd (by omega)
   obtain ⟨a', b', l1, w1, p1, p3⟩ := aHG G k self hS hn hk bs h1 h2 (k + 3) 0 l (by omega) (by omega) hl hx
   have w1' : dK (aK.l9 G (k + 3) H.length self) (k + 3) [dS p n, Nn n, cS q, Nn bs, .int .i64 0, Nn (2 * bs : Nat)] (SO H p l) = some (.exit 4, [dS p n, Nn n, cS q, Nn bs, Nn a', Nn b'], SO H p l1) := by
    rw [Nat.zero_add] at w1; exact w1
   have e2 : aX Tryd.prog .add 3 false (Nn a') (Nn bs) = some (Nn (a' + bs : Nat)) := nM (by omega)
   rw [← hlen] at w1'
   have hl1 : l1.length = n := by rw [p1.length_eq]; exact hl
   have hx1 := kI p1 hx
   by_cases h4 : a' + bs < n
   ·have g2 : aX Tryd.prog .lss 3 false (Nn (a' + bs : Nat)) (Nn n) = some (.bool true) := gN (by omega)
    obtain ⟨l2, w2, p2⟩ := sR G hS hn n k a' (a' + bs) n l1 (by omega) (by omega) (by omega) h4 (Nat.le_refl _) hl1 hx1
    obtain ⟨b2, l', w3, p4⟩ := aEa hn hk f (2 * bs) l2 (by omega) (by omega) (by omega) (by rw [p2.length_eq]; exact hl1) (kI p2 hx1)
    refine ⟨b2, l', ?_, (p4.trans p2).trans p1⟩
    rw [bB, aK.l7]
    refine fV ?_
    refine eC hc ?_
    have fx := aMv g1 <| aMv e1 <| aMv e2 <| aMv e3 <| aMv g2 <| w2
    have lx1 := w1'
    refine gT ?_
    exact w3
   ·have g2 : aX Tryd.prog .lss 3 false (Nn (a' + bs : Nat)) (Nn n) = some (.bool false) := gI (by omega)
    obtain ⟨b2, l', w3, p4⟩ := aEa hn hk f (2 * bs) l1 (by omega) (by omega) (by omega) hl1 hx1
    refine ⟨b2, l', ?_, p4.trans p1⟩
    rw [bB, aK.l7]
    refine fV ?_
    refine eC hc ?_
    have fx := aMv g1 <| aMv e1 <| aMv e2 <| aMv e3 <| g2
    have lx1 := w1'
    refine gT ?_
    exact w3
  ·have g1 : aX Tryd.prog .lss 3 false (Nn bs) (Nn n) = some (.bool false) := gI (by omega)
   refine ⟨bs, l, ?_, List.Perm.refl _⟩
   rw [bB, aK.l7]
   refine fV ?_
   refine eC hc ?_
   have fx := g1
   refine gT ?_
   refine gA ?_; rfl
include hS in
theorem aHH (hn : n ≤ 1000) (hk : 2 * n < k) (l : List Nat) (hl : l.length = n) (hx : ∀ x ∈ l, x < n) :
  ∃ l' : List Nat, bD (aK.f G (k + 4)) [dS p n, Nn n, cS q] (SO H p l) = some (.tup [], SO H p l') ∧ l'.Perm l := by
 have hlen := iH H p l
 obtain ⟨a', b', l1, w1, p1, ha⟩ := aHF G (k + 1) (aK.f G (k + 3)) hS hn (by omega) (k + 3) 0 l (by omega) (by omega) hl hx
 have hl1 : l1.length = n := by rw [p1.length_eq]; exact hl
 obtain ⟨l2, w2, p2⟩ := aCw G (k + 1) hS hn (by omega) a' n ha (Nat.le_refl _) l1 hl1 (kI p1 hx)
 have hl2 : l2.length = n := by rw [p2.length_eq]; exact hl1
 obtain ⟨b2, l', w3, p3⟩ := aEa G k (aK.f G (k + 3)) hS hn hk (k + 3) 20 l2 (by omega) (by omega) (by omega) hl2 (kI p2 (kI p1 hx))
 refine ⟨l', mE ?_, (p3.trans p2).trans p1⟩
 rw [aK.step]
 unfold aK.c
 have fin := aCl hS l'
 have w1' : dK (aK.l2 G (k + 3) H.length (aK.f G (k + 3))) (k + 3) [dS p n, Nn n, cS q, .int .i64 20, .int .i64 0, .int .i64 20] (SO H p l) = some (.exit 0, [dS p n, Nn n, cS q, .int .i64 20, Nn a', Nn b'], SO H p l1) := w1
 have w3' : dK (aK.l7 G (k + 3) (SO H p l2).length (aK.f G (k + 3))) (k + 3) [dS p n, Nn n, cS q, .int .i64 20] (SO H p l2) = some (.exit 2, [dS p n, Nn n, cS q, Nn b2], SO H p l') := by
  rw [iH]; exact w3
 rw [← hlen] at w1' fin
 refine gQ ?_
 have fx := w2
 have lx1 := w1'
 have lx2 := w3'
 refine gT ?_
 exact oF fin
include hS in
theorem aFN (hn : n ≤ 1000) (hk : 2 * n < k) (l : List Nat) (hl : l.length = n) (hx : ∀ x ∈ l, x < n) :
  ∃ l' : List Nat, bD (aQ.f G (k + 5)) [dS p n, cS q] (SO H p l) = some (.tup [], SO H p l') ∧ l'.Perm l := by
 have hlen := iH H p l
 obtain ⟨l', w, pm⟩ := aHH G k hS hn hk l hl hx
 refine ⟨l', mE ?_, pm⟩
 rw [aQ.step]
 unfold aQ.c
 have ln : dD (dS p n) = some (Nn n) := rfl
 have fin := aCl hS l'
 rw [← hlen] at fin
 refine gQ ?_
 have fx := aMv ln <| w
 refine gT ?_
 exact oF fin
end
structure SB (H : aB) (p : Nat) : Prop where
 hp : p < H.length
 hb : dI H.length H = true
section
variable (G : aF) (k : Nat) (self : cE) {H : aB} {p n : Nat} (hS : SB H p)
include hS in
theorem sW {l : List Nat} (hl : l.length = n) {i : Nat} (h : i < n) : aE G false 1 (.ptr p n i 0) (SO H p l) = some (Nn (l.getD i 0)) := by
 unfold aE
 simp only [aGc hS.hp l, gF, hl, if_true, jF l i (by omega)]
 rfl
include hS in
theorem vB {l : List Nat} (hl : l.length = n) {i : Nat} (h : i < n) (x : Nat) : fM (aV 1 (.ptr p n i 0) (Nn x) (SO H p l)) = some (.tup [], SO H p (l.set i x)) := by
 have e : aV 1 (.ptr p n i 0) (Nn x) (SO H p l) = some (SO H p (l.set i x)) := by
  unfold aV
  simp only [aGc hS.hp l, gF, hl]
  rw [if_pos ⟨trivial, rfl, rfl⟩]
  simp only [jF l i (by omega)]
  rw [if_pos (by show 0 + 1 ≤ 1; omega)]
  have : lL (Nn (l.getD i 0)) (kA (Nn (l.getD i 0)).cells 0 (Nn x).cells) = Nn x := rfl
  rw [this, tL, aAi]
 rw [e]; rfl
theorem aDF (x : Nat) : cT.f G (k + 1) [Nn x] [] = some (.bool false, []) := by
 have g : aX Tryd.prog .neq 3 false (Nn x) (Nn x) = some (.bool false) := oH rfl
 rw [cT.step]
 unfold cT.c
 refine gQ ?_
 have fx := g
 refine gT ?_
 exact yJ rfl
theorem aFB (x y : Nat) : dA.f G (k + 2) [Nn x, Nn y] [] = some (.bool (decide (x < y)), []) := by
 have r1 : ∀ H, aW (cT.f G (k + 1)) [Nn x] H = _ := fun H => cG (H := H) (aDF G k x) rfl rfl
 have g : aX Tryd.prog .lss 3 false (Nn x) (Nn y) = some (.bool (decide (x < y))) := by
  rw [hJ]
  congr 2
  exact decide_eq_decide.2 (by omega)
 rw [dA.step]
 unfold dA.c
 refine gQ ?_
 generalize decide (x < y) = b at *
 have fx := aMv r1 <| g
 refine gT ?_
 exact yJ rfl
def ys4 (p n a b i j : Nat) : List AV := [dS p n, Nn a, Nn b, Nn i, Nn j]
def ys1 (p n a b i : Nat) : List AV := [dS p n, Nn a, Nn b, Nn i]
include hS in
theorem aFW (n a b i j : Nat) : cI H.length (ys4 p n a b i j) = true := by
 have h1 : decide (p < H.length) = true := decide_eq_true hS.hp
 simp only [ys4, dS, cI, cB, h1, Bool.and_self]
include hS in
theorem aAf (n a b i : Nat) : cI H.length (ys1 p n a b i) = true := by
 have h1 : decide (p < H.length) = true := decide_eq_true hS.hp
 simp only [ys1, dS, cI, cB, h1, Bool.and_self]
include hS in
theorem aGC (hn : n ≤ 1000) (a b i : Nat) : ∀ (j f : Nat) (l : List Nat), l.length = n → j < n → j < f →
  ∃ (j' : Nat) (l' : List Nat), dK (aJ.l4 G (k + 2) H.length self) f (ys4 p n a b i j) (SO H p l) = some (.exit 2, ys4 p n a b i j', SO H p l') ∧ l'.Perm l
 | j, 0, l, _, _, h => by omega
 | j, f + 1, l, hl, hj, hf => by
  have hc : fN H.length (ys4 p n a b i j) (SO H p l) = some (SO H p l) := gL hS.hb l _ (aFW hS n a b i j)
  by_cases ha : a < j
  ·have g1 : aX Tryd.prog .gtr 3 false (Nn j) (Nn a) = some (.bool true) := oG (by omega)
   have d1 : aM 1 (.sl p n 0 n 1) (Nn j) = some (.ptr p n j 0) := jI hj
   have d2 : aM 1 (.sl p n 0 n 1) (Nn (j - 1 : Nat)) = some (.ptr p n (j - 1) 0) := jI (by omega)
   have l1 := sW G hS hl hj
   have l2 := sW G hS hl (i := j - 1) (by omega)
   have m1 : aX Tryd.prog .sub 3 true (Nn j) (.int .i64 1) = some (Nn (j - 1 : Nat)) := by
    rw [nW, eD (by omega) (by omega)]; congr 2; omega
   have r1 : ∀ H, aW (dA.f G (k + 2)) [Nn (l.getD j 0), Nn (l.getD (j - 1) 0)] H = _ := fun H => cG (H := H) (aFB G k (l.getD j 0) (l.getD (j - 1) 0)) rfl rfl
   by_cases hcn : l.getD j 0 < l.getD (j - 1) 0
   ·rw [decide_eq_true hcn] at r1
    have s1 := vB hS hl hj (l.getD (j - 1) 0)
    have hl2 : (l.set j (l.getD (j - 1) 0)).length = n := by simp [hl]
    have s2 := vB hS hl2 (i := j - 1) (by omega) (l.getD j 0)
    have hsw : (l.set j (l.getD (j - 1) 0)).set (j - 1) (l.getD j 0) = kM l j (j - 1) := rfl
    rw [hsw] at s2
    have hp := mL l j (j - 1) (by omega) (by omega)
    obtain ⟨j', l', h1, h2⟩ := aGC hn a b i (j - 1) f (kM l j (j - 1)) (by rw [nS]; exact hl) (by omega) (by omega)
    refine ⟨j', l', ?_, h2.trans hp⟩
    rw [bB, aJ.l4]
    refine fV ?_
    refine eC hc ?_
    unfold ys4 at h1 ⊢
    generalize kM l j (j - 1) = ls at *
    generalize l.getD j 0 = y1 at *
    generalize l.getD (j - 1) 0 = y2 at *
    have fx := aMv g1 <| aMv d1 <| aMv d2 <| aMv l1 <| aMv l2 <| aMv m1 <| aMv r1 <| aMv s1 <| s2
    refine gT ?_
    exact h1
   ·rw [decide_eq_false hcn] at r1
    refine ⟨j, l, ?_, List.Perm.refl _⟩
    rw [bB, aJ.l4]
    refine fV ?_
    refine eC hc ?_
    unfold ys4
    clear hcn
    generalize l.getD j 0 = y1 at *
    generalize l.getD (j - 1) 0 = y2 at *
    have fx := aMv g1 <| aMv d1 <| aMv d2 <| aMv l1 <| aMv l2 <| aMv m1 <| r1
    refine gT ?_
    refine gA ?_; rfl
  ·have g1 : aX Tryd.prog .gtr 3 false (Nn j) (Nn a) = some (.bool false) := kJ (by omega)
   refine ⟨j, l, ?_, List.Perm.refl _⟩
   rw [bB, aJ.l4]
   refine fV ?_
   refine eC hc ?_
   unfold ys4
   have fx := g1
   refine gT ?_
   refine gA ?_; rfl
include hS in
theorem aJQ (l : List Nat) : cH [] H.length (SO H p l) = some (.ret, [.tup []], SO H p l) := by
 unfold cH
 rw [gL hS.hb l _ rfl]; rfl
include hS in
theorem aGB (hn : n ≤ 1000) (hk : n < k) (a b : Nat) (hb : b ≤ n) : ∀ (d i f : Nat) (l : List Nat), i + d = max i b → l.length = n → d < f →
  ∃ (i' : Nat) (l' : List Nat), dK (aJ.l1 G (k + 2) H.length self) f (ys1 p n a b i) (SO H p l) = some (.exit 0, ys1 p n a b i', SO H p l') ∧ l'.Perm l
 | d, i, 0, l, _, _, h => by omega
 | 0, i, f + 1, l, hd, hl, hf => by
  have hc : fN H.length (ys1 p n a b i) (SO H p l) = some (SO H p l) := gL hS.hb l _ (aAf hS n a b i)
  have g1 : aX Tryd.prog .lss 3 false (Nn i) (Nn b) = some (.bool false) := gI (by omega)
  refine ⟨i, l, ?_, List.Perm.refl _⟩
  rw [bB, aJ.l1]
  refine fV ?_
  refine eC hc ?_
  unfold ys1
  have fx := g1
  refine gT ?_
  refine gA ?_; rfl
 | d + 1, i, f + 1, l, hd, hl, hf => by
  have hc : fN H.length (ys1 p n a b i) (SO H p l) = some (SO H p l) := gL hS.hb l _ (aAf hS n a b i)
  have hib : i < b := by omega
  have g1 : aX Tryd.prog .lss 3 false (Nn i) (Nn b) = some (.bool true) := gN (by omega)
  obtain ⟨j', l1, hl4, hp⟩ := aGC G k self hS hn a b i i (k + 2) l hl (by omega) (by omega)
  obtain ⟨i', l', h1, h2⟩ := aGB hn hk a b hb d (i + 1) f l1 (by omega) (by rw [hp.length_eq]; exact hl) (by omega)
  refine ⟨i', l', ?_, h2.trans hp⟩
  have q2 : aX Tryd.prog .add 3 true (Nn i) (.int .i64 1) = some (Nn (i + 1)) := by
   rw [gR, eD (by omega) (by omega)]; congr 2
  have hlen := iH H p l
  rw [bB, aJ.l1]
  refine fV ?_
  refine eC hc ?_
  rw [← hlen] at hl4
  unfold ys1 at h1 ⊢
  unfold ys4 at hl4
  have fx := aMv g1 <| q2
  have lx1 := hl4
  refine gT ?_
  exact h1
include hS in
theorem aGD (hn : n ≤ 1000) (hk : n < k) (a b : Nat) (ha : a ≤ b) (hb : b ≤ n) (l : List Nat) (hl : l.length = n) :
  ∃ l' : List Nat, bD (aJ.f G (k + 3)) [dS p n, Nn a, Nn b] (SO H p l) = some (.tup [], SO H p l') ∧ l'.Perm l := by
 obtain ⟨i', l', h1, h2⟩ := aGB G k (aJ.f G (k + 2)) hS hn hk a b hb (b - (a + 1)) (a + 1) (k + 2) l (by omega) hl (by omega)
 refine ⟨l', mE ?_, h2⟩
 rw [aJ.step]
 unfold aJ.c
 rw [iH]
 have q1 : aX Tryd.prog .add 3 true (Nn a) (.int .i64 1) = some (Nn (a + 1 : Nat)) := by
  rw [gR, eD (by omega) (by omega)]; congr 2
 have fin := aJQ hS l'
 unfold ys1 at h1
 have hlen := iH H p l
 refine gQ ?_
 rw [← hlen] at h1
 have fx := q1
 have lx1 := h1
 refine gT ?_
 exact oF fin
end
section
variable (G : aF) (k : Nat) (self : cE) {H : aB} {p n : Nat} (hS : SB H p)
theorem aLJ : dQ.f G (k + 3) [.int .u64 0] [] = some (.int .i64 0, []) := by kernel_rfl
theorem aLK : dQ.f G (k + 3) [.int .u64 1] [] = some (.int .i64 1, []) := by kernel_rfl
theorem aLL : dQ.f G (k + 3) [.int .u64 2] [] = some (.int .i64 2, []) := by kernel_rfl
theorem aLM : dQ.f G (k + 3) [.int .u64 3] [] = some (.int .i64 2, []) := by kernel_rfl
theorem aGa (n : Nat) (h : n ≤ 3) : ∃ z : Int, dQ.f G (k + 3) [.int .u64 (n : Int)] [] = some (.int .i64 z, []) := by
 have : n = 0 ∨ n = 1 ∨ n = 2 ∨ n = 3 := by omega
 rcases this with rfl | rfl | rfl | rfl
 ·exact ⟨0, aLJ G k⟩
 ·exact ⟨1, aLK G k⟩
 ·exact ⟨2, aLL G k⟩
 ·exact ⟨2, aLM G k⟩
include hS in
theorem aFV (a b : Nat) (z : Int) : cI H.length [dS p n, Nn a, Nn b, I6 z, .bool true, .bool true] = true := by
 have h1 : decide (p < H.length) = true := decide_eq_true hS.hp
 simp only [dS, cI, cB, h1, Bool.and_self]
include hS in
theorem aGQ (hn : n ≤ 12) (hk : n < k) (z : Int) (l : List Nat) (hl : l.length = n) :
  ∃ l' : List Nat, bD (aU.f G (k + 4)) [dS p n, .int .i64 0, Nn n, I6 z] (SO H p l) = some (.tup [], SO H p l') ∧ l'.Perm l := by
 have hlen := iH H p l
 obtain ⟨l', w, pm⟩ := aGD G k hS (by omega) hk 0 n (by omega) (Nat.le_refl _) l hl
 refine ⟨l', mE ?_, pm⟩
 have w' : bD (aJ.f G (k + 3)) [dS p n, .int .i64 0, Nn n] (SO H p l) = some (.tup [], SO H p l') := w
 have hc : fN H.length [dS p n, Nn 0, Nn n, I6 z, .bool true, .bool true] (SO H p l) = some (SO H p l) := gL hS.hb l _ (aFV hS 0 n z)
 have hc' : fN H.length [dS p n, .int .i64 0, Nn n, I6 z, .bool true, .bool true] (SO H p l) = some (SO H p l) := hc
 have e1 : aX Tryd.prog .sub 3 false (Nn n) (.int .i64 0) = some (Nn n) := by
  rw [nW, eD (by omega) (by omega), Int.sub_zero]
 have g1 : aX Tryd.prog .leq 3 true (Nn n) (.int .i64 12) = some (.bool true) := vM (by omega)
 have lw : dK (aU.l2 G (k + 3) H.length (aU.f G (k + 3))) (k + 3) [dS p n, .int .i64 0, Nn n, I6 z, .bool true, .bool true] (SO H p l) = some (.ret, [dS p n, .int .i64 0, Nn n, I6 z, .bool true, .bool true], SO H p l') := by
  rw [bB, aU.l2]
  refine fV ?_
  refine eC hc' ?_
  have fx := aMv e1 <| aMv g1 <| w'
  refine gT ?_
  refine gA ?_; rfl
 rw [aU.step]
 unfold aU.c
 have fin := aJQ hS l'
 rw [← hlen] at lw fin
 refine gQ ?_
 have fx := True.intro
 have lx1 := lw
 refine gT ?_
 exact oF fin
include hS in
theorem aGq (hn : n ≤ 3) (hk : n < k) (l : List Nat) (hl : l.length = n) :
  ∃ l' : List Nat, bD (bK.f G (k + 5)) [dS p n] (SO H p l) = some (.tup [], SO H p l') ∧ l'.Perm l := by
 have hlen := iH H p l
 obtain ⟨z, hz⟩ := aGa G (k + 1) n hn
 obtain ⟨l', w, pm⟩ := aGQ G k hS (by omega) hk z l hl
 refine ⟨l', mE ?_, pm⟩
 have ln : dD (dS p n) = some (Nn n) := rfl
 have c1 : dJ .u64 (Nn n) = some (.int .u64 (n : Int)) := by
  have : IntKind.u64.wrap (n : Int) = (n : Int) := iT (by omega) (by omega)
  simp only [dJ, this]
 have r1 : ∀ H, aW (dQ.f G (k + 4)) [.int .u64 (n : Int)] H = _ := fun H => cG (H := H) hz rfl rfl
 rw [bK.step]
 unfold bK.c
 have fin := aJQ hS l'
 rw [← hlen] at fin
 refine gQ ?_
 have fx := aMv ln <| aMv c1 <| aMv r1 <| w
 refine gT ?_
 exact oF fin
end
section
variable (G : aF) (k : Nat) (self : cE) {H : aB} {p n : Nat} (hS : SB H p) {P : Nat → Prop}
theorem aIW {o m i : Nat} (h : i < m) : aM 1 (.sl p n o m 1) (Nn i) = some (.ptr p n (o + i) 0) := by
 unfold aM
 simp only [Int.toNat_natCast]
 rw [if_pos (by omega), if_pos trivial]
theorem aAQ {l : List Nat} (hl : ∀ x ∈ l, P x) {i : Nat} (h : i < l.length) : P (l.getD i 0) := by
 rw [List.getD_eq_getElem?_getD, List.getElem?_eq_getElem h]
 exact hl _ (List.getElem_mem h)
theorem aLn {l : List Nat} (hl : ∀ x ∈ l, P x) (i : Nat) {y : Nat} (hy : P y) : ∀ x ∈ l.set i y, P x := fun x hx => by
 rcases List.mem_or_eq_of_mem_set hx with h | h
 ·exact hl x h
 ·subst h; exact hy
include hS in
theorem xR (kk kb m i : Nat) : cI H.length [dS p n, Nn kk, .sl p n kb m 1, Nn i] = true := by
 have h1 : decide (p < H.length) = true := decide_eq_true hS.hp
 simp only [dS, cI, cB, h1, Bool.and_self]
include hS in
theorem aDz (hn : n ≤ 1000) (kb : Nat) (h0 : 1 ≤ kb) (hb : kb < n) : ∀ (d i kk f : Nat) (l : List Nat), i + d = n - kb → 1 ≤ i → kb ≤ kk → kk < kb + i → l.length = n → (∀ x ∈ l, P x) → d < f →
  ∃ (i' kk' : Nat) (l' : List Nat), dK (aI.l9 G k H.length self) f [dS p n, Nn kk, .sl p n kb (n - kb) 1, Nn i] (SO H p l) = some (.exit 2, [dS p n, Nn kk', .sl p n kb (n - kb) 1, Nn i'], SO H p l') ∧ l'.length = n ∧ (∀ x ∈ l', P x) ∧ kb ≤ kk' ∧ kk' ≤ n
 | d, i, kk, 0, l, _, _, _, _, _, _, h => by omega
 | 0, i, kk, f + 1, l, hd, h1, h2, h3, hl, hP, hf => by
  have hc : fN H.length [dS p n, Nn kk, .sl p n kb (n - kb) 1, Nn i] (SO H p l) = some (SO H p l) := gL hS.hb l _ (xR hS kk kb (n - kb) i)
  have ln : dD (.sl p n kb (n - kb) 1) = some (Nn (n - kb : Nat)) := rfl
  have g1 : aX Tryd.prog .lss 3 false (Nn i) (Nn (n - kb : Nat)) = some (.bool false) := gI (by omega)
  refine ⟨i, kk, l, ?_, hl, hP, h2, by omega⟩
  rw [bB, aI.l9]
  refine fV ?_
  refine eC hc ?_
  have fx := aMv ln <| g1
  refine gT ?_
  refine gA ?_; rfl
 | d + 1, i, kk, f + 1, l, hd, h1, h2, h3, hl, hP, hf => by
  have hc : fN H.length [dS p n, Nn kk, .sl p n kb (n - kb) 1, Nn i] (SO H p l) = some (SO H p l) := gL hS.hb l _ (xR hS kk kb (n - kb) i)
  have ln : dD (.sl p n kb (n - kb) 1) = some (Nn (n - kb : Nat)) := rfl
  have g1 : aX Tryd.prog .lss 3 false (Nn i) (Nn (n - kb : Nat)) = some (.bool true) := gN (by omega)
  have d1 : aM 1 (.sl p n kb (n - kb) 1) (Nn i) = some (.ptr p n (kb + i) 0) := aIW (by omega)
  have e1 : aX Tryd.prog .sub 3 true (Nn i) (.int .i64 1) = some (Nn (i - 1 : Nat)) := kG (b := 1) (by omega) (by omega)
  have e2 : aX Tryd.prog .add 3 true (Nn i) (.int .i64 1) = some (Nn (i + 1 : Nat)) := mG (by omega)
  have e3 : aX Tryd.prog .add 3 true (Nn kk) (.int .i64 1) = some (Nn (kk + 1 : Nat)) := mG (by omega)
  have d2 : aM 1 (.sl p n kb (n - kb) 1) (Nn (i - 1 : Nat)) = some (.ptr p n (kb + (i - 1)) 0) := aIW (by omega)
  have d3 : aM 1 (dS p n) (Nn kk) = some (.ptr p n kk 0) := jI (by omega)
  have l1 := sW G hS hl (i := kb + i) (by omega)
  have l2 := sW G hS hl (i := kb + (i - 1)) (by omega)
  have s1 := vB hS hl (i := kk) (by omega) (l.getD (kb + i) 0)
  by_cases hne : l.getD (kb + i) 0 = l.getD (kb + (i - 1)) 0
  ·have g2 : aX Tryd.prog .neq 3 false (Nn (l.getD (kb + i) 0)) (Nn (l.getD (kb + (i - 1)) 0)) = some (.bool false) := vH hne
   obtain ⟨i', kk', l', w, r1, r2, r3, r4⟩ := aDz hn kb h0 hb d (i + 1) kk f l (by omega) (by omega) h2 (by omega) hl hP (by omega)
   refine ⟨i', kk', l', ?_, r1, r2, r3, r4⟩
   rw [bB, aI.l9]
   refine fV ?_
   refine eC hc ?_
   clear hne
   generalize l.getD (kb + i) 0 = y1 at *
   generalize l.getD (kb + (i - 1)) 0 = y2 at *
   have fx := aMv ln <| aMv g1 <| aMv d1 <| aMv e1 <| aMv e2 <| aMv d2 <| aMv l1 <| aMv l2 <| g2
   refine gT ?_
   exact w
  ·have g2 : aX Tryd.prog .neq 3 false (Nn (l.getD (kb + i) 0)) (Nn (l.getD (kb + (i - 1)) 0)) = some (.bool true) := vI hne
   obtain ⟨i', kk', l', w, r1, r2, r3, r4⟩ := aDz hn kb h0 hb d (i + 1) (kk + 1) f (l.set kk (l.getD (kb + i) 0)) (by omega) (by omega) (by omega) (by omega) (by simp [hl]) (aLn hP kk (aAQ hP (by omega))) (by omega)
   refine ⟨i', kk', l', ?_, r1, r2, r3, r4⟩
   rw [bB, aI.l9]
   refine fV ?_
   refine eC hc ?_
   clear hne
   generalize l.set kk (l.getD (kb + i) 0) = ls at *
   generalize l.getD (kb + i) 0 = y1 at *
   generalize l.getD (kb + (i - 1)) 0 = y2 at *
   have fx := aMv ln <| aMv g1 <| aMv d1 <| aMv e1 <| aMv e2 <| aMv e3 <| aMv d2 <| aMv d3 <| aMv l1 <| aMv l2 <| aMv g2 <| s1
   refine gT ?_
   exact w
include hS in
theorem xP (i : Nat) : cI H.length [dS p n, .nils, Nn i] = true := by
 have h1 : decide (p < H.length) = true := decide_eq_true hS.hp
 simp only [dS, cI, cB, h1, Bool.and_self]
theorem aAB (d i : Nat) : jQ d (some (Nn i)) = some i := by simp [jQ]
theorem aAA (d : Nat) : jQ d none = some d := rfl
include hS in
theorem aDx {l : List Nat} (hl : l.length = n) {kk : Nat} (h : kk ≤ n) : tA (.int .i64 0) (.sl p n kk (n - kk) 1) (SO H p l) = some (.tup [], SO H p (l.take kk ++ List.replicate (n - kk) 0)) := by
 unfold tA
 simp only [aGc hS.hp l, gF, hl]
 rw [if_pos ⟨trivial, trivial, by omega⟩]
 have e1 : (eG l).take kk ++ (List.replicate (n - kk) (AV.int .i64 0) ++ (eG l).drop (kk + (List.replicate (n - kk) (AV.int .i64 0)).length)) = eG (l.take kk ++ List.replicate (n - kk) 0) := by
  rw [List.length_replicate, List.drop_of_length_le (by rw [gF]; omega), List.append_nil]
  unfold eG
  rw [List.map_append, List.map_take, List.map_replicate]; rfl
 rw [e1, aAi]
include hS in
theorem aGl (hn : n ≤ 1000) (hk : n < k) : ∀ (d i f : Nat) (l : List Nat), i + d = n → 1 ≤ i → l.length = n → (∀ x ∈ l, P x) → d < f →
  (dK (aI.l4 G k H.length self) f [dS p n, .nils, Nn i] (SO H p l) = some (.exit 0, [dS p n, .nils, Nn n], SO H p l))
  ∨ ∃ (z : AV) (m : Nat) (l' : List Nat), dK (aI.l4 G k H.length self) f [dS p n, .nils, Nn i] (SO H p l) = some (.ret, [dS p n, .sl p n 0 m 1, z], SO H p l') ∧ m ≤ n ∧ l'.length = n ∧ ∀ j, j < m → P (l'.getD j 0)
 | d, i, 0, l, _, _, _, _, h => by omega
 | 0, i, f + 1, l, hd, h1, hl, hP, hf => by
  have hi : i = n := by omega
  subst hi
  have hc : fN H.length [dS p i, .nils, Nn i] (SO H p l) = some (SO H p l) := gL hS.hb l _ (xP hS i)
  have ln : dD (dS p i) = some (Nn i) := rfl
  have g1 : aX Tryd.prog .lss 3 false (Nn i) (Nn i) = some (.bool false) := gI (by omega)
  refine .inl ?_
  rw [bB, aI.l4]
  refine fV ?_
  refine eC hc ?_
  have fx := aMv ln <| g1
  refine gT ?_
  refine gA ?_; rfl
 | d + 1, i, f + 1, l, hd, h1, hl, hP, hf => by
  have hlen := iH H p l
  have hc : fN H.length [dS p n, .nils, Nn i] (SO H p l) = some (SO H p l) := gL hS.hb l _ (xP hS i)
  have ln : dD (dS p n) = some (Nn n) := rfl
  have g1 : aX Tryd.prog .lss 3 false (Nn i) (Nn n) = some (.bool true) := gN (by omega)
  have d1 : aM 1 (dS p n) (Nn i) = some (.ptr p n i 0) := jI (by omega)
  have e1 : aX Tryd.prog .sub 3 true (Nn i) (.int .i64 1) = some (Nn (i - 1 : Nat)) := kG (b := 1) (by omega) (by omega)
  have e2 : aX Tryd.prog .add 3 true (Nn i) (.int .i64 1) = some (Nn (i + 1 : Nat)) := mG (by omega)
  have d2 : aM 1 (dS p n) (Nn (i - 1 : Nat)) = some (.ptr p n (i - 1) 0) := jI (by omega)
  have l1 := sW G hS hl (i := i) (by omega)
  have l2 := sW G hS hl (i := i - 1) (by omega)
  by_cases hne : l.getD i 0 = l.getD (i - 1) 0
  ·have g2 : aX Tryd.prog .eql 3 false (Nn (l.getD i 0)) (Nn (l.getD (i - 1) 0)) = some (.bool true) := aAZ hne
   obtain ⟨i', kk', l', w, r1, r2, r3, r4⟩ := aDz G k self hS hn i h1 (by omega) (n - i - 1) 1 i k l (by omega) (by omega) (by omega) (by omega) hl hP (by omega)
   have w' : dK (aI.l9 G k (SO H p l).length self) k [dS p n, Nn i, .sl p n i (n - i) 1, .int .i64 1] (SO H p l) = some (.exit 2, [dS p n, Nn kk', .sl p n i (n - i) 1, Nn i'], SO H p l') := by
    rw [hlen]; exact w
   have s1 : kK 1 (dS p n) (some (Nn i)) none = some (.sl p n i (n - i) 1) := by
    simp only [kK, aAB, aAA, dS, Nat.zero_add]
    rw [if_pos (by refine ⟨?_, ?_, trivial⟩ <;> omega)]
   have s2 : kK 1 (dS p n) (some (Nn kk')) none = some (.sl p n kk' (n - kk') 1) := by
    simp only [kK, aAB, aAA, dS, Nat.zero_add]
    rw [if_pos (by refine ⟨?_, ?_, trivial⟩ <;> omega)]
   have s3 : kK 1 (dS p n) none (some (Nn kk')) = some (.sl p n 0 kk' 1) := by
    simp only [kK, aAB, aAA, dS, Nat.zero_add, Nat.sub_zero]
    rw [if_pos (by refine ⟨?_, ?_, trivial⟩ <;> omega)]
   have c1 := aDx hS r1 r4
   refine .inr ⟨Nn kk', kk', l'.take kk' ++ List.replicate (n - kk') 0, ?_, r4, by simp [r1]; omega, fun j hj => ?_⟩
   ·rw [bB, aI.l4]
    refine fV ?_
    refine eC hc ?_
    clear hne
    generalize l.getD i 0 = y1 at *
    generalize l.getD (i - 1) 0 = y2 at *
    generalize l'.take kk' ++ List.replicate (n - kk') 0 = lz at *
    have fx := aMv ln <| aMv g1 <| aMv d1 <| aMv d2 <| aMv e1 <| aMv e2 <| aMv l1 <| aMv l2 <| aMv g2 <| aMv s1 <| aMv s2 <| aMv s3 <| c1
    have lx1 := w'
    refine gT ?_
    refine gA ?_; rfl
   ·rw [List.getD_eq_getElem?_getD, List.getElem?_append_left (by simp [r1]; omega), List.getElem?_take_of_lt hj, ← List.getD_eq_getElem?_getD]
    exact aAQ r2 (by omega)
  ·have g2 : aX Tryd.prog .eql 3 false (Nn (l.getD i 0)) (Nn (l.getD (i - 1) 0)) = some (.bool false) := aAY hne
   have ih := aGl hn hk d (i + 1) f l (by omega) (by omega) hl hP (by omega)
   have st : dK (aI.l4 G k H.length self) (f + 1) [dS p n, .nils, Nn i] (SO H p l) = dK (aI.l4 G k H.length self) f [dS p n, .nils, Nn (i + 1 : Nat)] (SO H p l) := by
    generalize hgen : dK (aI.l4 G k H.length self) f [dS p n, .nils, Nn (i + 1 : Nat)] (SO H p l) = rr
    rw [bB, aI.l4]
    refine fV ?_
    refine eC hc ?_
    clear hne ih
    generalize l.getD i 0 = y1 at *
    generalize l.getD (i - 1) 0 = y2 at *
    have fx := aMv ln <| aMv g1 <| aMv d1 <| aMv d2 <| aMv e1 <| aMv e2 <| aMv l1 <| aMv l2 <| g2
    refine gT ?_
    exact hgen
   rw [st]; exact ih
include hS in
theorem aGm (hn : n ≤ 1000) (hk : n < k) (l : List Nat) (hl : l.length = n) (hP : ∀ x ∈ l, P x) :
  ∃ (m : Nat) (l' : List Nat), bD (aI.f G (k + 1)) [dS p n] (SO H p l) = some (.sl p n 0 m 1, SO H p l') ∧ m ≤ n ∧ l'.length = n ∧ ∀ j, j < m → P (l'.getD j 0) := by
 have hlen := iH H p l
 have ln : dD (dS p n) = some (Nn n) := rfl
 have hp : decide (p < H.length) = true := decide_eq_true hS.hp
 have fin : ∀ (m : Nat) (l' : List Nat), cH [.sl p n 0 m 1] H.length (SO H p l') = some (.ret, [.sl p n 0 m 1], SO H p l') := fun m l' => by
  unfold cH
  rw [gL hS.hb l' _ (by simp only [cI, cB, hp, Bool.and_self])]
  have e : rE (SO H p l') H.length 6 (oQ [.sl p n 0 m 1]) = some (.sl p n 0 m 1) := by
   simp only [oQ, rE, cB, hp]
  simp only [e]
 have hc : ∀ {r : AV} {l' : List Nat}, aI.f G (k + 1) [dS p n] (SO H p l) = some (r, SO H p l') → bD (aI.f G (k + 1)) [dS p n] (SO H p l) = some (r, SO H p l') := fun h => by
  unfold bD; rw [h]; simp only [iH, Nat.le_refl, if_true]
 by_cases h2 : n < 2
 ·have g1 : aX Tryd.prog .lss 3 true (Nn n) (.int .i64 2) = some (.bool true) := gN (by omega)
  refine ⟨n, l, hc ?_, Nat.le_refl _, hl, fun j hj => aAQ hP (by omega)⟩
  have fin' := fin n l
  rw [aI.step]
  unfold aI.c
  rw [← hlen] at fin'
  refine gQ ?_
  have fx := aMv ln <| g1
  refine gT ?_
  exact oF fin'
 ·have g1 : aX Tryd.prog .lss 3 true (Nn n) (.int .i64 2) = some (.bool false) := gI (by omega)
  rcases aGl G k (aI.f G k) hS (P := P) hn hk (n - 1) 1 k l (by omega) (by omega) hl hP (by omega) with w | ⟨z, m, l', w, r1, r2, r3⟩
  ·have w' : dK (aI.l4 G k (SO H p l).length (aI.f G k)) k [dS p n, .nils, .int .i64 1] (SO H p l) = some (.exit 0, [dS p n, .nils, Nn n], SO H p l) := by
    rw [hlen]; exact w
   refine ⟨n, l, hc ?_, Nat.le_refl _, hl, fun j hj => aAQ hP (by omega)⟩
   have fin' := fin n l
   rw [aI.step]
   unfold aI.c
   rw [← hlen] at fin'
   refine gQ ?_
   have fx := aMv ln <| g1
   have lx1 := w'
   refine gT ?_
   exact oF fin'
  ·have w' : dK (aI.l4 G k (SO H p l).length (aI.f G k)) k [dS p n, .nils, .int .i64 1] (SO H p l) = some (.ret, [dS p n, .sl p n 0 m 1, z], SO H p l') := by
    rw [hlen]; exact w
   refine ⟨m, l', hc ?_, r1, r2, r3⟩
   have fin' := fin m l'
   rw [aI.step]
   unfold aI.c
   rw [← hlen] at fin'
   refine gQ ?_
   have fx := aMv ln <| g1
   have lx1 := w'
   refine gT ?_
   exact oF fin'
end
def sY (w : WI) (f : Frm) : aB := [⟨100, 6, [fW (cK w.op) f]⟩, ⟨3, 1, []⟩]
theorem aIH (w : WI) (f : Frm) : SB (sY w f) 1 := ⟨by show 1 < 2; decide, by simp [sY, dI, cI, cB, fW]⟩
def flR (f : Frm) : AV := .ro false [.bool f.a, .bool f.b, .bool f.c]
def rD (w : WI) (f : Frm) (n j : Nat) : List AV := [.rp false w.v 0, .sl 1 n 0 n 1, flR f, .int .i64 3, Nn j]
def xT (w : WI) (j : Nat) : Int := if j = 0 then w.a else if j = 1 then w.b else w.c
def fgR (f : Frm) (j : Nat) : Bool := if j = 0 then f.a else if j = 1 then f.b else f.c
section
variable (G : aF) (k : Nat) (self : cE) (w : WI) (f : Frm)
theorem xS (n j : Nat) : cI 2 (rD w f n j) = true := by simp [rD, flR, cI, cB, WI.v]
theorem aKJ (l : List Nat) (x : Nat) (hl : l.length ≤ 100) : fU 3 1 (.sl 1 l.length 0 l.length 1) (.ro false [Nn x]) (SO (sY w f) 1 l) = some (.sl 1 (l ++ [x]).length 0 (l ++ [x]).length 1, SO (sY w f) 1 (l ++ [x])) := by
 have e : (SO (sY w f) 1 l)[1]? = some ⟨3, 1, eG l⟩ := rfl
 have e2 : iE (.ro false [Nn x]) (SO (sY w f) 1 l) = some [Nn x] := rfl
 unfold fU
 simp only [e, e2, gF]
 rw [if_pos (by refine ⟨?_, ?_, ?_, ?_, ?_⟩ <;> first | trivial | rfl | (show l.length + 1 ≤ _; omega))]
 have e2 : (eG l).take l.length = eG l := List.take_of_length_le (by rw [gF]; exact Nat.le_refl _)
 have e3 : (eG l).drop (l.length + [Nn x].length) = [] := List.drop_of_length_le (by rw [gF]; exact Nat.le_add_right _ _)
 have e4 : eG l ++ [Nn x] = eG (l ++ [x]) := by simp [eG]
 rw [e2, e3, List.append_nil, e4, gF, aAi]
 simp
theorem aAh (j : Nat) (hj : j < 3) (l : List Nat) (hl : l.length ≤ 100) (hv : fgR f j = true → 0 ≤ xT w j) (n : Nat) :
  dK (cW.l4 G k 2 self) (n + 1) (rD w f l.length j) (SO (sY w f) 1 l) = dK (cW.l4 G k 2 self) n (rD w f (if fgR f j = true then l ++ [(xT w j).toNat] else l).length (j + 1)) (SO (sY w f) 1 (if fgR f j = true then l ++ [(xT w j).toNat] else l)) := by
 have hc : fN 2 (rD w f l.length j) (SO (sY w f) 1 l) = some (SO (sY w f) 1 l) := gL (aIH w f).hb l _ (xS w f _ _)
 have g1 : aX Tryd.prog .lss 3 false (Nn j) (.int .i64 3) = some (.bool true) := gN (by omega)
 have q2 : aX Tryd.prog .add 3 true (Nn j) (.int .i64 1) = some (Nn (j + 1 : Nat)) := mG (by omega)
 have hb : ∃ b, fgR f j = b := ⟨_, rfl⟩
 obtain ⟨b, hb⟩ := hb
 have d1 : aM 1 (flR f) (Nn j) = some (.rp false (.bool b) 0) := by
  rw [← hb]
  have : j = 0 ∨ j = 1 ∨ j = 2 := by omega
  rcases this with rfl | rfl | rfl <;> rfl
 have l1 : ∀ H, aE G false 1 (.rp false (.bool b) 0) H = some (.bool b) := fun H => rfl
 have f2 := gi2 w
 have f3 := gi3 w
 have f4 := gi4 w
 have v2 := aJH G w
 have v3 := gl3 G w
 have v4 := aLr G w
 have br : ∀ H, fQ 1 3 (.int .i64 0) [(0, I6 w.a), (1, I6 w.b), (2, I6 w.c)] H = some (.ro false [I6 w.a, I6 w.b, I6 w.c], H) := fun H => rfl
 have d2 : aM 1 (.ro false [I6 w.a, I6 w.b, I6 w.c]) (Nn j) = some (.rp false (I6 (xT w j)) 0) := by
  have : j = 0 ∨ j = 1 ∨ j = 2 := by omega
  rcases this with rfl | rfl | rfl <;> rfl
 have l2 : ∀ H, aE G false 1 (.rp false (I6 (xT w j)) 0) H = some (I6 (xT w j)) := fun H => rfl
 have b2 : ∀ H, fQ 1 1 (.int .i64 0) [(0, I6 (xT w j))] H = some (.ro false [I6 (xT w j)], H) := fun H => rfl
 rw [hb]
 rw [hb] at hv
 generalize hrr : dK (cW.l4 G k 2 self) n (rD w f (if b = true then l ++ [(xT w j).toNat] else l).length (j + 1)) (SO (sY w f) 1 (if b = true then l ++ [(xT w j).toNat] else l)) = rr
 rw [bB, cW.l4]
 refine fV ?_
 refine eC hc ?_
 cases b with
 | true =>
  have hv' := hv rfl
  have en : I6 (xT w j) = Nn (xT w j).toNat := by
   show AV.int .i64 (xT w j) = .int .i64 ((xT w j).toNat : Int)
   rw [Int.toNat_of_nonneg hv']
  have a1 := aKJ w f l (xT w j).toNat hl
  rw [← en] at a1
  rw [if_pos rfl] at hrr
  generalize l ++ [(xT w j).toNat] = l' at *
  clear hv hv' en
  unfold rD at hrr ⊢
  generalize flR f = fl at *
  generalize xT w j = rj at *
  generalize w.v = wv at *
  have fx := aMv g1 <| aMv q2 <| aMv d1 <| aMv l1 <| aMv f2 <| aMv f3 <| aMv f4 <| aMv v2 <| aMv v3 <| aMv v4 <| aMv br <| aMv d2 <| aMv l2 <| aMv b2 <| a1
  refine gT ?_
  exact hrr
 | false =>
  rw [if_neg (by decide)] at hrr
  clear hv
  unfold rD at hrr ⊢
  generalize flR f = fl at *
  have fx := aMv g1 <| aMv q2 <| aMv d1 <| l1
  refine gT ?_
  exact hrr
theorem aKK (l : List Nat) (n : Nat) :
  dK (cW.l4 G k 2 self) (n + 1) (rD w f l.length 3) (SO (sY w f) 1 l) = some (.exit 0, rD w f l.length 3, SO (sY w f) 1 l) := by
 have hc : fN 2 (rD w f l.length 3) (SO (sY w f) 1 l) = some (SO (sY w f) 1 l) := gL (aIH w f).hb l _ (xS w f _ _)
 have g1 : aX Tryd.prog .lss 3 false (Nn 3) (.int .i64 3) = some (.bool false) := gI (by omega)
 rw [bB, cW.l4]
 refine fV ?_
 refine eC hc ?_
 unfold rD
 have fx := g1
 refine gT ?_
 refine gA ?_; rfl
def rG (w : WI) (f : Frm) (j : Nat) (l : List Nat) : List Nat := if fgR f j = true then l ++ [(xT w j).toNat] else l
theorem oZ (j : Nat) (l : List Nat) : (rG w f j l).length ≤ l.length + 1 := by unfold rG; split <;> simp
theorem vT {P : Nat → Prop} {j : Nat} {l : List Nat} (h : ∀ x ∈ l, P x) (h2 : fgR f j = true → P (xT w j).toNat) : ∀ x ∈ rG w f j l, P x := by
 unfold rG
 by_cases e : fgR f j = true
 ·rw [if_pos e]
  intro x hx
  rcases List.mem_append.1 hx with hx | hx
  ·exact h x hx
  ·rw [List.mem_singleton.1 hx]; exact h2 e
 ·rw [if_neg e]; exact h
theorem aCF (l : List Nat) : iV (eG l) = true := mC _ (fun _ => rfl) l
theorem aGL (l : List Nat) : mR 1 (eG l) = true := pW 1 _ (fun _ => rfl) l
theorem aDq {R n : Nat} (hg : w.Good R n) (hk : 10 ≤ k) : ∃ l : List Nat, cW.f G (k + 20) [w.v] [] = some (.ro false (eG l), []) ∧ (∀ x ∈ l, x < R) ∧ l.length ≤ 3 := by
 obtain ⟨ga, gb, gc⟩ := tC hg
 obtain ⟨F, hF⟩ : ∃ F, dM w.op = F := ⟨_, rfl⟩
 rw [hF] at ga gb gc
 have hfg : ∀ j, j < 3 → fgR F j = true → 0 ≤ xT w j ∧ xT w j < R := fun j hj => by
  have : j = 0 ∨ j = 1 ∨ j = 2 := by omega
  rcases this with rfl | rfl | rfl
  ·exact ga
  ·exact gb
  ·exact gc
 have hlt : ∀ j, j < 3 → fgR F j = true → (xT w j).toNat < R := fun j hj h => by have := hfg j hj h; omega
 obtain ⟨l3, e3⟩ : ∃ l, l = rG w F 2 (rG w F 1 (rG w F 0 [])) := ⟨_, rfl⟩
 have k3 : l3.length ≤ 3 := by
  have h1 := oZ w F 0 []
  have h2 := oZ w F 1 (rG w F 0 [])
  have h3 := oZ w F 2 (rG w F 1 (rG w F 0 []))
  rw [e3]; simp only [List.length_nil] at h1; omega
 have a3 : ∀ x ∈ l3, x < R := by
  rw [e3]
  exact vT w F (vT w F (vT w F (fun x hx => by cases hx) (hlt 0 (by omega))) (hlt 1 (by omega))) (hlt 2 (by omega))
 have lp : dK (cW.l4 G (k + 19) 2 (cW.f G (k + 19))) (k + 19) (rD w F 0 0) (sY w F) = some (.exit 0, rD w F l3.length 3, SO (sY w F) 1 l3) := by
  have h1 := oZ w F 0 []
  have h2 := oZ w F 1 (rG w F 0 [])
  simp only [List.length_nil] at h1
  have r1 := aAh G (k + 19) (cW.f G (k + 19)) w F 0 (by omega) [] (by decide) (fun h => (hfg 0 (by omega) h).1) (k + 18)
  have r2 := aAh G (k + 19) (cW.f G (k + 19)) w F 1 (by omega) (rG w F 0 []) (by omega) (fun h => (hfg 1 (by omega) h).1) (k + 17)
  have r3 := aAh G (k + 19) (cW.f G (k + 19)) w F 2 (by omega) (rG w F 1 (rG w F 0 [])) (by omega) (fun h => (hfg 2 (by omega) h).1) (k + 16)
  have r4 := aKK G (k + 19) (cW.f G (k + 19)) w F l3 (k + 15)
  rw [e3] at r4 ⊢
  exact r1.trans (r2.trans (r3.trans r4))
 obtain ⟨l4, s4, pm⟩ := aGq G (k + 14) (aIH w F) k3 (by omega) l3 rfl
 have a4 : ∀ x ∈ l4, x < R := fun x hx => a3 x (pm.subset hx)
 have k4 : l4.length = l3.length := pm.length_eq
 obtain ⟨m, l5, s5, m5, k5, a5⟩ := aGm (P := fun x => x < R) G (k + 18) (aIH w F) (by omega) (by omega) l4 k4 a4
 refine ⟨l5.take m, ?_, fun x hx => ?_, by rw [List.length_take]; omega⟩
 ·rw [cW.step]
  unfold cW.c
  have r0 : ∀ H, aW (dY.f G (k + 19)) [I6 w.op] H = _ := fun H => cG (H := H) (iO G (k + 15) w.op) rfl rfl
  rw [hF] at r0
  have b0 := aKy w
  have f0 := gi0 w
  have v0 := aJG G w
  have b1 : fR 100 (.agg [(.str ⟨#[]⟩), (.bool false), (.bool false), (.bool false), (.bool false), (.bool false)]) [] = some (.ptr 0 1 0 0, [⟨100, 6, [(.agg [(.str ⟨#[]⟩), (.bool false), (.bool false), (.bool false), (.bool false), (.bool false)])]⟩]) := rfl
  have st : fM (aV 6 (.ptr 0 1 0 0) (fW (cK w.op) F) [⟨100, 6, [(.agg [(.str ⟨#[]⟩), (.bool false), (.bool false), (.bool false), (.bool false), (.bool false)])]⟩]) = some (.tup [], [⟨100, 6, [fW (cK w.op) F]⟩]) := rfl
  have f2 : aA 2 (.ptr 0 1 0 0) = some (.ptr 0 1 0 2) := rfl
  have f3 : aA 3 (.ptr 0 1 0 0) = some (.ptr 0 1 0 3) := rfl
  have f4 : aA 4 (.ptr 0 1 0 0) = some (.ptr 0 1 0 4) := rfl
  have v2 : aE G false 1 (.ptr 0 1 0 2) ([⟨100, 6, [fW (cK w.op) F]⟩] ++ [⟨3, 1, []⟩]) = some (.bool F.a) := rfl
  have v3 : aE G false 1 (.ptr 0 1 0 3) ([⟨100, 6, [fW (cK w.op) F]⟩] ++ [⟨3, 1, []⟩]) = some (.bool F.b) := rfl
  have v4 : aE G false 1 (.ptr 0 1 0 4) ([⟨100, 6, [fW (cK w.op) F]⟩] ++ [⟨3, 1, []⟩]) = some (.bool F.c) := rfl
  have br : ∀ H, fQ 1 3 (.bool false) [(0, .bool F.a), (1, .bool F.b), (2, .bool F.c)] H = some (flR F, H) := fun H => rfl
  have ln : dD (flR F) = some (.int .i64 3) := rfl
  have hlen : (sY w F).length = 2 := rfl
  have fin : cH [.sl 1 l3.length 0 m 1] 0 (SO (sY w F) 1 l5) = some (.ret, [.ro false (eG (l5.take m))], []) := by
   have hb : (SO (sY w F) 1 l5)[1]? = some ⟨3, 1, eG l5⟩ := rfl
   have h1 : cB 0 (.sl 1 l3.length 0 m 1) = false := by simp [cB]
   have h3 : iE (.sl 1 l3.length 0 m 1) (SO (sY w F) 1 l5) = some (eG (l5.take m)) := by
    simp only [iE, hb, gF, k5, if_true, List.drop_zero]
    unfold eG; rw [List.map_take]
   have h2 : oA (uB (rE (SO (sY w F) 1 l5) 0 5)) (eG (l5.take m)) = some (eG (l5.take m)) := sF fun x h => yT (nV (jV 0 _) x h)
   have h4 : rE (SO (sY w F) 1 l5) 0 6 (.sl 1 l3.length 0 m 1) = some (.ro false (eG (l5.take m))) := by
    unfold rE
    simp only [h1, h3, aGL, h2]
   have := aAN h4 (by rfl)
   rw [this]; rfl
  unfold rD at lp
  have s4' : bD (bK.f G (k + 19)) [dS 1 l3.length] (SO (sY w F) 1 l3) = some (.tup [], SO (sY w F) 1 l4) := s4
  have lp' : dK (cW.l4 G (k + 19) (List.length (([⟨100, 6, [fW (cK w.op) F]⟩] ++ [⟨3, 1, []⟩]) : aB)) (cW.f G (k + 19))) (k + 19) [.rp false w.v 0, .sl (List.length [(⟨100, 6, [fW (cK w.op) F]⟩ : ABlk)]) 0 0 0 1, flR F, .int .i64 3, .int .i64 0] ([⟨100, 6, [fW (cK w.op) F]⟩] ++ [⟨3, 1, []⟩]) = some (.exit 0, [.rp false w.v 0, .sl 1 l3.length 0 l3.length 1, flR F, .int .i64 3, Nn 3], SO (sY w F) 1 l3) := lp
  clear lp
  generalize w.v = wv at *
  generalize fW (cK w.op) F = fv at *
  generalize flR F = fl at *
  generalize sY w F = HR at *
  refine gQ ?_
  have fx := aMv r0 <| aMv b0 <| aMv f0 <| aMv v0 <| aMv b1 <| aMv st <| aMv f2 <| aMv f3 <| aMv f4 <| aMv v2 <| aMv v3 <| aMv v4 <| aMv br <| aMv ln <| aMv s4' <| s5
  have lx1 := lp'
  refine gT ?_
  exact oF fin
 ·obtain ⟨j, hj, rfl⟩ := List.getElem_of_mem hx
  rw [List.length_take] at hj
  have := a5 j (by omega)
  rw [List.getD_eq_getElem?_getD, List.getElem?_eq_getElem (by omega)] at this
  simpa using this
theorem aBM (op d a b c kk : Int) (H : aB) : eF.f G (k + 6) [WI.v ⟨op, d, a, b, c, kk⟩] [] = some (.tup [I6 (if (dM op).d = true then d else 0), .bool (dM op).d], []) := by
 rw [eF.step]
 unfold eF.c
 have r0 : ∀ H, aW (dY.f G (k + 5)) [I6 op] H = _ := fun H => cG (H := H) (iO G (k + 1) op) rfl rfl
 have b0 := aKy (⟨op, d, a, b, c, kk⟩ : WI)
 have f0 := gi0 (⟨op, d, a, b, c, kk⟩ : WI)
 have f1 := gi1 (⟨op, d, a, b, c, kk⟩ : WI)
 have v0 := aJG G (⟨op, d, a, b, c, kk⟩ : WI)
 have v1 := aLq G (⟨op, d, a, b, c, kk⟩ : WI)
 have b1 : fR 100 (.agg [(.str ⟨#[]⟩), (.bool false), (.bool false), (.bool false), (.bool false), (.bool false)]) [] = some (.ptr 0 1 0 0, [⟨100, 6, [(.agg [(.str ⟨#[]⟩), (.bool false), (.bool false), (.bool false), (.bool false), (.bool false)])]⟩]) := rfl
 obtain ⟨F, hF⟩ : ∃ F, dM op = F := ⟨_, rfl⟩
 rw [hF] at r0 ⊢
 have st : fM (aV 6 (.ptr 0 1 0 0) (fW (cK op) F) [⟨100, 6, [(.agg [(.str ⟨#[]⟩), (.bool false), (.bool false), (.bool false), (.bool false), (.bool false)])]⟩]) = some (.tup [], [⟨100, 6, [fW (cK op) F]⟩]) := rfl
 have ff : aA 1 (.ptr 0 1 0 0) = some (.ptr 0 1 0 1) := rfl
 have vf : aE G false 1 (.ptr 0 1 0 1) [⟨100, 6, [fW (cK op) F]⟩] = some (.bool F.d) := rfl
 have fin : ∀ (x : Int) (b : Bool), cH [I6 x, .bool b] 0 [⟨100, 6, [fW (cK op) F]⟩] = some (.ret, [.tup [I6 x, .bool b]], []) := fun x b => rfl
 have fin1 := fin d true
 have fin2 := fin 0 false
 cases hd : F.d with
 | true =>
  rw [hd] at vf
  rw [if_pos rfl]
  generalize WI.v ⟨op, d, a, b, c, kk⟩ = wv at *
  generalize fW (cK op) F = fv at *
  refine gQ ?_
  have fx := aMv r0 <| aMv b0 <| aMv f0 <| aMv f1 <| aMv v0 <| aMv v1 <| aMv b1 <| aMv st <| aMv ff <| vf
  refine gT ?_
  exact oF fin1
 | false =>
  rw [hd] at vf
  rw [if_neg (by decide)]
  generalize WI.v ⟨op, d, a, b, c, kk⟩ = wv at *
  generalize fW (cK op) F = fv at *
  refine gQ ?_
  have fx := aMv r0 <| aMv b0 <| aMv f0 <| aMv f1 <| aMv v0 <| aMv v1 <| aMv b1 <| aMv st <| aMv ff <| vf
  refine gT ?_
  exact oF fin2
end
theorem aEX {L : LY} {R S N : Nat} {ws : List WI} {F fuel : Int} (hL : L.Ok R S N) (hw : ∀ w ∈ ws, w.Good R ws.length) (hF : F ≤ 99999) (hfuel : 8 * F + 20 < fuel) : ∀ (f : Nat) (s s' q : MS), jB ws F f s = some s' → s'.code ≠ 4 → s.Ok R → RelA L R S N s.regs s.mem q.regs q.mem → q.at_ = L.at_ ws s.at_ → s.at_ ≤ ws.length → (s.steps : Int) ≤ F → q.steps ≤ 8 * s.steps →
  ∃ (m : Nat) (q' : MS) (T : List (Int × Int)), (m : Int) ≤ 9 * (F - s.steps) + 1 ∧ aDo (L.out ws) fuel q m q' ∧ q'.code = s'.code ∧ RelA L R S N s'.regs s'.mem q'.regs q'.mem ∧ s'.leaks = s.leaks ++ T ∧ ∀ pc, q'.leaks = q.leaks ++ L.mlk ws pc T
 | 0, s, s', q, h, _, _, _, _, _, _, _ => by simp [jB] at h
 | f + 1, s, s', q, h, hc, hs, hsim, hqa, hat, hst, hq => by
  simp only [jB] at h
  obtain ⟨qr, qa, qc, qm, qlk, qst⟩ := q
  simp only at hsim hqa hq
  by_cases h1 : ws.length ≤ s.at_
  ·rw [if_pos h1] at h; simp only [Option.some.injEq] at h; subst h
   have hp : qa = (L.out ws).length := by rw [hqa, show s.at_ = ws.length by omega, aJJ]
   have g := aGg (fuel := fuel) (cs := L.out ws) (cd := qc) (mem := qm) (r := qr) (lk := qlk) (st := qst) (p := qa) (by omega)
   exact ⟨1, _, [], by omega, g, rfl, hsim, by simp, fun pc => by simp [LY.mlk]⟩
  rw [if_neg h1] at h
  by_cases h2 : (s.steps : Int) = F
  ·rw [if_pos h2] at h; simp only [Option.some.injEq] at h; subst h
   exact absurd rfl hc
  rw [if_neg h2] at h
  have hj : s.at_ < ws.length := by omega
  have hmemi : ws.getD s.at_ default ∈ ws := by
   rw [List.getD_eq_getElem?_getD, List.getElem?_eq_getElem hj]; exact List.getElem_mem hj
  have hg := hw _ hmemi
  have okt : s.tick.Ok R := ⟨hs.len, hs.regs, hs.mem, by have := hs.leaks; simp [MS.tick, MS.leak]; omega, hs.big, by simp [MS.tick, MS.leak]; omega⟩
  obtain ⟨o1, o2, o3, o4⟩ := MS.step_ok okt hg.ok2.ok (by have := hs.leaks; simp [MS.tick, MS.leak]; omega) (show s.tick.at_ < ws.length from hj)
  have tst : s.tick.steps = s.steps + 1 := rfl
  subst hqa
  obtain ⟨sr, sa, sc, sm, slk, sst⟩ := s
  obtain ⟨s2, b, hsb, m, q2, Y, X, m9, hY, hX, hmk, hqs, hrel, hgo, hend⟩ := aFO (fuel := fuel) (sc := sc) (slk := slk) (sst := sst) (cd := qc) (lk := qlk) (st := qst) hL hsim hj rfl hg (by simp only at hst hq h2; omega)
  rw [hsb] at h o1 o2 o3 o4
  simp only at h o1 o2 o3 o4 hst hq h2 tst hY hX hqs hmk ⊢
  cases b
  ·simp only [Option.some.injEq] at h
   subst h
   obtain ⟨he, hcode⟩ := hend rfl
   refine ⟨m, q2, Y, by omega, he, hcode, hrel, hY, fun pc => ?_⟩
   have := hmk pc []
   rw [List.append_nil] at this
   rw [hX, this]; simp [LY.mlk]
  ·obtain ⟨hgo, hqa2⟩ := hgo rfl
   obtain ⟨m2, q', T, hm2, he, hcode, hmem, hT, hmlk⟩ := aEX hL hw hF hfuel f s2 s' q2 h hc o1 hrel hqa2 o2 (by rw [o3, tst]; push_cast; omega) (by rw [o3, tst]; omega)
   rw [o3, tst] at hm2
   refine ⟨m + m2, q', Y ++ T, by push_cast at hm2 ⊢; omega, hgo.ends he, hcode, hmem, by rw [hT, hY, List.append_assoc], fun pc => ?_⟩
   rw [hmlk sa, hX, hmk, List.append_assoc]
theorem mD (n j : Nat) : (List.replicate n 0).getD j 0 = 0 := by
 rw [List.getD_eq_getElem?_getD, List.getElem?_replicate]; split <;> rfl
def gY (mem : List Nat) (n : Nat) : List Nat := mem.take n ++ List.replicate (n - mem.length) 0
theorem tD (mem : List Nat) (n : Nat) (h : mem.length ≤ n) : (gY mem n).length = n := by unfold gY; simp; omega
theorem yY (mem : List Nat) (n j : Nat) (h : mem.length ≤ n) : (gY mem n).getD j 0 = mem.getD j 0 := by
 unfold gY
 rw [List.take_of_length_le h]
 by_cases hj : j < mem.length
 ·rw [List.getD_eq_getElem?_getD, List.getElem?_append_left hj, ← List.getD_eq_getElem?_getD]
 ·rw [List.getD_eq_getElem?_getD, List.getElem?_append_right (by omega), ← List.getD_eq_getElem?_getD, mD, List.getD_eq_getElem?_getD, List.getElem?_eq_none (by omega)]; rfl
theorem aLT {L : LY} {R S N : Nat} (hL : L.Ok R S N) (mem : List Nat) (hm : mem.length = L.M) : RelA L R S N (List.replicate R 0) mem (List.replicate S 0) (gY mem N) := by
 have hn : mem.length ≤ N := by rw [hm]; exact hL.mn
 refine ⟨by simp, by simp, mD _ _, hm, tD _ _ hn, fun r hr h0 => by rw [mD, mD], fun r hr h0 => ?_, fun j hj => yY _ _ _ hn⟩
 have hb := hL.wd r hr h0
 rw [yY _ _ _ hn, mD, List.getD_eq_getElem?_getD, List.getElem?_eq_none (by omega)]; rfl
theorem aII {L : LY} {R S N : Nat} {ws : List WI} {F fuel : Int} {K f : Nat} (hL : L.Ok R S N) (hw : ∀ w ∈ ws, w.Good R ws.length) (h0 : 0 ≤ F) (hF : F ≤ 99999) (hfuel : 8 * F + 20 < fuel) (mem : List Nat) (hm : mem.length = L.M) (hmm : ∀ x ∈ mem, x < 18446744073709551616) (s' : MS) (h : jB ws F f (s0 R mem) = some s') (hc : s'.code ≠ 4) (hK : 9 * F + 1 ≤ K) :
  ∃ q', jB (L.out ws) fuel K (s0 S (gY mem N)) = some q' ∧ q'.code = s'.code ∧ RelA L R S N s'.regs s'.mem q'.regs q'.mem ∧ q'.leaks = L.mlk ws 0 s'.leaks := by
 have hn := hL.n
 have hmn := hL.mn
 obtain ⟨m, q', T, hm, he, h1, h2, h3, h4⟩ := aEX hL hw hF hfuel f (s0 R mem) s' (s0 S (gY mem N)) h hc (aCZ R mem hmm (by omega)) (aLT hL mem hm) (by simp [s0, LY.at_, LY.flat]) (by simp [s0]) (by simp only [s0]; omega) (by simp [s0])
 have e : s'.leaks = T := by rw [h3]; simp [s0]
 refine ⟨q', ?_, h1, h2, by rw [h4 0, e]; simp [s0]⟩
 have hs0 : (s0 R mem).steps = 0 := rfl
 rw [hs0] at hm
 have := he (K - m)
 rw [show K - m + m = K by omega] at this
 exact this
theorem wZ {ws : List WI} {F F2 : Int} (hF : F ≤ F2) : ∀ (f : Nat) (s s' : MS), jB ws F f s = some s' → s'.code ≠ 4 → (s.steps : Int) ≤ F → jB ws F2 f s = some s'
 | 0, s, s', h, _, _ => by simp [jB] at h
 | f + 1, s, s', h, hc, hs => by
  simp only [jB] at h ⊢
  by_cases h1 : ws.length ≤ s.at_
  ·rw [if_pos h1] at h ⊢; exact h
  rw [if_neg h1] at h ⊢
  by_cases h2 : (s.steps : Int) = F
  ·rw [if_pos h2] at h; simp only [Option.some.injEq] at h; subst h
   exact absurd rfl hc
  rw [if_neg h2] at h
  rw [if_neg (by omega)]
  have e : ∀ i, (s.tick.step i).1.steps = s.steps + 1 := fun i => by
   unfold MS.step MS.touch MS.branch
   simp only
   repeat' split
   all_goals rfl
  have e' := e (ws.getD s.at_ default)
  obtain ⟨s2, b, hsb⟩ : ∃ s2 b, s.tick.step (ws.getD s.at_ default) = (s2, b) := ⟨_, _, rfl⟩
  rw [hsb] at e' h ⊢
  cases b
  ·exact h
  ·exact wZ hF f s2 s' h hc (by simp only at e'; omega)
section
variable {L : LY} {R S N : Nat}
theorem jX {i : WI} {S n : Int} (hf : (fO i.op).isSome = true) (ho : kH (dM i.op) i S = false) (hz : kP (dM i.op) i = false) (h1 : 10 ≤ i.op → i.op ≤ 12 → 0 ≤ i.k ∧ i.k ≤ 63) (h2 : i.op = 20 → 0 ≤ i.k ∧ i.k ≤ 2) (h3 : i.op = 15 ∨ i.op = 16 → 0 ≤ i.k ∧ i.k ≤ 65535) (h4 : 17 ≤ i.op → i.op ≤ 19 → 0 ≤ i.k ∧ i.k ≤ n) : fZ i S n = none := by
 unfold fZ
 rw [hf, ho, hz]
 simp only [Bool.true_eq_false, Bool.false_eq_true, if_false]
 by_cases a1 : i.op = 10 ∨ i.op = 11 ∨ i.op = 12
 ·have := h1 (by omega) (by omega)
  rw [if_pos a1, if_neg (by omega)]
 rw [if_neg a1]
 by_cases a2 : i.op = 20
 ·have := h2 a2
  rw [if_pos a2, if_neg (by omega)]
 rw [if_neg a2]
 by_cases a3 : i.op = 15 ∨ i.op = 16
 ·have := h3 a3
  rw [if_pos a3, if_neg (by omega)]
 rw [if_neg a3]
 by_cases a4 : i.op = 17 ∨ i.op = 18 ∨ i.op = 19
 ·have := h4 (by omega) (by omega)
  rw [if_pos a4, if_neg (by omega)]
 rw [if_neg a4]
end
theorem wQ {i : WI} {R n : Int} (h : fZ i R n = none) : (fO i.op).isSome = true ∧ kH (dM i.op) i R = false ∧ kP (dM i.op) i = false := by
 unfold fZ at h
 by_cases h0 : (fO i.op).isSome = false
 ·rw [if_pos h0] at h; cases h
 rw [if_neg h0] at h
 by_cases h1 : kH (dM i.op) i R = true
 ·rw [if_pos h1] at h; cases h
 rw [if_neg h1] at h
 by_cases h2 : kP (dM i.op) i = true
 ·rw [if_pos h2] at h; cases h
 have b1 : ∀ b : Bool, ¬ b = false → b = true := by decide
 have b2 : ∀ b : Bool, ¬ b = true → b = false := by decide
 exact ⟨b1 _ h0, b2 _ h1, b2 _ h2⟩
theorem yO {R n : Int} : ∀ {l : List WI} {j : Nat}, lA R n l j = .ok → ∀ i ∈ l, fZ i R n = none
 | [], _, _, i, hi => by cases hi
 | x :: l, j, h, i, hi => by
  unfold lA at h
  split at h
  ·cases h
  ·rename_i ho
   rcases List.mem_cons.1 hi with rfl | hi
   ·exact ho
   ·exact yO h i hi
theorem aEm {R n : Int} : ∀ (l : List WI) (j : Nat), (∀ i ∈ l, fZ i R n = none) → lA R n l j = .ok
 | [], _, _ => rfl
 | x :: l, j, h => by
  unfold lA
  rw [h x (List.mem_cons_self ..)]
  exact aEm l (j + 1) fun i hi => h i (List.mem_cons_of_mem _ hi)
theorem aDg {cs : List WI} {R M : Int} (h : gS cs R M = .ok) : ∀ i ∈ cs, fZ i R cs.length = none := by
 have hb := (qF h).1
 unfold gS at h
 rw [if_neg (by omega), if_neg (by omega)] at h
 exact yO h
theorem aFS {cs : List WI} {R M : Int} (h0 : cs.length ≤ 262144) (h1 : 0 ≤ R ∧ R ≤ 65536) (h2 : 0 ≤ M ∧ M ≤ 65536) (h : ∀ i ∈ cs, fZ i R cs.length = none) : gS cs R M = .ok := by
 unfold gS
 rw [if_neg (by omega), if_neg (by omega)]
 exact aEm cs 0 h
section
variable {L : LY} {R S N : Nat} {P : List Nat} {m : Nat}
theorem aBh (hL : L.Ok R S N) {v into : Int} (hv : 0 ≤ v ∧ v < R) (hi : 1 ≤ into ∧ into ≤ 3) : 0 ≤ L.rdR v into ∧ L.rdR v into < S := by
 have := hL.s6
 unfold LY.rdR
 by_cases h0 : L.sl v = 0
 ·rw [if_pos h0]; omega
 ·rw [if_neg h0]; have : L.sl v < S := (hL.sl v.toNat (by omega) h0).2; omega
theorem aKz (hL : L.Ok R S N) {v : Int} (hv : 0 ≤ v ∧ v < R) : 0 ≤ L.wrR v ∧ L.wrR v < S := aBh hL (into := 1) hv (by decide)
theorem aJI (hL : L.Ok R S N) {v : Int} (hv : 0 ≤ v ∧ v < R) (h0 : L.sl v = 0) : (0 : Int) ≤ (L.wd v : Int) ∧ (L.wd v : Int) ≤ 65535 := by
 have := hL.n
 have : L.wd v < N := (hL.wd v.toNat (by omega) h0).2
 omega
def OkB (S : Nat) (P : List Nat) (m : Nat) (i : WI) : Prop := fZ (jS P m i) S m = none
theorem nP {i : WI} (h : ¬ (i.op = 17 ∨ i.op = 18 ∨ i.op = 19)) (h2 : fZ i S m = none) : OkB S P m i := by
 unfold OkB jS
 rw [if_neg h]; exact h2
theorem aJl {d a k : Int} (hS : 6 ≤ S) (hd : 0 ≤ d ∧ d < S) (ha : 0 ≤ a ∧ a < S) (hk : 0 ≤ k ∧ k ≤ 65535) : OkB S P m ⟨15, d, a, 0, 0, k⟩ := by
 refine nP (by simp) (jX rfl ?_ ?_ (fun h h2 => ?_) (fun h => ?_) (fun _ => hk) (fun h h2 => ?_))
 ·simp [kH, iY, dM, fO]; omega
 ·simp [kP, dM, fO]
 ·exact absurd h2 (by simp)
 ·exact absurd h (by simp)
 ·exact absurd h (by simp)
theorem aJm {a b k : Int} (hS : 6 ≤ S) (ha : 0 ≤ a ∧ a < S) (hb : 0 ≤ b ∧ b < S) (hk : 0 ≤ k ∧ k ≤ 65535) : OkB S P m ⟨16, 0, a, b, 0, k⟩ := by
 refine nP (by simp) (jX rfl ?_ ?_ (fun h h2 => ?_) (fun h => ?_) (fun _ => hk) (fun h h2 => ?_))
 ·simp [kH, iY, dM, fO]; omega
 ·simp [kP, dM, fO]
 ·exact absurd h2 (by simp)
 ·exact absurd h (by simp)
 ·exact absurd h (by simp)
theorem aCJ {d k : Int} (hd : 0 ≤ d ∧ d < S) : OkB S P m ⟨1, d, 0, 0, 0, k⟩ := by
 refine nP (by simp) (jX rfl ?_ ?_ (fun h h2 => ?_) (fun h => ?_) (fun h => ?_) (fun h h2 => ?_))
 ·simp [kH, iY, dM, fO]; omega
 ·simp [kP, dM, fO]
 ·exact absurd h (by simp)
 ·exact absurd h (by simp)
 ·exact absurd h (by simp)
 ·exact absurd h (by simp)
theorem aLa {op d a b : Int} (ho : op = 3 ∨ op = 13) (hd : 0 ≤ d ∧ d < S) (ha : 0 ≤ a ∧ a < S) (hb : 0 ≤ b ∧ b < S) : OkB S P m ⟨op, d, a, b, 0, 0⟩ := by
 rcases ho with rfl | rfl
 ·refine nP (by simp) (jX rfl ?_ ?_ (fun h h2 => ?_) (fun h => ?_) (fun h => ?_) (fun h h2 => ?_))
  ·simp [kH, iY, dM, fO]; omega
  ·simp [kP, dM, fO]
  ·exact absurd h (by simp)
  ·exact absurd h (by simp)
  ·exact absurd h (by simp)
  ·exact absurd h (by simp)
 ·refine nP (by simp) (jX rfl ?_ ?_ (fun h h2 => ?_) (fun h => ?_) (fun h => ?_) (fun h h2 => ?_))
  ·simp [kH, iY, dM, fO]; omega
  ·simp [kP, dM, fO]
  ·exact absurd h2 (by simp)
  ·exact absurd h (by simp)
  ·exact absurd h (by simp)
  ·exact absurd h (by simp)
theorem aKh (hS : 6 ≤ S) : OkB S P m ⟨18, 0, 3, 0, 0, -1⟩ := by
 unfold OkB
 rw [aCo]
 refine jX rfl ?_ ?_ (fun h h2 => ?_) (fun h => ?_) (fun h => ?_) (fun h h2 => ?_)
 ·simp [kH, iY, dM, fO]; omega
 ·simp [kP, dM, fO]
 ·exact absurd h2 (by simp)
 ·exact absurd h (by simp)
 ·exact absurd h (by simp)
 ·simp only; omega
theorem aGN (hL : L.Ok R S N) {v into : Int} (hv : 0 ≤ v ∧ v < R) (hi : 1 ≤ into ∧ into ≤ 3) : ∀ i ∈ L.rdC v into, OkB S P m i := by
 have := hL.s6
 unfold LY.rdC
 by_cases h0 : L.sl v = 0
 ·rw [if_pos h0]
  intro i h; rw [List.mem_singleton.1 h]
  exact aJl hL.s6 (by omega) (by omega) (aJI hL hv h0)
 ·rw [if_neg h0]; intro i h; cases h
theorem aJn (hL : L.Ok R S N) {v : Int} (hv : 0 ≤ v ∧ v < R) : ∀ i ∈ L.wrC v, OkB S P m i := by
 have := hL.s6
 unfold LY.wrC
 by_cases h0 : L.sl v = 0
 ·rw [if_pos h0]
  intro i h; rw [List.mem_singleton.1 h]
  exact aJm hL.s6 (by omega) (by omega) (aJI hL hv h0)
 ·rw [if_neg h0]; intro i h; cases h
theorem aGM (hL : L.Ok R S N) {f : Bool} {v into : Int} (hv : f = true → 0 ≤ v ∧ v < R) (hi : 1 ≤ into ∧ into ≤ 3) : ∀ i ∈ L.rC f v into, OkB S P m i := by
 unfold LY.rC
 by_cases h : f = true
 ·rw [if_pos h]; exact aGN hL (hv h) hi
 ·rw [if_neg h]; intro i h; cases h
theorem lR {Q : WI → Prop} {A B : List WI} (h : ∀ i ∈ A, Q i) (h2 : ∀ i ∈ B, Q i) : ∀ i ∈ A ++ B, Q i := fun i hi => by
 rcases List.mem_append.1 hi with hi | hi
 ·exact h i hi
 ·exact h2 i hi
theorem aAl {Q : WI → Prop} {x : WI} (h : Q x) : ∀ i ∈ [x], Q i := fun i hi => by rw [List.mem_singleton.1 hi]; exact h
theorem vJ (hL : L.Ok R S N) {f : Bool} {v into : Int} (hv : f = true → 0 ≤ v ∧ v < R) (hi : 1 ≤ into ∧ into ≤ 3) : iY f (L.rR f v into) S = false := by
 unfold LY.rR iY
 cases f with
 | false => rfl
 | true =>
  have := aBh hL (hv rfl) hi
  simp only [if_true, Bool.true_and, Bool.or_eq_false_iff, decide_eq_false_iff_not]; omega
theorem aBc {f : Bool} {v into : Int} (h : (!f && decide (v ≠ 0)) = false) : (!f && decide (L.rR f v into ≠ 0)) = false := by
 unfold LY.rR
 cases f with
 | false => exact h
 | true => rfl
theorem aKQ {op : Int} (h : op = 17 ∨ op = 18 ∨ op = 19) : (dM op).k = true := by rcases h with rfl | rfl | rfl <;> rfl
theorem aKi (hL : L.Ok R S N) {w : WI} {n : Nat} (h : fZ w R n = none) (hP : ∀ j, P.getD j 0 ≤ m) (hn : ¬ (w.op = 15 ∨ w.op = 16)) : OkB S P m (L.ins w) := by
 have hg := tN h (by omega)
 rw [Int.toNat_natCast, Int.toNat_natCast] at hg
 obtain ⟨p1, p2, p3⟩ := wQ h
 obtain ⟨ga, gb, gc⟩ := tC hg
 have gd : (dM w.op).d = true → 0 ≤ w.d ∧ w.d < R := fun e => by
  simp only [kH, iY, Bool.or_eq_false_iff, e, Bool.true_and, decide_eq_false_iff_not] at p2
  omega
 have hsh := hg.ok2.sh
 have hha := hg.halt
 simp only [kP, Bool.or_eq_false_iff] at p3
 obtain ⟨⟨⟨⟨q1, q2⟩, q3⟩, q4⟩, q5⟩ := p3
 have hd1 : iY (dM w.op).d (if (dM w.op).d = true then L.wrR w.d else w.d) S = false := vJ hL (into := 1) gd (by decide)
 have hd2 : (!(dM w.op).d && decide ((if (dM w.op).d = true then L.wrR w.d else w.d) ≠ 0)) = false := aBc (L := L) (into := 1) q1
 have ha1 := vJ hL (into := 1) ga (by decide)
 have hb1 := vJ hL (into := 2) gb (by decide)
 have hc1 := vJ hL (into := 3) gc (by decide)
 have ha2 := aBc (L := L) (into := 1) q2
 have hb2 := aBc (L := L) (into := 2) q3
 have hc2 := aBc (L := L) (into := 3) q4
 unfold OkB jS
 by_cases hb : (L.ins w).op = 17 ∨ (L.ins w).op = 18 ∨ (L.ins w).op = 19
 ·rw [if_pos hb]
  have hb' : w.op = 17 ∨ w.op = 18 ∨ w.op = 19 := hb
  have hk := aKQ hb'
  have key : ∀ kk : Int, 0 ≤ kk ∧ kk ≤ m → fZ { L.ins w with k := kk } S m = none := fun kk hkk => by
   refine jX p1 ?_ ?_ (fun e e2 => ?_) (fun e => ?_) (fun e => ?_) (fun _ _ => hkk)
   ·show kH (dM w.op) _ _ = false
    simp only [kH, LY.ins, hd1, ha1, hb1, hc1, Bool.or_self]
   ·show kP (dM w.op) _ = false
    simp only [kP, Bool.or_eq_false_iff]
    exact ⟨⟨⟨⟨hd2, ha2⟩, hb2⟩, hc2⟩, by rw [hk]; rfl⟩
   ·have : w.op ≤ 12 := e2
    omega
   ·have : w.op = 20 := e
    omega
   ·have : w.op = 15 ∨ w.op = 16 := e
    omega
  by_cases hf : (L.ins w).k = -1
  ·rw [if_pos hf]; exact key _ (by omega)
  ·rw [if_neg hf]; exact key _ (by have := hP (L.ins w).k.toNat; omega)
 ·rw [if_neg hb]
  refine jX p1 ?_ ?_ (fun e e2 => hsh e e2) (fun e => hha e) (fun e => absurd e hn) (fun e e2 => ?_)
  ·show kH (dM w.op) _ _ = false
   simp only [kH, LY.ins, hd1, ha1, hb1, hc1, Bool.or_self]
  ·show kP (dM w.op) _ = false
   simp only [kP, Bool.or_eq_false_iff]
   exact ⟨⟨⟨⟨hd2, ha2⟩, hb2⟩, hc2⟩, q5⟩
  ·have e' : 17 ≤ w.op := e
   have e2' : w.op ≤ 19 := e2
   exact absurd (show w.op = 17 ∨ w.op = 18 ∨ w.op = 19 by omega) hb
theorem aKj (hL : L.Ok R S N) {w : WI} {n : Nat} (h : fZ w R n = none) (hP : ∀ j, P.getD j 0 ≤ m) : ∀ i ∈ L.one w, OkB S P m i := by
 have hs6 := hL.s6
 have hg := tN h (by omega)
 rw [Int.toNat_natCast, Int.toNat_natCast] at hg
 have had : w.op = 15 ∨ w.op = 16 → ∀ i ∈ L.adC w, OkB S P m i := fun ho => by
  have ha := hg.ok2.ok.a (by omega) (by omega)
  have hr := aBh hL ha (into := 1) (by decide)
  unfold LY.adC
  refine lR (aGN hL ha (by decide)) ?_
  intro i hi
  simp only [List.mem_cons, List.not_mem_nil, or_false] at hi
  rcases hi with rfl | rfl | rfl | rfl | rfl
  ·exact aCJ (by omega)
  ·exact aLa (.inl rfl) (by omega) hr (by omega)
  ·exact aCJ (by omega)
  ·exact aLa (.inr rfl) (by omega) (by omega) (by omega)
  ·exact aKh hs6
 unfold LY.one
 by_cases h15 : w.op = 15
 ·rw [if_pos h15]
  have hd := hg.ok2.ok.d (by omega)
  exact lR (had (.inl h15)) (lR (aAl (aJl hs6 (aKz hL hd) (by omega) (by decide))) (aJn hL hd))
 rw [if_neg h15]
 by_cases h16 : w.op = 16
 ·rw [if_pos h16]
  have hb := hg.ok2.ok.b (by omega)
  exact lR (had (.inr h16)) (lR (aGN hL hb (by decide)) (aAl (aJm hs6 (by omega) (aBh hL hb (by decide)) (by decide))))
 rw [if_neg h16]
 obtain ⟨ga, gb, gc⟩ := tC hg
 unfold LY.rds
 refine lR (lR (aGM hL ga (by decide)) (lR (aGM hL gb (by decide)) (aGM hL gc (by decide)))) (lR (aAl (aKi hL h hP (by omega))) ?_)
 unfold LY.wrs
 by_cases hf : (dM w.op).d = true
 ·rw [if_pos hf]
  refine aJn hL ?_
  have p2 := (wQ h).2.1
  simp only [kH, iY, Bool.or_eq_false_iff, hf, Bool.true_and, decide_eq_false_iff_not] at p2
  omega
 ·rw [if_neg hf]; intro i h; cases h
theorem wL : ∀ (ws : List WI) {i : WI}, i ∈ L.flat ws → ∃ w ∈ ws, i ∈ L.one w
 | [], i, h => by cases h
 | w :: ws, i, h => by
  rcases List.mem_append.1 h with h | h
  ·exact ⟨w, List.mem_cons_self .., h⟩
  ·obtain ⟨v, hv, h2⟩ := wL ws h
   exact ⟨v, List.mem_cons_of_mem _ hv, h2⟩
theorem aFH (hL : L.Ok R S N) (hS : S ≤ 65536) {ws : List WI} (hw : ∀ w ∈ ws, fZ w R ws.length = none) (hl : ws.length ≤ 30000) : gS (L.out ws) S N = .ok := by
 have hn := hL.n
 have hf := qA L ws
 refine aFS (by rw [oC]; omega) (by omega) (by omega) fun i hi => ?_
 have hi2 := hi
 unfold LY.out at hi
 obtain ⟨x, hx, rfl⟩ := List.mem_map.1 hi
 obtain ⟨w, hw1, hw2⟩ := wL ws hx
 have := aKj (P := L.place ws) (m := (L.out ws).length) hL (hw w hw1) (aGS L ws) x hw2
 rw [← oC]
 exact this
end
def ix : List Nat → Nat → Nat
 | [], _ => 0
 | x :: o, r => if x = r then 0 else ix o r + 1
theorem aEx (x r : Nat) (o : List Nat) : ix (x :: o) r = if x = r then 0 else ix o r + 1 := rfl
theorem aJg {r : Nat} : ∀ {o : List Nat}, r ∈ o → ix o r < o.length
 | [], h => by cases h
 | x :: o, h => by
  unfold ix
  by_cases e : x = r
  ·rw [if_pos e]; simp
  ·rw [if_neg e]
   have : r ∈ o := by
    rcases List.mem_cons.1 h with h | h
    ·exact absurd h.symm e
    ·exact h
   have := aJg this
   simp only [List.length_cons]; omega
theorem aDH {r t : Nat} : ∀ {o : List Nat}, r ∈ o → t ∈ o → ix o r = ix o t → r = t
 | [], h, _, _ => by cases h
 | x :: o, h, h2, he => by
  unfold ix at he
  by_cases e : x = r
  ·by_cases e2 : x = t
   ·omega
   ·rw [if_pos e, if_neg e2] at he; omega
  ·by_cases e2 : x = t
   ·rw [if_neg e, if_pos e2] at he; omega
   ·rw [if_neg e, if_neg e2] at he
    have h1 : r ∈ o := by
     rcases List.mem_cons.1 h with h | h
     ·exact absurd h.symm e
     ·exact h
    have h3 : t ∈ o := by
     rcases List.mem_cons.1 h2 with h | h
     ·exact absurd h.symm e2
     ·exact h
    exact aDH h1 h3 (by omega)
def jY (S : Nat) : List Nat → Nat → List Nat → List Nat
 | [], _, l => l
 | r :: o, k, l => jY S o (k + 1) (if k + 4 < S then l.set r (4 + k) else l)
def jZ (S M : Nat) : List Nat → Nat → List Nat → List Nat
 | [], _, l => l
 | r :: o, k, l => jZ S M o (k + 1) (if k + 4 < S then l else l.set r (M + (k + 4 - S)))
theorem zX (S : Nat) : ∀ (o : List Nat) (k : Nat) (l : List Nat), (jY S o k l).length = l.length
 | [], k, l => rfl
 | r :: o, k, l => by
  show (jY S o (k + 1) _).length = _
  rw [zX S o]; split <;> simp
theorem zZ (S M : Nat) : ∀ (o : List Nat) (k : Nat) (l : List Nat), (jZ S M o k l).length = l.length
 | [], k, l => rfl
 | r :: o, k, l => by
  show (jZ S M o (k + 1) _).length = _
  rw [zZ S M o]; split <;> simp
theorem zW (S : Nat) (r : Nat) : ∀ (o : List Nat) (k : Nat) (l : List Nat), o.Nodup → (∀ x ∈ o, x < l.length) → (jY S o k l).getD r 0 = if r ∈ o ∧ k + ix o r + 4 < S then 4 + (k + ix o r) else l.getD r 0
 | [], k, l, _, _ => by
  rw [if_neg (fun h => by cases h.1)]; rfl
 | x :: o, k, l, hn, hl => by
  have hx := List.nodup_cons.1 hn
  have hxl := hl x (List.mem_cons_self ..)
  have ih := zW S r o (k + 1) (if k + 4 < S then l.set x (4 + k) else l) hx.2 (fun y hy => by
   have := hl y (List.mem_cons_of_mem _ hy)
   split
   ·rw [List.length_set]; exact this
   ·exact this)
  show (jY S o (k + 1) _).getD r 0 = _
  rw [ih, aEx]
  by_cases e : x = r
  ·subst e
   rw [if_neg (fun h => hx.1 h.1), if_pos rfl]
   by_cases h : k + 4 < S
   ·rw [if_pos h, if_pos ⟨List.mem_cons_self .., by omega⟩, gJ _ _ _ _ hxl, if_pos rfl]; rfl
   ·rw [if_neg h, if_neg (fun h2 => by omega)]
  ·rw [if_neg e]
   have hm : r ∈ x :: o ↔ r ∈ o := by
    rw [List.mem_cons]
    exact ⟨fun h => h.resolve_left (fun h => e h.symm), .inr⟩
   have hg : (if k + 4 < S then l.set x (4 + k) else l).getD r 0 = l.getD r 0 := by
    by_cases h : k + 4 < S
    ·rw [if_pos h, gJ _ _ _ _ hxl, if_neg e]
    ·rw [if_neg h]
   rw [hg]
   by_cases h : r ∈ o ∧ k + 1 + ix o r + 4 < S
   ·rw [if_pos h, if_pos ⟨hm.2 h.1, by omega⟩]; omega
   ·rw [if_neg h, if_neg (fun h2 => h ⟨hm.1 h2.1, by omega⟩)]
theorem zY (S M : Nat) (r : Nat) : ∀ (o : List Nat) (k : Nat) (l : List Nat), o.Nodup → (∀ x ∈ o, x < l.length) → (jZ S M o k l).getD r 0 = if r ∈ o ∧ ¬ k + ix o r + 4 < S then M + (k + ix o r + 4 - S) else l.getD r 0
 | [], k, l, _, _ => by
  rw [if_neg (fun h => by cases h.1)]; rfl
 | x :: o, k, l, hn, hl => by
  have hx := List.nodup_cons.1 hn
  have hxl := hl x (List.mem_cons_self ..)
  have ih := zY S M r o (k + 1) (if k + 4 < S then l else l.set x (M + (k + 4 - S))) hx.2 (fun y hy => by
   have := hl y (List.mem_cons_of_mem _ hy)
   split
   ·exact this
   ·rw [List.length_set]; exact this)
  show (jZ S M o (k + 1) _).getD r 0 = _
  rw [ih, aEx]
  by_cases e : x = r
  ·subst e
   rw [if_neg (fun h => hx.1 h.1), if_pos rfl]
   by_cases h : k + 4 < S
   ·rw [if_pos h, if_neg (fun h2 => by omega)]
   ·rw [if_neg h, if_pos ⟨List.mem_cons_self .., by omega⟩, gJ _ _ _ _ hxl, if_pos rfl]
  ·rw [if_neg e]
   have hm : r ∈ x :: o ↔ r ∈ o := by
    rw [List.mem_cons]
    exact ⟨fun h => h.resolve_left (fun h => e h.symm), .inr⟩
   have hg : (if k + 4 < S then l else l.set x (M + (k + 4 - S))).getD r 0 = l.getD r 0 := by
    by_cases h : k + 4 < S
    ·rw [if_pos h]
    ·rw [if_neg h, gJ _ _ _ _ hxl, if_neg e]
   rw [hg]
   by_cases h : r ∈ o ∧ ¬ k + 1 + ix o r + 4 < S
   ·rw [if_pos h, if_pos ⟨hm.2 h.1, by omega⟩]; omega
   ·rw [if_neg h, if_neg (fun h2 => h ⟨hm.1 h2.1, by omega⟩)]
def kO (R S M : Nat) (o : List Nat) : LY := ⟨jY S o 0 (List.replicate R 0), jZ S M o 0 (List.replicate R 0), M⟩
theorem aIq {R S M : Nat} {o : List Nat} (ho : o.Perm (List.range R)) (hS : 6 ≤ S) (hR : S ≤ R) (hN : M + (R + 4 - S) ≤ 65536) : (kO R S M o).Ok R S (M + (R + 4 - S)) := by
 have hlen : o.length = R := by rw [ho.length_eq, List.length_range]
 have hnd : o.Nodup := ho.nodup_iff.2 List.nodup_range
 have hmem : ∀ r, r < R → r ∈ o := fun r hr => ho.mem_iff.2 (List.mem_range.2 hr)
 have hlt : ∀ x ∈ o, x < (List.replicate R 0).length := fun x hx => by
  rw [List.length_replicate]; exact List.mem_range.1 (ho.mem_iff.1 hx)
 have gs : ∀ r, r < R → (kO R S M o).slot.getD r 0 = if ix o r + 4 < S then 4 + ix o r else 0 := fun r hr => by
  show (jY S o 0 (List.replicate R 0)).getD r 0 = _
  rw [zW S r o 0 _ hnd hlt, mD, Nat.zero_add]
  by_cases h : ix o r + 4 < S
  ·rw [if_pos h, if_pos ⟨hmem r hr, h⟩]
  ·rw [if_neg h, if_neg (fun h2 => h h2.2)]
 have gw : ∀ r, r < R → (kO R S M o).word.getD r 0 = if ix o r + 4 < S then 0 else M + (ix o r + 4 - S) := fun r hr => by
  show (jZ S M o 0 (List.replicate R 0)).getD r 0 = _
  rw [zY S M r o 0 _ hnd hlt, mD, Nat.zero_add]
  by_cases h : ix o r + 4 < S
  ·rw [if_pos h, if_neg (fun h2 => h2.2 h)]
  ·rw [if_neg h, if_pos ⟨hmem r hr, h⟩]
 have hix : ∀ r, r < R → ix o r < R := fun r hr => by
  have := aJg (hmem r hr)
  rwa [hlen] at this
 refine ⟨hS, hN, (by show M ≤ M + (R + 4 - S); omega), fun r hr h => ?_, fun r hr h => ?_, fun r t hr ht hne h => ?_, fun r t hr ht hne h h2 => ?_⟩
 ·rw [gs r hr] at h ⊢
  by_cases e : ix o r + 4 < S
  ·rw [if_pos e] at h ⊢; omega
  ·rw [if_neg e] at h; exact absurd rfl h
 ·rw [gs r hr] at h
  rw [gw r hr]
  have := hix r hr
  by_cases e : ix o r + 4 < S
  ·rw [if_pos e] at h; omega
  ·rw [if_neg e]
   show M ≤ _ ∧ _
   omega
 ·rw [gs r hr] at h ⊢
  rw [gs t ht]
  by_cases e : ix o r + 4 < S
  ·rw [if_pos e] at h ⊢
   by_cases e2 : ix o t + 4 < S
   ·rw [if_pos e2]
    intro he
    exact hne (aDH (hmem r hr) (hmem t ht) (by omega))
   ·rw [if_neg e2]; omega
  ·rw [if_neg e] at h; exact absurd rfl h
 ·rw [gs r hr] at h
  rw [gs t ht] at h2
  rw [gw r hr, gw t ht]
  by_cases e : ix o r + 4 < S
  ·rw [if_pos e] at h; omega
  ·by_cases e2 : ix o t + 4 < S
   ·rw [if_pos e2] at h2; omega
   ·rw [if_neg e, if_neg e2]
    intro he
    exact hne (aDH (hmem r hr) (hmem t ht) (by omega))
def jJ (us : List Int) : List AV := us.map fun u => I6 u
theorem zB (us : List Int) : (jJ us).length = us.length := by simp [jJ]
theorem rY (n : Nat) (l : List Int) : cI n (jJ l) = true := jP n _ (fun _ => rfl) l
theorem aFw (us : List Int) (j : Nat) (x : Int) : (jJ us).set j (I6 x) = jJ (us.set j x) := by unfold jJ; rw [List.map_set]
theorem zA (us : List Int) (j : Nat) (h : j < us.length) : (jJ us)[j]? = some (I6 (us.getD j 0)) := by
 unfold jJ
 rw [List.getElem?_map, List.getElem?_eq_getElem h, List.getD_eq_getElem?_getD, List.getElem?_eq_getElem h]; rfl
section
variable (bor : Bool) (ws : List WI) (R M S : Nat)
abbrev k0 : ABlk := ⟨27, 3, [cV bor ws R M]⟩
abbrev k1 : ABlk := ⟨27, 3, [.agg [.nils, .int .i64 0, .int .i64 0]]⟩
abbrev k2 : ABlk := ⟨86, 7, [.agg [.ro bor (cJ ws), Nn R, Nn M, .nils, .nils, .nils, .nils]]⟩
abbrev k4 : ABlk := ⟨49, 1, [.sl 3 R 0 R 1]⟩
def hpK : aB := [k0 bor ws R M, k1, k2 bor ws R M]
def nC (us : List Int) (T : aB) : aB := k0 bor ws R M :: k1 :: k2 bor ws R M :: ⟨3, 1, jJ us⟩ :: k4 R :: T
theorem tF (us : List Int) (T : aB) (hT : Pl T) (n : Nat) (hn : 5 ≤ n) : dI n (nC bor ws R M us T) = true := by
 have h3 : decide (3 < n) = true := decide_eq_true (by omega)
 simp only [nC, cV, dI, cI, cB, fY, rY, hT n, h3, Bool.and_self]
theorem vF (us : List Int) (T X : aB) (hT : Pl T) (xs : List AV) (hx : cI (T.length + 5) xs = true) : fN (T.length + 5) xs (nC bor ws R M us (T ++ X)) = some (nC bor ws R M us T) := by
 have e : (nC bor ws R M us (T ++ X)).take (T.length + 5) = nC bor ws R M us T := by
  unfold nC
  simp only [List.take_succ_cons]
  rw [List.take_append_of_le_length (Nat.le_refl _), List.take_length]
 unfold fN
 rw [e, hx, tF bor ws R M us T hT _ (by omega)]; rfl
variable (G : aF) (k : Nat) (self : cE)
theorem aKX (us : List Int) (T : aB) : aE G false 1 (.ptr 4 1 0 0) (nC bor ws R M us T) = some (.sl 3 R 0 R 1) := rfl
theorem ldU (us : List Int) (T : aB) (hu : us.length = R) (r : Nat) (hr : r < R) : aE G false 1 (.ptr 3 R r 0) (nC bor ws R M us T) = some (I6 (us.getD r 0)) := by
 have e : (nC bor ws R M us T)[3]? = some ⟨3, 1, jJ us⟩ := rfl
 unfold aE
 simp only [e, zB, hu, if_true, zA us r (by omega)]
 rfl
theorem stU (us : List Int) (T : aB) (hu : us.length = R) (r : Nat) (hr : r < R) (x : Int) : fM (aV 1 (.ptr 3 R r 0) (I6 x) (nC bor ws R M us T)) = some (.tup [], nC bor ws R M (us.set r x) T) := by
 have e : (nC bor ws R M us T)[3]? = some ⟨3, 1, jJ us⟩ := rfl
 have e1 : aV 1 (.ptr 3 R r 0) (I6 x) (nC bor ws R M us T) = some (nC bor ws R M (us.set r x) T) := by
  unfold aV
  simp only [e, zB, hu]
  rw [if_pos ⟨trivial, rfl, rfl⟩]
  simp only [zA us r (by omega)]
  rw [if_pos (by show 0 + 1 ≤ 1; omega)]
  have : lL (I6 (us.getD r 0)) (kA (I6 (us.getD r 0)).cells 0 (I6 x).cells) = I6 x := rfl
  rw [this, aFw]; rfl
 rw [e1]; rfl
theorem zK (b n : Nat) {r : Nat} (h : r < n) : aM 1 (.sl b n 0 n 1) (Nn r) = some (.ptr b n r 0) := by
 rw [sL (by omega) (by omega), Nat.zero_add, Int.toNat_natCast]
theorem aKr (L : List Nat) (j : Nat) (hj : j < L.length) : aM 1 (.ro false (eG L)) (Nn j) = some (.rp false (Nn (L.getD j 0)) 0) := tH (jF L j hj) rfl
theorem aJX (n : Nat) (H : aB) : aE G false 1 (.rp false (Nn n) 0) H = some (Nn n) := rfl
def aDm (w : WI) (L : List Nat) (j t : Nat) : List AV := [BX, Nn S, .ptr 4 1 0 0, .ptr 5 1 0 0, .ro bor (cJ ws), Nn ws.length, Nn j, .ro false (eG L), Nn L.length, Nn t]
theorem xQ (w : WI) (L : List Nat) (j t : Nat) : cI 6 (aDm bor ws S w L j t) = true := by simp [aDm, BX, cI, cB, fY, jV]
theorem l6K (w : WI) (L : List Nat) (hL : ∀ x ∈ L, x < R) (hl : L.length ≤ 1000) (j : Nat) : ∀ (d t f : Nat) (us : List Int), t + d = L.length → us.length = R → d < f →
  ∃ us' : List Int, dK (aS.l6 G k 6 self) f (aDm bor ws S w L j t) (nC bor ws R M us [⟨29, 6, [w.v]⟩]) = some (.exit 2, aDm bor ws S w L j L.length, nC bor ws R M us' [⟨29, 6, [w.v]⟩]) ∧ us'.length = R
 | d, t, 0, us, _, _, h => by omega
 | 0, t, f + 1, us, hd, hu, hf => by
  have ht : t = L.length := by omega
  subst ht
  have hc : fN 6 (aDm bor ws S w L j L.length) (nC bor ws R M us [⟨29, 6, [w.v]⟩]) = some (nC bor ws R M us [⟨29, 6, [w.v]⟩]) := vF bor ws R M us [⟨29, 6, [w.v]⟩] [] (yH w) _ (xQ bor ws S w L j _)
  have g1 : aX Tryd.prog .lss 3 false (Nn L.length) (Nn L.length) = some (.bool false) := gI (by omega)
  refine ⟨us, ?_, hu⟩
  rw [bB, aS.l6]
  refine fV ?_
  refine eC hc ?_
  unfold aDm
  have fx := g1
  refine gT ?_
  refine gA ?_; rfl
 | d + 1, t, f + 1, us, hd, hu, hf => by
  have hc : fN 6 (aDm bor ws S w L j t) (nC bor ws R M us [⟨29, 6, [w.v]⟩]) = some (nC bor ws R M us [⟨29, 6, [w.v]⟩]) := vF bor ws R M us [⟨29, 6, [w.v]⟩] [] (yH w) _ (xQ bor ws S w L j _)
  have g1 : aX Tryd.prog .lss 3 false (Nn t) (Nn L.length) = some (.bool true) := gN (by omega)
  have q2 : aX Tryd.prog .add 3 true (Nn t) (.int .i64 1) = some (Nn (t + 1 : Nat)) := mG (by omega)
  have hr : L.getD t 0 < R := kX hL (by omega)
  have d1 := aKr L t (by omega)
  have l1 := aJX G (L.getD t 0)
  have l0 := aKX bor ws R M G us [⟨29, 6, [w.v]⟩]
  have d2 := zK 3 R hr
  have l2 := ldU bor ws R M G us [⟨29, 6, [w.v]⟩] hu (L.getD t 0) hr
  have q3 : aX Tryd.prog .add 3 true (I6 (us.getD (L.getD t 0) 0)) (.int .i64 1) = some (I6 (IntKind.i64.wrap (us.getD (L.getD t 0) 0 + 1))) := gR _ _ _ _ _ _
  have s1 := stU bor ws R M us [⟨29, 6, [w.v]⟩] hu (L.getD t 0) hr (IntKind.i64.wrap (us.getD (L.getD t 0) 0 + 1))
  obtain ⟨us', w', hu'⟩ := l6K w L hL hl j d (t + 1) f (us.set (L.getD t 0) (IntKind.i64.wrap (us.getD (L.getD t 0) 0 + 1))) (by omega) (by rw [List.length_set]; exact hu) (by omega)
  refine ⟨us', ?_, hu'⟩
  rw [bB, aS.l6]
  refine fV ?_
  refine eC hc ?_
  clear hr hL
  unfold aDm at w' ⊢
  generalize us.set (L.getD t 0) (IntKind.i64.wrap (us.getD (L.getD t 0) 0 + 1)) = us1 at *
  generalize IntKind.i64.wrap (us.getD (L.getD t 0) 0 + 1) = z1 at *
  generalize us.getD (L.getD t 0) 0 = z0 at *
  generalize L.getD t 0 = r at *
  have fx := aMv g1 <| aMv q2 <| aMv d1 <| aMv l1 <| aMv l0 <| aMv d2 <| aMv l2 <| aMv q3 <| s1
  refine gT ?_
  exact w'
def aBI (j : Nat) : List AV := [BX, Nn S, .ptr 4 1 0 0, .ro bor (cJ ws), Nn ws.length, Nn j]
theorem xO (j : Nat) : cI 5 (aBI bor ws S j) = true := by simp [aBI, BX, cI, cB, fY]
theorem l3K (hw : ∀ w ∈ ws, w.Good R ws.length) (hn : ws.length ≤ 10000) (hk : 10 ≤ k) : ∀ (d j f : Nat) (us : List Int) (X : aB), j + d = ws.length → us.length = R → d < f →
  ∃ us' : List Int, dK (aS.l3 G (k + 29) 5 self) f (aBI bor ws S j) (nC bor ws R M us X) = some (.exit 0, aBI bor ws S ws.length, nC bor ws R M us' []) ∧ us'.length = R
 | d, j, 0, us, X, _, _, h => by omega
 | 0, j, f + 1, us, X, hd, hu, hf => by
  have hj : j = ws.length := by omega
  subst hj
  have hc : fN 5 (aBI bor ws S ws.length) (nC bor ws R M us X) = some (nC bor ws R M us []) := vF bor ws R M us [] X (fun _ => rfl) _ (xO bor ws S _)
  have g1 : aX Tryd.prog .lss 3 false (Nn ws.length) (Nn ws.length) = some (.bool false) := gI (by omega)
  refine ⟨us, ?_, hu⟩
  rw [bB, aS.l3]
  refine fV ?_
  refine eC hc ?_
  unfold aBI
  have fx := g1
  refine gT ?_
  refine gA ?_; rfl
 | d + 1, j, f + 1, us, X, hd, hu, hf => by
  have hc : fN 5 (aBI bor ws S j) (nC bor ws R M us X) = some (nC bor ws R M us []) := vF bor ws R M us [] X (fun _ => rfl) _ (xO bor ws S _)
  have g1 : aX Tryd.prog .lss 3 false (Nn j) (Nn ws.length) = some (.bool true) := gN (by omega)
  have q2 : aX Tryd.prog .add 3 true (Nn j) (.int .i64 1) = some (Nn (j + 1 : Nat)) := mG (by omega)
  obtain ⟨w, hwj⟩ : ∃ w, ws.getD j default = w := ⟨_, rfl⟩
  have hmem : w ∈ ws := by
   rw [← hwj, List.getD_eq_getElem?_getD, List.getElem?_eq_getElem (by omega)]; exact List.getElem_mem _
  have hg := hw w hmem
  have d1 := aCv bor ws j (by omega)
  rw [hwj] at d1
  have d2 : ∀ H, aE G true 6 (.rp bor w.v 0) H = some w.v := fun H => rfl
  have b1 : fR 29 (.agg [(.int .i64 0), (.int .i64 0), (.int .i64 0), (.int .i64 0), (.int .i64 0), (.int .i64 0)]) (nC bor ws R M us []) = some (.ptr 5 1 0 0, nC bor ws R M us [⟨29, 6, [.agg [(.int .i64 0), (.int .i64 0), (.int .i64 0), (.int .i64 0), (.int .i64 0), (.int .i64 0)]]⟩]) := rfl
  have b2 : fM (aV 6 (.ptr 5 1 0 0) w.v (nC bor ws R M us [⟨29, 6, [.agg [(.int .i64 0), (.int .i64 0), (.int .i64 0), (.int .i64 0), (.int .i64 0), (.int .i64 0)]]⟩])) = some (.tup [], nC bor ws R M us [⟨29, 6, [w.v]⟩]) := rfl
  have l6 : ∀ us, aE G true 6 (.ptr 5 1 0 0) (nC bor ws R M us [⟨29, 6, [w.v]⟩]) = some w.v := fun us => rfl
  obtain ⟨L, hL1, hL2, hL3⟩ := aDq G (k + 9) w hg (by omega)
  have r1 : ∀ H, aW (cW.f G (k + 29)) [w.v] H = _ := fun H => cG (H := H) hL1 rfl (by simp only [gO, aCF]; rfl)
  have ln : dD (.ro false (eG L)) = some (Nn L.length) := by simp [dD, gF]
  obtain ⟨us1, lp, hu1⟩ := l6K bor ws R M S G (k + 29) self w L hL2 (by omega) j L.length 0 (k + 29) us (by omega) hu (by omega)
  have r2 : ∀ H, aW (eF.f G (k + 29)) [w.v] H = some (.tup [I6 (if (dM w.op).d = true then w.d else 0), .bool (dM w.op).d], H) := fun H => cG (H := H) (aBM G (k + 23) w.op w.d w.a w.b w.c w.k []) rfl rfl
  have hd' : (dM w.op).d = true → 0 ≤ w.d ∧ w.d < R := fun e => by
   refine hg.ok2.ok.d ?_
   rcases yG hg.ok2.ok.op with h | h | h | h | h | h | h | h | h | h | h | h | h | h | h | h | h | h | h | h <;> rw [h] at e ⊢ <;> first | decide | (exact absurd e (by decide))
  have l6a := l6 us
  have l6b := l6 us1
  replace lp : dK (aS.l6 G (k + 29) (nC bor ws R M us [⟨29, 6, [w.v]⟩]).length self) (k + 29) [BX, Nn S, .ptr 4 1 0 0, .ptr 5 1 0 0, .ro bor (cJ ws), Nn ws.length, Nn j, .ro false (eG L), Nn L.length, .int .i64 0] (nC bor ws R M us [⟨29, 6, [w.v]⟩]) = some (.exit 2, [BX, Nn S, .ptr 4 1 0 0, .ptr 5 1 0 0, .ro bor (cJ ws), Nn ws.length, Nn j, .ro false (eG L), Nn L.length, Nn L.length], nC bor ws R M us1 [⟨29, 6, [w.v]⟩]) := lp
  cases hfd : (dM w.op).d with
  | true =>
   have hdr := hd' hfd
   rw [hfd] at r2
   simp only [if_true] at r2
   have en : I6 w.d = Nn w.d.toNat := by
    show AV.int .i64 w.d = .int .i64 (w.d.toNat : Int)
    rw [Int.toNat_of_nonneg hdr.1]
   rw [en] at r2
   have hr : w.d.toNat < R := by omega
   have l0 := aKX bor ws R M G us1 [⟨29, 6, [w.v]⟩]
   have d3 := zK 3 R hr
   have l2 := ldU bor ws R M G us1 [⟨29, 6, [w.v]⟩] hu1 w.d.toNat hr
   have q3 : aX Tryd.prog .add 3 true (I6 (us1.getD w.d.toNat 0)) (.int .i64 1) = some (I6 (IntKind.i64.wrap (us1.getD w.d.toNat 0 + 1))) := gR _ _ _ _ _ _
   have s1 := stU bor ws R M us1 [⟨29, 6, [w.v]⟩] hu1 w.d.toNat hr (IntKind.i64.wrap (us1.getD w.d.toNat 0 + 1))
   obtain ⟨us', w', hu'⟩ := l3K hw hn hk d (j + 1) f (us1.set w.d.toNat (IntKind.i64.wrap (us1.getD w.d.toNat 0 + 1))) [⟨29, 6, [w.v]⟩] (by omega) (by rw [List.length_set]; exact hu1) (by omega)
   refine ⟨us', ?_, hu'⟩
   rw [bB, aS.l3]
   refine fV ?_
   refine eC hc ?_
   clear hdr en hd' hr hg hmem hwj hL1 hL2 hL3 l6
   unfold aBI at w' ⊢
   generalize us1.set w.d.toNat (IntKind.i64.wrap (us1.getD w.d.toNat 0 + 1)) = us2 at *
   generalize IntKind.i64.wrap (us1.getD w.d.toNat 0 + 1) = z1 at *
   generalize us1.getD w.d.toNat 0 = z0 at *
   generalize w.v = wv at *
   generalize w.d.toNat = r at *
   have fx := aMv g1 <| aMv q2 <| aMv d1 <| aMv d2 <| aMv b1 <| aMv b2 <| aMv l6a <| aMv l6b <| aMv r1 <| aMv ln <| aMv r2 <| aMv l0 <| aMv d3 <| aMv l2 <| aMv q3 <| s1
   have lx1 := lp
   refine gT ?_
   exact w'
  | false =>
   rw [hfd] at r2
   simp only [Bool.false_eq_true, if_false] at r2
   obtain ⟨us', w', hu'⟩ := l3K hw hn hk d (j + 1) f us1 [⟨29, 6, [w.v]⟩] (by omega) hu1 (by omega)
   refine ⟨us', ?_, hu'⟩
   rw [bB, aS.l3]
   refine fV ?_
   refine eC hc ?_
   clear hd' hg hmem hwj hL1 hL2 hL3 l6
   unfold aBI at w' ⊢
   generalize w.v = wv at *
   have fx := aMv g1 <| aMv q2 <| aMv d1 <| aMv d2 <| aMv b1 <| aMv b2 <| aMv l6a <| aMv l6b <| aMv r1 <| aMv ln <| r2
   have lx1 := lp
   refine gT ?_
   exact w'
end
section
variable (bor : Bool) (ws : List WI) (R M S : Nat) (us : List Int)
def H5 : aB := nC bor ws R M us [⟨3, 1, []⟩]
theorem aLe (l : List Nat) : Pl [⟨3, 1, eG l⟩] := fun n => by simp [dI, jV]
theorem aKI (hu : us.length = R) : SH (H5 bor ws R M us) 5 4 3 R us :=
 ⟨by show 5 < 6; decide, by decide, by decide, rfl, rfl, hu, tF bor ws R M us [⟨3, 1, []⟩] (aLe []) 6 (by decide)⟩
theorem aFZ : SB (H5 bor ws R M us) 5 := ⟨by show 5 < 6; decide, tF bor ws R M us [⟨3, 1, []⟩] (aLe []) 6 (by decide)⟩
variable (G : aF) (k : Nat) (self : cE)
def uT (j : Nat) : List AV := [BX, Nn S, .ptr 4 1 0 0, .sl 5 R 0 R 1, Nn R, Nn j]
theorem uU (j : Nat) : cI 6 (uT R S j) = true := by simp [uT, BX, cI, cB]
theorem aKW (hR : R ≤ 10000) : ∀ (d j f : Nat) (l : List Nat), j + d = R → l.length = R → (∀ i, i < j → l.getD i 0 = i) → d < f →
  dK (aS.l16 G k 6 self) f (uT R S j) (SO (H5 bor ws R M us) 5 l) = some (.exit 4, uT R S R, SO (H5 bor ws R M us) 5 (List.range R))
 | d, j, 0, l, _, _, _, h => by omega
 | 0, j, f + 1, l, hd, hl, hi, hf => by
  have hj : j = R := by omega
  subst hj
  have hc : fN 6 (uT j S j) (SO (H5 bor ws j M us) 5 l) = some (SO (H5 bor ws j M us) 5 l) := gL (aFZ bor ws j M us).hb l _ (uU j S _)
  have g1 : aX Tryd.prog .lss 3 false (Nn j) (Nn j) = some (.bool false) := gI (by omega)
  have el : l = List.range j := by
   refine List.ext_getElem (by rw [hl, List.length_range]) fun i h1 h2 => ?_
   have := hi i (by omega)
   rw [List.getD_eq_getElem?_getD, List.getElem?_eq_getElem h1] at this
   rw [List.getElem_range]; exact this
  rw [← el]
  rw [bB, aS.l16]
  refine fV ?_
  refine eC hc ?_
  unfold uT
  clear hi el
  have fx := g1
  refine gT ?_
  refine gA ?_; rfl
 | d + 1, j, f + 1, l, hd, hl, hi, hf => by
  have hc : fN 6 (uT R S j) (SO (H5 bor ws R M us) 5 l) = some (SO (H5 bor ws R M us) 5 l) := gL (aFZ bor ws R M us).hb l _ (uU R S _)
  have g1 : aX Tryd.prog .lss 3 false (Nn j) (Nn R) = some (.bool true) := gN (by omega)
  have q2 : aX Tryd.prog .add 3 true (Nn j) (.int .i64 1) = some (Nn (j + 1 : Nat)) := mG (by omega)
  have d1 := zK 5 R (show j < R by omega)
  have s1 := vB (aFZ bor ws R M us) hl (i := j) (by omega) j
  have ih := aKW hR d (j + 1) f (l.set j j) (by omega) (by rw [List.length_set]; exact hl) (fun i h => by
   rw [gJ _ _ _ _ (by omega)]
   by_cases e : j = i
   ·rw [if_pos e]; exact e
   ·rw [if_neg e]; exact hi i (by omega)) (by omega)
  rw [bB, aS.l16]
  refine fV ?_
  refine eC hc ?_
  clear hi
  unfold uT at ih ⊢
  have fx := aMv g1 <| aMv q2 <| aMv d1 <| s1
  refine gT ?_
  exact ih
def tE (o sl wd : List Nat) : aB := [k0 bor ws R M, k1, ⟨86, 7, [.agg [.ro bor (cJ ws), Nn R, Nn M, .sl 6 R 0 R 1, .sl 7 R 0 R 1, .nils, .nils]]⟩, ⟨3, 1, jJ us⟩, k4 R, ⟨3, 1, eG o⟩, ⟨3, 1, eG sl⟩, ⟨3, 1, eG wd⟩]
theorem aEw (o sl wd : List Nat) (xs : List AV) (hx : cI 8 xs = true) : fN 8 xs (tE bor ws R M us o sl wd) = some (tE bor ws R M us o sl wd) := by
 have hb : dI 8 (tE bor ws R M us o sl wd) = true := by simp [tE, cV, dI, cI, cB, fY, rY, jV]
 unfold fN
 have e : (tE bor ws R M us o sl wd).take 8 = tE bor ws R M us o sl wd := rfl
 rw [e, hx, hb]; rfl
theorem aEA {H : aB} {b n : Nat} {l : List Nat} (hb : H[b]? = some ⟨3, 1, eG l⟩) (hl : l.length = n) {i : Nat} (h : i < n) : aE G false 1 (.ptr b n i 0) H = some (Nn (l.getD i 0)) := by
 unfold aE
 simp only [hb, gF, hl, if_true, jF l i (by omega)]
 rfl
theorem aEB {H : aB} {b n : Nat} {l : List Nat} (hb : H[b]? = some ⟨3, 1, eG l⟩) (hl : l.length = n) {i : Nat} (h : i < n) (x : Nat) : fM (aV 1 (.ptr b n i 0) (Nn x) H) = some (.tup [], H.set b ⟨3, 1, eG (l.set i x)⟩) := by
 have e : aV 1 (.ptr b n i 0) (Nn x) H = some (H.set b ⟨3, 1, eG (l.set i x)⟩) := by
  unfold aV
  simp only [hb, gF, hl]
  rw [if_pos ⟨trivial, rfl, rfl⟩]
  simp only [jF l i (by omega)]
  rw [if_pos (by show 0 + 1 ≤ 1; omega)]
  have : lL (Nn (l.getD i 0)) (kA (Nn (l.getD i 0)).cells 0 (Nn x).cells) = Nn x := rfl
  rw [this, tL]
 rw [e]; rfl
def oU (j : Nat) : List AV := [BX, Nn S, Nn (j + 4 - S), .sl 5 R 0 R 1, Nn R, Nn j]
theorem uV (j : Nat) : cI 8 (oU R S j) = true := by simp [oU, BX, cI, cB]
theorem aJU (hR : R ≤ 10000) (hM : M ≤ 70000) (hS : 6 ≤ S) (hSR : S ≤ R) (o : List Nat) (ho : o.length = R) (hx : ∀ x ∈ o, x < R) : ∀ (d j f : Nat) (sl wd : List Nat), j + d = R → sl.length = R → wd.length = R → d < f →
  dK (aS.l24 G k 8 self) f (oU R S j) (tE bor ws R M us o sl wd) = some (.exit 6, oU R S R, tE bor ws R M us o (jY S (o.drop j) j sl) (jZ S M (o.drop j) j wd))
 | d, j, 0, sl, wd, _, _, _, h => by omega
 | 0, j, f + 1, sl, wd, hd, hs, hw, hf => by
  have hj : j = R := by omega
  subst hj
  have hc := aEw bor ws j M us o sl wd _ (uV j S j)
  have g1 : aX Tryd.prog .lss 3 false (Nn j) (Nn j) = some (.bool false) := gI (by omega)
  have e : o.drop j = [] := List.drop_of_length_le (by omega)
  rw [e]
  show _ = some (_, _, tE bor ws j M us o sl wd)
  rw [bB, aS.l24]
  refine fV ?_
  refine eC hc ?_
  unfold oU
  clear hx
  have fx := g1
  refine gT ?_
  refine gA ?_; rfl
 | d + 1, j, f + 1, sl, wd, hd, hs, hw, hf => by
  have hc := aEw bor ws R M us o sl wd _ (uV R S j)
  have g1 : aX Tryd.prog .lss 3 false (Nn j) (Nn R) = some (.bool true) := gN (by omega)
  have q2 : aX Tryd.prog .add 3 true (Nn j) (.int .i64 1) = some (Nn (j + 1 : Nat)) := mG (by omega)
  have d1 := zK 5 R (show j < R by omega)
  have l1 : aE G false 1 (.ptr 5 R j 0) (tE bor ws R M us o sl wd) = some (Nn (o.getD j 0)) := aEA G rfl ho (by omega)
  have hr : o.getD j 0 < R := kX hx (by omega)
  have hdrop : o.drop j = o.getD j 0 :: o.drop (j + 1) := by
   rw [List.getD_eq_getElem?_getD, List.getElem?_eq_getElem (by omega)]
   exact List.drop_eq_getElem_cons (by omega)
  rw [hdrop]
  have d2 := zK 6 R hr
  have d3 := zK 7 R hr
  have q3 : aX Tryd.prog .sub 3 true (Nn S) (.int .i64 4) = some (Nn (S - 4 : Nat)) := kG (b := 4) (by omega) (by omega)
  have ld3 : aE G false 1 (.ptr 2 1 0 3) (tE bor ws R M us o sl wd) = some (.sl 6 R 0 R 1) := rfl
  have ld4 : aE G false 1 (.ptr 2 1 0 4) (tE bor ws R M us o sl wd) = some (.sl 7 R 0 R 1) := rfl
  have ldM : aE G false 1 (.ptr 2 1 0 2) (tE bor ws R M us o sl wd) = some (Nn M) := rfl
  by_cases hjs : j + 4 < S
  ·have g2 : aX Tryd.prog .lss 3 false (Nn j) (Nn (S - 4 : Nat)) = some (.bool true) := gN (by omega)
   have q4 : aX Tryd.prog .add 3 true (.int .i64 4) (Nn j) = some (Nn (4 + j : Nat)) := nM (a := 4) (by omega)
   have s1 : fM (aV 1 (.ptr 6 R (o.getD j 0) 0) (Nn (4 + j)) (tE bor ws R M us o sl wd)) = some (.tup [], tE bor ws R M us o (sl.set (o.getD j 0) (4 + j)) wd) := aEB (b := 6) (H := tE bor ws R M us o sl wd) rfl hs hr (4 + j)
   have ih := aJU hR hM hS hSR o ho hx d (j + 1) f (sl.set (o.getD j 0) (4 + j)) wd (by omega) (by rw [List.length_set]; exact hs) hw (by omega)
   have e1 : jY S (o.getD j 0 :: o.drop (j + 1)) j sl = jY S (o.drop (j + 1)) (j + 1) (sl.set (o.getD j 0) (4 + j)) := by
    show jY S (o.drop (j + 1)) (j + 1) (if j + 4 < S then _ else _) = _
    rw [if_pos hjs]
   have e2 : jZ S M (o.getD j 0 :: o.drop (j + 1)) j wd = jZ S M (o.drop (j + 1)) (j + 1) wd := by
    show jZ S M (o.drop (j + 1)) (j + 1) (if j + 4 < S then _ else _) = _
    rw [if_pos hjs]
   rw [e1, e2]
   have em : oU R S (j + 1) = [BX, Nn S, Nn (j + 4 - S), .sl 5 R 0 R 1, Nn R, Nn (j + 1)] := by
    unfold oU
    rw [show j + 1 + 4 - S = j + 4 - S by omega]
   rw [em] at ih
   rw [bB, aS.l24]
   refine fV ?_
   refine eC hc ?_
   clear hx hr hdrop e1 e2 em hjs d3
   generalize jY S (o.drop (j + 1)) (j + 1) (sl.set (o.getD j 0) (4 + j)) = slE at *
   generalize sl.set (o.getD j 0) (4 + j) = sl1 at *
   generalize o.getD j 0 = r at *
   unfold oU at ih ⊢
   have fx := aMv iQ <| aMv af0 <| aMv af2 <| aMv af3 <| aMv af4 <| aMv g1 <| aMv q2 <| aMv d1 <| aMv l1 <| aMv d2 <| aMv q3 <| aMv ld3 <| aMv ld4 <| aMv ldM <| aMv g2 <| aMv q4 <| s1
   refine gT ?_
   exact ih
  ·have g2 : aX Tryd.prog .lss 3 false (Nn j) (Nn (S - 4 : Nat)) = some (.bool false) := gI (by omega)
   have q4 : aX Tryd.prog .add 3 false (Nn M) (Nn (j + 4 - S)) = some (Nn (M + (j + 4 - S) : Nat)) := nM (by omega)
   have q5 : aX Tryd.prog .add 3 true (Nn (j + 4 - S)) (.int .i64 1) = some (Nn (j + 4 - S + 1 : Nat)) := mG (by omega)
   have s1 : fM (aV 1 (.ptr 7 R (o.getD j 0) 0) (Nn (M + (j + 4 - S))) (tE bor ws R M us o sl wd)) = some (.tup [], tE bor ws R M us o sl (wd.set (o.getD j 0) (M + (j + 4 - S)))) := aEB (b := 7) (H := tE bor ws R M us o sl wd) rfl hw hr (M + (j + 4 - S))
   have ih := aJU hR hM hS hSR o ho hx d (j + 1) f sl (wd.set (o.getD j 0) (M + (j + 4 - S))) (by omega) hs (by rw [List.length_set]; exact hw) (by omega)
   have e1 : jY S (o.getD j 0 :: o.drop (j + 1)) j sl = jY S (o.drop (j + 1)) (j + 1) sl := by
    show jY S (o.drop (j + 1)) (j + 1) (if j + 4 < S then _ else _) = _
    rw [if_neg hjs]
   have e2 : jZ S M (o.getD j 0 :: o.drop (j + 1)) j wd = jZ S M (o.drop (j + 1)) (j + 1) (wd.set (o.getD j 0) (M + (j + 4 - S))) := by
    show jZ S M (o.drop (j + 1)) (j + 1) (if j + 4 < S then _ else _) = _
    rw [if_neg hjs]
   rw [e1, e2]
   have em : oU R S (j + 1) = [BX, Nn S, Nn (j + 4 - S + 1 : Nat), .sl 5 R 0 R 1, Nn R, Nn (j + 1)] := by
    unfold oU
    rw [show j + 1 + 4 - S = j + 4 - S + 1 by omega]
   rw [em] at ih
   rw [bB, aS.l24]
   refine fV ?_
   refine eC hc ?_
   clear hx hr hdrop e1 e2 em hjs d2
   generalize jZ S M (o.drop (j + 1)) (j + 1) (wd.set (o.getD j 0) (M + (j + 4 - S))) = wdE at *
   generalize wd.set (o.getD j 0) (M + (j + 4 - S)) = wd1 at *
   generalize o.getD j 0 = r at *
   unfold oU at ih ⊢
   generalize M + (j + 4 - S) = z at *
   have fx := aMv iQ <| aMv af0 <| aMv af2 <| aMv af3 <| aMv af4 <| aMv g1 <| aMv q2 <| aMv d1 <| aMv l1 <| aMv d3 <| aMv q3 <| aMv ld3 <| aMv ld4 <| aMv ldM <| aMv g2 <| aMv q4 <| aMv q5 <| s1
   refine gT ?_
   exact ih
end
section
variable (bor : Bool) (ws : List WI) (R M S : Nat) (G : aF) (k : Nat)
theorem aIu (H : aB) (hR : R ≤ 10000) : eW 3 1 (.int .i64 0) (Nn R) (Nn R) H = some (.sl H.length R 0 R 1, H ++ [⟨3, 1, List.replicate R (.int .i64 0)⟩]) := by
 unfold eW
 simp only [Int.toNat_natCast]
 rw [if_pos (by omega)]
theorem aHu : (List.replicate R (AV.int .i64 0)) = eG (List.replicate R 0) := by unfold eG; rw [List.map_replicate]; rfl
theorem aLk : (List.replicate R (AV.int .i64 0)) = jJ (List.replicate R 0) := by unfold jJ; rw [List.map_replicate]
theorem aFz (hw : ∀ w ∈ ws, w.Good R ws.length) (hn : ws.length ≤ 10000) (hR : R ≤ 1000) (hM : M ≤ 70000) (hS : 6 ≤ S) (hSR : S ≤ R) (hk : 10 ≤ k) (hkn : ws.length < k) (hkR : 2 * R < k) :
  ∃ (us : List Int) (o : List Nat), bD (aS.f G (k + 30)) [BX, Nn S] (hpK bor ws R M) = some (Nn (R + 4 - S), tE bor ws R M us o (jY S o 0 (List.replicate R 0)) (jZ S M o 0 (List.replicate R 0))) ∧ us.length = R ∧ o.Perm (List.range R) := by
 obtain ⟨us, lp3, hu⟩ := l3K bor ws R M S G k (aS.f G (k + 29)) hw hn hk ws.length 0 (k + 29) (List.replicate R 0) [] (by omega) (by simp) (by omega)
 have lp16 := aKW bor ws R M S us G (k + 29) (aS.f G (k + 29)) (by omega) R 0 (k + 29) (List.replicate R 0) (by omega) (by simp) (fun i h => by omega) (by omega)
 obtain ⟨o, so, pm⟩ := aFN G (k + 24) (aKI bor ws R M us hu) hR (by omega) (List.range R) (by simp) (fun x hx => List.mem_range.1 hx)
 have ho : o.length = R := by rw [pm.length_eq, List.length_range]
 have hox : ∀ x ∈ o, x < R := fun x hx => List.mem_range.1 (pm.subset hx)
 have lp24 := aJU bor ws R M S us G (k + 29) (aS.f G (k + 29)) (by omega) hM hS hSR o ho hox R 0 (k + 29) (List.replicate R 0) (List.replicate R 0) (by omega) (by simp) (by simp) (by omega)
 refine ⟨us, o, ?_, hu, pm⟩
 rw [List.drop_zero] at lp24
 refine pG ?_ (by show 3 ≤ 8; decide)
 rw [aS.step]
 unfold aS.c
 have af1 : aA 1 BX = some (.ptr 2 1 0 1) := rfl
 have ldR : aE G false 1 (.ptr 2 1 0 1) (hpK bor ws R M) = some (Nn R) := rfl
 have m1 : eW 3 1 (.int .i64 0) (Nn R) (Nn R) (hpK bor ws R M) = some (.sl 3 R 0 R 1, hpK bor ws R M ++ [⟨3, 1, jJ (List.replicate R 0)⟩]) := by rw [aIu R _ (by omega), aLk]; rfl
 have b1 : fR 49 .nils (hpK bor ws R M ++ [⟨3, 1, jJ (List.replicate R 0)⟩]) = some (.ptr 4 1 0 0, hpK bor ws R M ++ [⟨3, 1, jJ (List.replicate R 0)⟩] ++ [⟨49, 1, [.nils]⟩]) := rfl
 have s1 : fM (aV 1 (.ptr 4 1 0 0) (.sl 3 R 0 R 1) (hpK bor ws R M ++ [⟨3, 1, jJ (List.replicate R 0)⟩] ++ [⟨49, 1, [.nils]⟩])) = some (.tup [], nC bor ws R M (List.replicate R 0) []) := rfl
 have ldW : aE G false 1 BX (nC bor ws R M (List.replicate R 0) []) = some (.ro bor (cJ ws)) := rfl
 have lnW : dD (.ro bor (cJ ws)) = some (Nn ws.length) := by simp [dD, fP]
 replace lp3 : dK (aS.l3 G (k + 29) (nC bor ws R M (List.replicate R 0) []).length (aS.f G (k + 29))) (k + 29) [BX, Nn S, .ptr 4 1 0 0, .ro bor (cJ ws), Nn ws.length, .int .i64 0] (nC bor ws R M (List.replicate R 0) []) = some (.exit 0, [BX, Nn S, .ptr 4 1 0 0, .ro bor (cJ ws), Nn ws.length, Nn ws.length], nC bor ws R M us []) := lp3
 have ldR2 : aE G false 1 (.ptr 2 1 0 1) (nC bor ws R M us []) = some (Nn R) := rfl
 have m2 : eW 3 1 (.int .i64 0) (Nn R) (Nn R) (nC bor ws R M us []) = some (.sl 5 R 0 R 1, SO (H5 bor ws R M us) 5 (List.replicate R 0)) := by rw [aIu R _ (by omega), aHu]; rfl
 have lnO : dD (.sl 5 R 0 R 1) = some (Nn R) := rfl
 replace lp16 : dK (aS.l16 G (k + 29) (SO (H5 bor ws R M us) 5 (List.replicate R 0)).length (aS.f G (k + 29))) (k + 29) [BX, Nn S, .ptr 4 1 0 0, .sl 5 R 0 R 1, Nn R, .int .i64 0] (SO (H5 bor ws R M us) 5 (List.replicate R 0)) = some (.exit 4, [BX, Nn S, .ptr 4 1 0 0, .sl 5 R 0 R 1, Nn R, Nn R], SO (H5 bor ws R M us) 5 (List.range R)) := lp16
 replace so : bD (aQ.f G (k + 29)) [.sl 5 R 0 R 1, .fn 74 [.ptr 4 1 0 0]] (SO (H5 bor ws R M us) 5 (List.range R)) = some (.tup [], SO (H5 bor ws R M us) 5 o) := so
 have ldR3 : aE G false 1 (.ptr 2 1 0 1) (SO (H5 bor ws R M us) 5 o) = some (Nn R) := rfl
 have m3 : eW 3 1 (.int .i64 0) (Nn R) (Nn R) (SO (H5 bor ws R M us) 5 o) = some (.sl 6 R 0 R 1, SO (H5 bor ws R M us) 5 o ++ [⟨3, 1, eG (List.replicate R 0)⟩]) := by rw [aIu R _ (by omega), aHu]; rfl
 have ldR4 : aE G false 1 (.ptr 2 1 0 1) (SO (H5 bor ws R M us) 5 o ++ [⟨3, 1, eG (List.replicate R 0)⟩]) = some (Nn R) := rfl
 have m4 : eW 3 1 (.int .i64 0) (Nn R) (Nn R) (SO (H5 bor ws R M us) 5 o ++ [⟨3, 1, eG (List.replicate R 0)⟩]) = some (.sl 7 R 0 R 1, SO (H5 bor ws R M us) 5 o ++ [⟨3, 1, eG (List.replicate R 0)⟩] ++ [⟨3, 1, eG (List.replicate R 0)⟩]) := by rw [aIu R _ (by omega), aHu]; rfl
 have s2 : fM (aV 1 (.ptr 2 1 0 3) (.sl 6 R 0 R 1) (SO (H5 bor ws R M us) 5 o ++ [⟨3, 1, eG (List.replicate R 0)⟩] ++ [⟨3, 1, eG (List.replicate R 0)⟩])) = some (.tup [], (SO (H5 bor ws R M us) 5 o ++ ([⟨3, 1, eG (List.replicate R 0)⟩] : aB) ++ ([⟨3, 1, eG (List.replicate R 0)⟩] : aB)).set 2 ⟨86, 7, [.agg [.ro bor (cJ ws), Nn R, Nn M, .sl 6 R 0 R 1, .nils, .nils, .nils]]⟩) := rfl
 have s3 : fM (aV 1 (.ptr 2 1 0 4) (.sl 7 R 0 R 1) ((SO (H5 bor ws R M us) 5 o ++ ([⟨3, 1, eG (List.replicate R 0)⟩] : aB) ++ ([⟨3, 1, eG (List.replicate R 0)⟩] : aB)).set 2 ⟨86, 7, [.agg [.ro bor (cJ ws), Nn R, Nn M, .sl 6 R 0 R 1, .nils, .nils, .nils]]⟩)) = some (.tup [], tE bor ws R M us o (List.replicate R 0) (List.replicate R 0)) := rfl
 replace lp24 : dK (aS.l24 G (k + 29) (tE bor ws R M us o (List.replicate R 0) (List.replicate R 0)).length (aS.f G (k + 29))) (k + 29) [BX, Nn S, .int .i64 0, .sl 5 R 0 R 1, Nn R, .int .i64 0] (tE bor ws R M us o (List.replicate R 0) (List.replicate R 0)) = some (.exit 6, [BX, Nn S, Nn (R + 4 - S), .sl 5 R 0 R 1, Nn R, Nn R], tE bor ws R M us o (jY S o 0 (List.replicate R 0)) (jZ S M o 0 (List.replicate R 0))) := by
  have e0 : Nn (0 + 4 - S) = .int .i64 0 := by rw [show 0 + 4 - S = 0 by omega]; rfl
  unfold oU at lp24
  rw [e0] at lp24
  exact lp24
 generalize jY S o 0 (List.replicate R 0) = slE at *
 generalize jZ S M o 0 (List.replicate R 0) = wdE at *
 clear hox
 generalize (SO (H5 bor ws R M us) 5 o ++ ([⟨3, 1, eG (List.replicate R 0)⟩] : aB) ++ ([⟨3, 1, eG (List.replicate R 0)⟩] : aB)).set 2 ⟨86, 7, [.agg [.ro bor (cJ ws), Nn R, Nn M, .sl 6 R 0 R 1, .nils, .nils, .nils]]⟩ = hm3 at *
 generalize SO (H5 bor ws R M us) 5 o ++ ([⟨3, 1, eG (List.replicate R 0)⟩] : aB) ++ ([⟨3, 1, eG (List.replicate R 0)⟩] : aB) = hm2 at *
 generalize SO (H5 bor ws R M us) 5 o ++ ([⟨3, 1, eG (List.replicate R 0)⟩] : aB) = hm1 at *
 generalize hpK bor ws R M ++ ([⟨3, 1, jJ (List.replicate R 0)⟩] : aB) ++ ([⟨49, 1, [.nils]⟩] : aB) = hn2 at *
 generalize hpK bor ws R M ++ ([⟨3, 1, jJ (List.replicate R 0)⟩] : aB) = hn1 at *
 refine gQ ?_
 have fx := aMv iQ <| aMv af0 <| aMv af1 <| aMv af2 <| aMv af3 <| aMv af4 <| aMv ldR <| aMv m1 <| aMv b1 <| aMv s1 <| aMv ldW <| aMv lnW <| aMv ldR2 <| aMv m2 <| aMv lnO <| aMv so <| aMv ldR3 <| aMv m3 <| aMv ldR4 <| aMv m4 <| aMv s2 <| s3
 have lx1 := lp3
 have lx2 := lp16
 have lx3 := lp24
 refine gT ?_
 refine gA ?_; rfl
end
def LS.mark (s : LS) : LS := { s with place := s.place ++ [s.out.length] }
def LS.run (L : LY) : List WI → LS → LS
 | [], s => s
 | w :: ws, s => LS.run L ws (s.mark.put (L.one w))
theorem aBk (L : LY) : ∀ (ws : List WI) (s : LS), LS.run L ws s = ⟨s.out ++ L.flat ws, s.place ++ L.pos s.out.length ws⟩
 | [], s => by simp [LS.run, LY.flat, LY.pos]
 | w :: ws, s => by
  show LS.run L ws (s.mark.put (L.one w)) = _
  rw [aBk L ws]
  simp [LY.flat, LY.pos, LS.mark, LS.put]
theorem aIF (L : LY) (ws : List WI) : (LS.run L ws ⟨[], []⟩).mark = ⟨L.flat ws, L.place ws⟩ := by
 rw [aBk]
 simp [LS.mark, LY.place]
theorem aEW (i x : WI) : ∀ (pre suf : List WI), (pre ++ i :: suf).set pre.length x = pre ++ x :: suf
 | [], suf => rfl
 | y :: pre, suf => by
  show y :: (pre ++ i :: suf).set pre.length x = _
  rw [aEW i x pre suf]; rfl
section
variable (A : AX) (G : aF) (k : Nat) (self : cE)
theorem aDL (i : WI) (pre suf : List WI) : (cJ (pre ++ i :: suf))[pre.length]? = some i.v := by
 unfold cJ
 rw [List.getElem?_map, List.getElem?_append_right (Nat.le_refl _)]; simp
theorem aKY (i : WI) (pre suf : List WI) (pl : List Nat) (T : aB) (N : Nat) (hN : (pre ++ i :: suf).length = N) : aE G false 1 (.ptr 8 N pre.length 0) (A.hp ⟨pre ++ i :: suf, pl⟩ T) = some (I6 i.op) := by
 have e : (A.hp ⟨pre ++ i :: suf, pl⟩ T)[8]? = some ⟨29, 6, cJ (pre ++ i :: suf)⟩ := rfl
 unfold aE
 simp only [e, fP, hN, if_true, aDL]
 rfl
theorem aLI (i : WI) (pre suf : List WI) (pl : List Nat) (T : aB) (N : Nat) (hN : (pre ++ i :: suf).length = N) : aE G false 1 (.ptr 8 N pre.length 5) (A.hp ⟨pre ++ i :: suf, pl⟩ T) = some (I6 i.k) := by
 have e : (A.hp ⟨pre ++ i :: suf, pl⟩ T)[8]? = some ⟨29, 6, cJ (pre ++ i :: suf)⟩ := rfl
 unfold aE
 simp only [e, fP, hN, if_true, aDL]
 rfl
theorem aLo (i : WI) (pre suf : List WI) (pl : List Nat) (T : aB) (N : Nat) (hN : (pre ++ i :: suf).length = N) (x : Int) : fM (aV 1 (.ptr 8 N pre.length 5) (I6 x) (A.hp ⟨pre ++ i :: suf, pl⟩ T)) = some (.tup [], A.hp ⟨pre ++ { i with k := x } :: suf, pl⟩ T) := by
 have e : (A.hp ⟨pre ++ i :: suf, pl⟩ T)[8]? = some ⟨29, 6, cJ (pre ++ i :: suf)⟩ := rfl
 have e3 : (cJ (pre ++ i :: suf)).set pre.length (WI.v { i with k := x }) = cJ (pre ++ { i with k := x } :: suf) := by
  unfold cJ
  rw [← List.map_set, aEW]
 have e4 : (pre ++ { i with k := x } :: suf).length = (pre ++ i :: suf).length := by simp
 have e5 : (A.hp ⟨pre ++ i :: suf, pl⟩ T).set 8 ⟨29, 6, cJ (pre ++ { i with k := x } :: suf)⟩ = A.hp ⟨pre ++ { i with k := x } :: suf, pl⟩ T := by
  unfold AX.hp AX.box
  simp only [e4]; rfl
 have e6 : aV 1 (.ptr 8 N pre.length 5) (I6 x) (A.hp ⟨pre ++ i :: suf, pl⟩ T) = some (A.hp ⟨pre ++ { i with k := x } :: suf, pl⟩ T) := by
  unfold aV
  simp only [e, fP, hN, aDL]
  rw [if_pos ⟨trivial, rfl, rfl⟩, if_pos (by show 5 + 1 ≤ 6; decide)]
  rw [← e5, ← e3]
  rfl
 rw [e6]; rfl
theorem aKZ (s : LS) (T : aB) (r : Int) (h : 0 ≤ r ∧ r < s.place.length) : aE G false 1 (.ptr 9 s.place.length r.toNat 0) (A.hp s T) = some (Nn (s.place.getD r.toNat 0)) := aEA G (H := A.hp s T) rfl rfl (by omega)
theorem aKU (b n : Nat) {r : Nat} (h : r < n) : aM 6 (.sl b n 0 n 6) (Nn r) = some (.ptr b n r 0) := by
 rw [sL (by omega) (by omega), Nat.zero_add, Int.toNat_natCast]
theorem aAD (op : Int) : brB op = true ↔ op = 17 ∨ op = 18 ∨ op = 19 := by unfold brB; simp [or_assoc]
def yK (N j : Nat) : List AV := [BX, Nn N, Nn j]
theorem xN (N j : Nat) : cI 10 (yK N j) = true := by simp [yK, BX, cI, cB]
theorem l2P (P : List Nat) (N : Nat) (hN : N ≤ 90000) : ∀ (suf pre : List WI) (f : Nat) (X : aB), pre.length + suf.length = N → (∀ i ∈ suf, brB i.op = true → i.k = -1 ∨ (0 ≤ i.k ∧ i.k < P.length)) → suf.length < f →
  dK (bC.l2 G (k + 1) 10 self) f (yK N pre.length) (A.hp ⟨pre ++ suf, P⟩ X) = some (.exit 0, yK N N, A.hp ⟨pre ++ suf.map (jS P N), P⟩ [])
 | suf, pre, 0, X, _, _, h => by omega
 | [], pre, f + 1, X, hl, hb, hf => by
  have hj : pre.length = N := by simpa using hl
  rw [hj]
  have hc : fN 10 (yK N N) (A.hp ⟨pre ++ [], P⟩ X) = some (A.hp ⟨pre ++ [], P⟩ []) := tG A _ [] X (fun _ => rfl) _ (xN N N)
  have g1 : aX Tryd.prog .lss 3 false (Nn N) (Nn N) = some (.bool false) := gI (by omega)
  rw [bB, bC.l2]
  refine fV ?_
  refine eC hc ?_
  unfold yK
  have fx := g1
  refine gT ?_
  refine gA ?_; rfl
 | i :: suf, pre, f + 1, X, hl, hb, hf => by
  simp only [List.length_cons] at hl hf
  have hN' : (pre ++ i :: suf).length = N := by rw [List.length_append, List.length_cons]; exact hl
  have hc : fN 10 (yK N pre.length) (A.hp ⟨pre ++ i :: suf, P⟩ X) = some (A.hp ⟨pre ++ i :: suf, P⟩ []) := tG A _ [] X (fun _ => rfl) _ (xN N _)
  have g1 : aX Tryd.prog .lss 3 false (Nn pre.length) (Nn N) = some (.bool true) := gN (by omega)
  have q2 : aX Tryd.prog .add 3 true (Nn pre.length) (.int .i64 1) = some (Nn (pre.length + 1 : Nat)) := mG (by omega)
  have l5 := al5 A ⟨pre ++ i :: suf, P⟩ [] G
  simp only [hN'] at l5
  have d1 := aKU 8 N (show pre.length < N by omega)
  have nl : fS (.ptr 8 N pre.length 0) = some (.ptr 8 N pre.length 0) := rfl
  have f0 : aA 0 (.ptr 8 N pre.length 0) = some (.ptr 8 N pre.length 0) := rfl
  have f5 : aA 5 (.ptr 8 N pre.length 0) = some (.ptr 8 N pre.length 5) := rfl
  have lo := aKY A G i pre suf P [] N hN'
  have lk := aLI A G i pre suf P [] N hN'
  have rb : ∀ H, aW (cY.f G (k + 1)) [I6 i.op] H = _ := fun H => cG (H := H) (xV G k i.op) rfl rfl
  have ih := l2P P N hN suf (pre ++ [jS P N i]) f [] (by simp; omega) (fun x hx => hb x (List.mem_cons_of_mem _ hx)) (by omega)
  have ea : pre ++ [jS P N i] ++ suf = pre ++ jS P N i :: suf := by simp
  have eb : (pre ++ [jS P N i]).length = pre.length + 1 := by simp
  have ec : pre ++ [jS P N i] ++ suf.map (jS P N) = pre ++ (i :: suf).map (jS P N) := by simp
  rw [ea, eb, ec] at ih
  generalize pre ++ (i :: suf).map (jS P N) = oE at *
  clear ea eb ec
  cases hbr : brB i.op with
  | false =>
   have hnb : ¬ (i.op = 17 ∨ i.op = 18 ∨ i.op = 19) := fun h => by rw [(aAD _).2 h] at hbr; cases hbr
   have ef : jS P N i = i := by unfold jS; rw [if_neg hnb]
   rw [ef] at ih
   rw [hbr] at rb
   rw [bB, bC.l2]
   refine fV ?_
   refine eC hc ?_
   clear hb hnb hbr
   unfold yK at ih ⊢
   generalize i.op = op at *
   have fx := aMv iQ <| aMv af5 <| aMv g1 <| aMv q2 <| aMv l5 <| aMv d1 <| aMv nl <| aMv f0 <| aMv lo <| rb
   refine gT ?_
   exact ih
  | true =>
   have hbb := (aAD _).1 hbr
   have hkk := hb i (List.mem_cons_self ..) hbr
   rw [hbr] at rb
   by_cases hf1 : i.k = -1
   ·have ef : jS P N i = { i with k := N } := by unfold jS; rw [if_pos hbb, if_pos hf1]
    rw [ef] at ih
    have g2 : aX Tryd.prog .eql 2 true (I6 i.k) (.int .i64 (-1)) = some (.bool true) := mX hf1
    have ln : dD (.sl 8 N 0 N 6) = some (Nn N) := rfl
    have s1 := aLo A i pre suf P [] N hN' N
    rw [bB, bC.l2]
    refine fV ?_
    refine eC hc ?_
    clear hb hbb hbr hkk hf1
    unfold yK at ih ⊢
    generalize i.op = op at *
    generalize i.k = ik at *
    have fx := aMv iQ <| aMv af5 <| aMv g1 <| aMv q2 <| aMv l5 <| aMv d1 <| aMv nl <| aMv f0 <| aMv f5 <| aMv lo <| aMv lk <| aMv rb <| aMv g2 <| aMv ln <| s1
    refine gT ?_
    exact ih
   ·have hk2 : 0 ≤ i.k ∧ i.k < P.length := by omega
    have ef : jS P N i = { i with k := (P.getD i.k.toNat 0 : Nat) } := by unfold jS; rw [if_pos hbb, if_neg hf1]
    rw [ef] at ih
    have g2 : aX Tryd.prog .eql 2 true (I6 i.k) (.int .i64 (-1)) = some (.bool false) := gV hf1
    have l6 := al6 A ⟨pre ++ i :: suf, P⟩ [] G
    have d2 := yL 9 P.length hk2
    have lp := aKZ A G ⟨pre ++ i :: suf, P⟩ [] i.k hk2
    simp only at l6 lp
    have s1 := aLo A i pre suf P [] N hN' (P.getD i.k.toNat 0 : Nat)
    rw [bB, bC.l2]
    refine fV ?_
    refine eC hc ?_
    clear hb hbb hbr hkk hf1 hk2
    unfold yK at ih ⊢
    generalize i.op = op at *
    generalize P.getD i.k.toNat 0 = y at *
    generalize i.k.toNat = kn at *
    generalize i.k = ik at *
    have fx := aMv iQ <| aMv af5 <| aMv af6 <| aMv g1 <| aMv q2 <| aMv l5 <| aMv d1 <| aMv nl <| aMv f0 <| aMv f5 <| aMv lo <| aMv lk <| aMv rb <| aMv g2 <| aMv l6 <| aMv d2 <| aMv lp <| s1
    refine gT ?_
    exact ih
theorem aGR (s : LS) (T : aB) (x : Nat) (hs : s.place.length ≤ 1000000) : fU 3 1 (.sl 9 s.place.length 0 s.place.length 1) (.ro false [Nn x]) (A.hp s T) = some (.sl 9 (s.place ++ [x]).length 0 (s.place ++ [x]).length 1, (A.hp s T).set 9 ⟨3, 1, eG (s.place ++ [x])⟩) := by
 have e : (A.hp s T)[9]? = some ⟨3, 1, eG s.place⟩ := rfl
 have e1 : iE (.ro false [Nn x]) (A.hp s T) = some [Nn x] := rfl
 unfold fU
 simp only [e, e1, gF]
 rw [if_pos (by refine ⟨?_, ?_, ?_, ?_, ?_⟩ <;> first | trivial | rfl | (show s.place.length + 1 ≤ _; omega))]
 have e2 : (eG s.place).take s.place.length = eG s.place := List.take_of_length_le (by rw [gF]; exact Nat.le_refl _)
 have e3 : (eG s.place).drop (s.place.length + [Nn x].length) = [] := List.drop_of_length_le (by rw [gF]; exact Nat.le_add_right _ _)
 have e4 : eG s.place ++ [Nn x] = eG (s.place ++ [x]) := by simp [eG]
 rw [e2, e3, List.append_nil, e4, gF]
 simp
theorem aCP (s : LS) (hs : s.out.length ≤ 80000) (hp : s.place.length ≤ 80000) (hk : s.out.length < k) (hb : ∀ i ∈ s.out, brB i.op = true → i.k = -1 ∨ (0 ≤ i.k ∧ i.k < s.mark.place.length)) :
  bD (bC.f G (k + 2)) [BX] (A.hp s []) = some (.tup [], A.hp ⟨s.out.map (jS s.mark.place s.out.length), s.mark.place⟩ []) := by
 apply kE
 rw [bC.step]
 unfold bC.c
 have l6 := al6 A s [] G
 have l5 := al5 A s [] G
 have ln : dD (.sl 8 s.out.length 0 s.out.length 6) = some (Nn s.out.length) := rfl
 have br : ∀ H, fQ 1 1 (.int .i64 0) [(0, Nn s.out.length)] H = some (.ro false [Nn s.out.length], H) := fun H => rfl
 have a1 := aGR A s [] s.out.length (by omega)
 have s1 : fM (aV 1 (.ptr 2 1 0 6) (.sl 9 (s.place ++ [s.out.length]).length 0 (s.place ++ [s.out.length]).length 1) ((A.hp s []).set 9 ⟨3, 1, eG (s.place ++ [s.out.length])⟩)) = some (.tup [], A.hp s.mark []) := rfl
 have l5' := al5 A s.mark [] G
 have lp := l2P A G k (bC.f G (k + 1)) s.mark.place s.out.length (by omega) s.out [] (k + 1) [] (by simp) hb (by omega)
 replace lp : dK (bC.l2 G (k + 1) (A.hp s.mark []).length (bC.f G (k + 1))) (k + 1) [BX, Nn s.out.length, .int .i64 0] (A.hp s.mark []) = some (.exit 0, [BX, Nn s.out.length, Nn s.out.length], A.hp ⟨s.out.map (jS s.mark.place s.out.length), s.mark.place⟩ []) := lp
 have fin := aCk A ⟨s.out.map (jS s.mark.place s.out.length), s.mark.place⟩ [] (fun _ => rfl)
 clear hb
 have em : s.mark.out = s.out := rfl
 rw [em] at l5'
 generalize (A.hp s []).set 9 ⟨3, 1, eG (s.place ++ [s.out.length])⟩ = hm at *
 generalize s.place ++ [s.out.length] = pl1 at *
 refine gQ ?_
 have fx := aMv iQ <| aMv af5 <| aMv af6 <| aMv l6 <| aMv l5 <| aMv l5' <| aMv ln <| aMv br <| aMv a1 <| s1
 have lx1 := lp
 refine gT ?_
 exact oF fin
def aBH (S more j : Nat) : List AV := [Nn S, .ptr 0 1 0 0, .ptr 1 1 0 0, BX, Nn more, .ro A.bor (cJ A.ws), Nn A.ws.length, Nn j]
theorem xM (S more j : Nat) : cI 10 (aBH A S more j) = true := by simp [aBH, BX, cI, cB, fY]
theorem aCz (hW : A.W) (hg : ∀ w ∈ A.ws, w.Good A.R A.ws.length) (hl : A.ws.length ≤ 10000) (S more : Nat) : ∀ (d j n : Nat) (s : LS) (X : aB), j + d = A.ws.length → d < n → s.out.length + 8 * d ≤ 100000 → s.place.length + d ≤ 100000 →
  dK (cF.l14 G (k + 10) 10 self) n (aBH A S more j) (A.hp s X) = some (.exit 0, aBH A S more A.ws.length, A.hp (LS.run A.L (A.ws.drop j) s) [])
 | d, j, 0, s, X, h, hf, _, _ => by omega
 | 0, j, n + 1, s, X, h, hf, _, _ => by
  have hj : j = A.ws.length := by omega
  subst hj
  have hc : fN 10 (aBH A S more A.ws.length) (A.hp s X) = some (A.hp s []) := tG A s [] X (fun _ => rfl) _ (xM A S more _)
  have g1 : aX Tryd.prog .lss 3 false (Nn A.ws.length) (Nn A.ws.length) = some (.bool false) := gI (by omega)
  rw [bB, cF.l14, List.drop_length]
  refine fV ?_
  refine eC hc ?_
  unfold aBH LS.run
  clear hg
  have fx := g1
  refine gT ?_
  refine gA ?_; rfl
 | d + 1, j, n + 1, s, X, h, hf, h1, h3 => by
  obtain ⟨w, hwj⟩ : ∃ w, A.ws.getD j default = w := ⟨_, rfl⟩
  have hmem : w ∈ A.ws := by
   rw [← hwj, List.getD_eq_getElem?_getD, List.getElem?_eq_getElem (by omega)]; exact List.getElem_mem _
  have hdrop : A.ws.drop j = w :: A.ws.drop (j + 1) := by
   rw [← hwj, List.getD_eq_getElem?_getD, List.getElem?_eq_getElem (by omega)]
   exact List.drop_eq_getElem_cons (by omega)
  have d1 := aCv A.bor A.ws j (by omega)
  rw [hwj] at d1
  have hln := aCK A.L w
  have hm1 : s.mark.out = s.out := rfl
  have hm3 : s.mark.place.length = s.place.length + 1 := by simp [LS.mark]
  have ih := aCz hW hg hl S more d (j + 1) n (s.mark.put (A.L.one w)) [⟨29, 6, [w.v]⟩] (by omega) (by omega) (by rw [iN, hm1]; omega) (by show s.mark.place.length + d ≤ _; rw [hm3]; omega)
  rw [hdrop]
  have er : LS.run A.L (w :: A.ws.drop (j + 1)) s = LS.run A.L (A.ws.drop (j + 1)) (s.mark.put (A.L.one w)) := rfl
  rw [er]
  generalize LS.run A.L (A.ws.drop (j + 1)) (s.mark.put (A.L.one w)) = sE at *
  have hc : fN 10 (aBH A S more j) (A.hp s X) = some (A.hp s []) := tG A s [] X (fun _ => rfl) _ (xM A S more _)
  have g1 : aX Tryd.prog .lss 3 false (Nn j) (Nn A.ws.length) = some (.bool true) := gN (by omega)
  have q2 : aX Tryd.prog .add 3 true (Nn j) (.int .i64 1) = some (Nn (j + 1 : Nat)) := mG (by omega)
  have d2 : ∀ H, aE G true 6 (.rp A.bor w.v 0) H = some w.v := fun H => rfl
  have b1 : fR 29 (.agg [(.int .i64 0), (.int .i64 0), (.int .i64 0), (.int .i64 0), (.int .i64 0), (.int .i64 0)]) (A.hp s []) = some (.ptr 10 1 0 0, A.hp s [⟨29, 6, [.agg [(.int .i64 0), (.int .i64 0), (.int .i64 0), (.int .i64 0), (.int .i64 0), (.int .i64 0)]]⟩]) := rfl
  have b2 : fM (aV 6 (.ptr 10 1 0 0) w.v (A.hp s [⟨29, 6, [.agg [(.int .i64 0), (.int .i64 0), (.int .i64 0), (.int .i64 0), (.int .i64 0), (.int .i64 0)]]⟩])) = some (.tup [], A.hp s [⟨29, 6, [w.v]⟩]) := rfl
  have l5 := al5 A s [⟨29, 6, [w.v]⟩] G
  have l6 := al6 A s [⟨29, 6, [w.v]⟩] G
  have ln : dD (.sl 8 s.out.length 0 s.out.length 6) = some (Nn s.out.length) := rfl
  have br : ∀ H, fQ 1 1 (.int .i64 0) [(0, Nn s.out.length)] H = some (.ro false [Nn s.out.length], H) := fun H => rfl
  have a1 := aGR A s [⟨29, 6, [w.v]⟩] s.out.length (by omega)
  have s1 : fM (aV 1 (.ptr 2 1 0 6) (.sl 9 (s.place ++ [s.out.length]).length 0 (s.place ++ [s.out.length]).length 1) ((A.hp s [⟨29, 6, [w.v]⟩]).set 9 ⟨3, 1, eG (s.place ++ [s.out.length])⟩)) = some (.tup [], A.hp s.mark [⟨29, 6, [w.v]⟩]) := rfl
  have lv : aE G true 6 (.ptr 10 1 0 0) (A.hp s.mark [⟨29, 6, [w.v]⟩]) = some w.v := rfl
  have o1 := aFG A s.mark G k hW w (hg w hmem) (by rw [hm1]; omega)
  rw [bB, cF.l14]
  refine fV ?_
  refine eC hc ?_
  clear hg hmem hdrop hwj er hm1 hm3
  unfold aBH at ih ⊢
  generalize (A.hp s [⟨29, 6, [w.v]⟩]).set 9 ⟨3, 1, eG (s.place ++ [s.out.length])⟩ = hm_ at *
  generalize s.place ++ [s.out.length] = pl1 at *
  generalize w.v = wv at *
  have fx := aMv iQ <| aMv af5 <| aMv af6 <| aMv g1 <| aMv q2 <| aMv d1 <| aMv d2 <| aMv b1 <| aMv b2 <| aMv l5 <| aMv l6 <| aMv ln <| aMv br <| aMv a1 <| aMv s1 <| aMv lv <| o1
  refine gT ?_
  exact ih
end
theorem aEC {v : VE} (h : v ≠ .ok) : aX Tryd.prog .neq 33 true (veV v) .nili = some (.bool true) := by
 cases v with
 | ok => exact absurd rfl h
 | bare e => kernel_rfl
 | at_ j e => kernel_rfl
abbrev zC : AV := .agg [.nils, .int .i64 0, .int .i64 0]
theorem aGr {x y z : AV} {H : aB} (h : rE H 0 6 (.tup [x, y]) = some z) : iB [some x, some y] 0 H = some (.ret, [z], []) := by
 have hc : fN 0 [] H = some [] := by
  unfold fN
  rw [List.take_zero]; rfl
 unfold iB pV cH oQ
 simp only [pV, h, hc]
theorem aBV {L : LY} {f : Bool} {v into : Int} {x : WI} (h : x ∈ L.rC f v into) : ¬ (x.op = 17 ∨ x.op = 18 ∨ x.op = 19) := by
 unfold LY.rC LY.rdC at h
 split at h
 ·split at h
  ·rw [List.mem_singleton.1 h]; simp
  ·cases h
 ·cases h
theorem aJc {L : LY} {v : Int} {x : WI} (h : x ∈ L.wrC v) : ¬ (x.op = 17 ∨ x.op = 18 ∨ x.op = 19) := by
 unfold LY.wrC at h
 split at h
 ·rw [List.mem_singleton.1 h]; simp
 ·cases h
theorem aJN {L : LY} {w x : WI} {R n : Nat} (hg : w.Good R n) (hx : x ∈ L.one w) (hb : x.op = 17 ∨ x.op = 18 ∨ x.op = 19) : x.k = -1 ∨ (0 ≤ x.k ∧ x.k ≤ n) := by
 have had : x ∈ L.adC w → x.k = -1 := fun h => by
  unfold LY.adC at h
  rcases List.mem_append.1 h with h | h
  ·exact absurd hb (aBV (f := true) (show x ∈ L.rC true w.a 1 from h))
  ·simp only [List.mem_cons, List.not_mem_nil, or_false] at h
   rcases h with rfl | rfl | rfl | rfl | rfl
   ·simp at hb
   ·simp at hb
   ·simp at hb
   ·simp at hb
   ·rfl
 unfold LY.one at hx
 split at hx
 ·rcases List.mem_append.1 hx with h | h
  ·exact .inl (had h)
  ·rcases List.mem_append.1 h with h | h
   ·rw [List.mem_singleton.1 h] at hb; simp at hb
   ·exact absurd hb (aJc h)
 ·split at hx
  ·rcases List.mem_append.1 hx with h | h
   ·exact .inl (had h)
   ·rcases List.mem_append.1 h with h | h
    ·exact absurd hb (aBV (f := true) (show x ∈ L.rC true w.b 1 from h))
    ·rw [List.mem_singleton.1 h] at hb; simp at hb
  ·rcases List.mem_append.1 hx with h | h
   ·unfold LY.rds at h
    rcases List.mem_append.1 h with h | h
    ·exact absurd hb (aBV h)
    ·rcases List.mem_append.1 h with h | h
     ·exact absurd hb (aBV h)
     ·exact absurd hb (aBV h)
   ·rcases List.mem_append.1 h with h | h
    ·rw [List.mem_singleton.1 h] at hb ⊢
     have hb' : w.op = 17 ∨ w.op = 18 ∨ w.op = 19 := hb
     exact .inr (hg.ok2.ok.k (by omega) (by omega))
    ·unfold LY.wrs at h
     split at h
     ·exact absurd hb (aJc h)
     ·cases h
section
variable (G : aF) (hg : GOk G) (k : Nat) (bor : Bool) (ws : List WI) (R M S : Nat)
theorem nE (r m : Int) : bV (cV bor ws r m) = true := by simp [bV, gC, aGT, cV]
include hg in
theorem aFe (r m s : Int) (hk : ws.length < k + 7) (hl : ws.length ≤ 1000000) (h : gS ws r m ≠ .ok) : cF.f G (k + 9) [cV bor ws r m, I6 s] [] = some (.tup [zC, veV (gS ws r m)], []) := by
 rw [cF.step]
 unfold cF.c
 have b0 : fR 27 (cV bor ws r m) [] = some (.ptr 0 1 0 0, [⟨27, 3, [cV bor ws r m]⟩]) := rfl
 have b1 : fR 27 zC [⟨27, 3, [cV bor ws r m]⟩] = some (.ptr 1 1 0 0, [⟨27, 3, [cV bor ws r m]⟩, ⟨27, 3, [zC]⟩]) := rfl
 have c1 : aE G true 3 (.ptr 0 1 0 0) [⟨27, 3, [cV bor ws r m]⟩, ⟨27, 3, [zC]⟩] = some (cV bor ws r m) := rfl
 have r1 : ∀ H, aW (cX.f G (k + 8)) [cV bor ws r m] H = _ := fun H => cG (H := H) (qT G hg k ws r m hk hl) (by simp [gC, nE]) (qG _)
 have q := aEC h
 have bs : cP [(0, 1), (1, 1), (2, 1)] [.nils, (.int .i64 0), (.int .i64 0)] [] = some zC := rfl
 have st : fM (aV 3 (.ptr 1 1 0 0) zC [⟨27, 3, [cV bor ws r m]⟩, ⟨27, 3, [zC]⟩]) = some (.tup [], [⟨27, 3, [cV bor ws r m]⟩, ⟨27, 3, [zC]⟩]) := rfl
 have fin : iB [aE G true 3 (.ptr 1 1 0 0) [⟨27, 3, [cV bor ws r m]⟩, ⟨27, 3, [zC]⟩], some (veV (gS ws r m))] 0 [⟨27, 3, [cV bor ws r m]⟩, ⟨27, 3, [zC]⟩] = some (.ret, [.tup [zC, veV (gS ws r m)]], []) := by
  show iB [some zC, some (veV (gS ws r m))] 0 _ = _
  refine aGr ?_
  exact mU (by simp [cB, cI, aIQ]) 6
 generalize gS ws r m = v at *
 generalize cV bor ws r m = C at *
 refine gQ ?_
 have fx := aMv b0 <| aMv b1 <| aMv c1 <| aMv r1 <| aMv q <| aMv bs <| st
 refine gT ?_
 exact oF fin
theorem aBK (H : aB) (hH : qJ H H = true) (hl : ws.length ≤ 1000000) : bD (aP.f G (k + 1)) [.ro bor (cJ ws)] H = some (.sl (H.length + 1) ws.length 0 ws.length 6, H ++ [⟨29, 6, []⟩, ⟨29, 6, cJ ws⟩]) := by
 refine pG ?_ (by simp)
 rw [aP.step]
 unfold aP.c
 have e1 : gX 29 6 0 (.agg [(.int .i64 0), (.int .i64 0), (.int .i64 0), (.int .i64 0), (.int .i64 0), (.int .i64 0)]) [] (H ++ [⟨29, 6, []⟩]) = some (.sl (H.length + 1) 0 0 0 6, H ++ [⟨29, 6, []⟩, ⟨29, 6, []⟩]) := by
  simp [gX, jH]
 have e2 : fU 29 6 (.sl (H.length + 1) 0 0 0 6) (.ro bor (cJ ws)) (H ++ [⟨29, 6, []⟩, ⟨29, 6, []⟩]) = some (.sl (H.length + 1) ws.length 0 ws.length 6, H ++ [⟨29, 6, []⟩, ⟨29, 6, cJ ws⟩]) := by
  have g : (H ++ [⟨29, 6, []⟩, ⟨29, 6, []⟩] : aB)[H.length + 1]? = some ⟨29, 6, []⟩ := by
   rw [List.getElem?_append_right (by omega)]; simp
  unfold fU
  simp only [g, iE, aAk, fP, List.length_nil, List.take_nil, List.nil_append, List.drop_nil, List.append_nil, Nat.zero_add]
  rw [if_pos (by refine ⟨?_, ?_, ?_, ?_, ?_⟩ <;> first | trivial | omega)]
  simp [List.set_append_right]
 refine gQ ?_
 cases ws with
 | nil =>
  have q : aX Tryd.prog .eql 25 true (.ro bor (cJ [])) .nils = some .anyb := by kernel_rfl
  have fx := q
  refine gT ?_
  have hh : qJ (H ++ [⟨29, 6, []⟩, ⟨29, 6, []⟩]) (H ++ [⟨29, 6, []⟩, ⟨29, 6, []⟩]) = true := aCf hH (by simp [qJ, nX])
  have e3 : (H ++ [⟨29, 6, []⟩] ++ [⟨29, 6, []⟩] : aB) = H ++ [⟨29, 6, []⟩, ⟨29, 6, []⟩] := by simp
  have e4 : (H ++ [⟨29, 6, []⟩] : aB).length = H.length + 1 := by simp
  have e5 : fU 29 6 (.sl (H.length + 1) 0 0 0 6) (.ro bor (cJ [])) (H ++ [⟨29, 6, []⟩, ⟨29, 6, []⟩]) = some (.sl (H.length + 1) 0 0 0 6, H ++ [⟨29, 6, []⟩, ⟨29, 6, []⟩]) := e2
  rw [e3, e4]
  refine aLF (e := .ret) (xs := [.sl (H.length + 1) 0 0 0 6]) rfl ?_ (by simp [nX, lF]) hh rfl
  refine fV ?_
  have fx := aMv e1 <| e5
  refine gT ?_
  rfl
 | cons a l =>
  have q : aX Tryd.prog .eql 25 true (.ro bor (cJ (a :: l))) .nils = some (.bool false) := by kernel_rfl
  have fx := aMv q <| aMv e1 <| e2
  refine gT ?_
  rfl
theorem eqW (l : List WI) : nX (cJ l) (cJ l) = true := aCd _ (fun _ => by simp [WI.v, lF, nX]) l
include hg in
theorem aFg (hk : ws.length < k + 7) (hl : ws.length ≤ 1000000) (h : gS ws R M = .ok) (hs : 6 ≤ S ∧ S ≤ 28) (hR : R ≤ S) : cF.f G (k + 9) [cV bor ws R M, Nn S] [] = some (.tup [cV false ws R M, .nili], []) := by
 rw [cF.step]
 unfold cF.c
 have b0 : fR 27 (cV bor ws R M) [] = some (.ptr 0 1 0 0, [⟨27, 3, [cV bor ws R M]⟩]) := rfl
 have b1 : fR 27 zC [⟨27, 3, [cV bor ws R M]⟩] = some (.ptr 1 1 0 0, [⟨27, 3, [cV bor ws R M]⟩, ⟨27, 3, [zC]⟩]) := rfl
 have c1 : aE G true 3 (.ptr 0 1 0 0) [⟨27, 3, [cV bor ws R M]⟩, ⟨27, 3, [zC]⟩] = some (cV bor ws R M) := rfl
 have r1 : ∀ H, aW (cX.f G (k + 8)) [cV bor ws R M] H = _ := fun H => cG (H := H) (qT G hg k ws R M hk hl) (by simp [gC, nE]) (qG _)
 rw [h] at r1
 have q : aX Tryd.prog .neq 33 true (veV .ok) .nili = some (.bool false) := by kernel_rfl
 have g1 : aX Tryd.prog .lss 3 true (Nn S) (.int .i64 6) = some (.bool false) := gI (by omega)
 have g2 : aX Tryd.prog .gtr 3 true (Nn S) (.int .i64 28) = some (.bool false) := kJ (by omega)
 have f1 : aA 1 (.ptr 0 1 0 0) = some (.ptr 0 1 0 1) := rfl
 have f0 : aA 0 (.ptr 0 1 0 0) = some (.ptr 0 1 0 0) := rfl
 have l1 : aE G false 1 (.ptr 0 1 0 1) [⟨27, 3, [cV bor ws R M]⟩, ⟨27, 3, [zC]⟩] = some (Nn R) := rfl
 have g3 : aX Tryd.prog .leq 3 false (Nn R) (Nn S) = some (.bool true) := aBb hR
 have l0 : aE G false 1 (.ptr 0 1 0 0) [⟨27, 3, [cV bor ws R M]⟩, ⟨27, 3, [zC]⟩] = some (.ro bor (cJ ws)) := rfl
 have cl : bD (aP.f G (k + 8)) [.ro bor (cJ ws)] [⟨27, 3, [cV bor ws R M]⟩, ⟨27, 3, [zC]⟩] = some (.sl 3 ws.length 0 ws.length 6, [⟨27, 3, [cV bor ws R M]⟩, ⟨27, 3, [zC]⟩] ++ [⟨29, 6, []⟩, ⟨29, 6, cJ ws⟩]) := aBK G (k + 7) bor ws [⟨27, 3, [cV bor ws R M]⟩, ⟨27, 3, [zC]⟩] (by simp [qJ, nX, lF, cV, eqW]) hl
 have s1 : fM (aV 1 (.ptr 0 1 0 0) (.sl 3 ws.length 0 ws.length 6) ([⟨27, 3, [cV bor ws R M]⟩, ⟨27, 3, [zC]⟩] ++ [⟨29, 6, []⟩, ⟨29, 6, cJ ws⟩])) = some (.tup [], [⟨27, 3, [.agg [.sl 3 ws.length 0 ws.length 6, Nn R, Nn M]]⟩, ⟨27, 3, [zC]⟩, ⟨29, 6, []⟩, ⟨29, 6, cJ ws⟩]) := rfl
 have c2 : aE G true 3 (.ptr 0 1 0 0) [⟨27, 3, [.agg [.sl 3 ws.length 0 ws.length 6, Nn R, Nn M]]⟩, ⟨27, 3, [zC]⟩, ⟨29, 6, []⟩, ⟨29, 6, cJ ws⟩] = some (.agg [.sl 3 ws.length 0 ws.length 6, Nn R, Nn M]) := rfl
 have s2 : fM (aV 3 (.ptr 1 1 0 0) (.agg [.sl 3 ws.length 0 ws.length 6, Nn R, Nn M]) [⟨27, 3, [.agg [.sl 3 ws.length 0 ws.length 6, Nn R, Nn M]]⟩, ⟨27, 3, [zC]⟩, ⟨29, 6, []⟩, ⟨29, 6, cJ ws⟩]) = some (.tup [], [⟨27, 3, [.agg [.sl 3 ws.length 0 ws.length 6, Nn R, Nn M]]⟩, ⟨27, 3, [.agg [.sl 3 ws.length 0 ws.length 6, Nn R, Nn M]]⟩, ⟨29, 6, []⟩, ⟨29, 6, cJ ws⟩]) := rfl
 have fin : iB [aE G true 3 (.ptr 1 1 0 0) [⟨27, 3, [.agg [.sl 3 ws.length 0 ws.length 6, Nn R, Nn M]]⟩, ⟨27, 3, [.agg [.sl 3 ws.length 0 ws.length 6, Nn R, Nn M]]⟩, ⟨29, 6, []⟩, ⟨29, 6, cJ ws⟩], some .nili] 0 [⟨27, 3, [.agg [.sl 3 ws.length 0 ws.length 6, Nn R, Nn M]]⟩, ⟨27, 3, [.agg [.sl 3 ws.length 0 ws.length 6, Nn R, Nn M]]⟩, ⟨29, 6, []⟩, ⟨29, 6, cJ ws⟩] = some (.ret, [.tup [cV false ws R M, .nili]], []) := by
  show iB [some (.agg [.sl 3 ws.length 0 ws.length 6, Nn R, Nn M]), some .nili] 0 _ = _
  refine aGr ?_
  refine aEv rfl (gW (aAO rfl (gW (tB (ty := 29) (xs := cJ ws) rfl (by omega) (fP ws) (aAk ws) (fY 0 ws)) (gW rfl (gW rfl pN)))) (gW rfl pN))
 clear h hk hl
 generalize veV .ok = E1 at *
 generalize hh1 : ([⟨27, 3, [.agg [.sl 3 ws.length 0 ws.length 6, Nn R, Nn M]]⟩, ⟨27, 3, [.agg [.sl 3 ws.length 0 ws.length 6, Nn R, Nn M]]⟩, ⟨29, 6, []⟩, ⟨29, 6, cJ ws⟩] : aB) = hA at *
 generalize hh2 : ([⟨27, 3, [.agg [.sl 3 ws.length 0 ws.length 6, Nn R, Nn M]]⟩, ⟨27, 3, [zC]⟩, ⟨29, 6, []⟩, ⟨29, 6, cJ ws⟩] : aB) = hB at *
 clear hh1 hh2
 refine gQ ?_
 have fx := aMv b0 <| aMv b1 <| aMv c1 <| aMv r1 <| aMv q <| aMv g1 <| aMv g2 <| aMv f1 <| aMv f0 <| aMv l1 <| aMv g3 <| aMv l0 <| aMv cl <| aMv s1 <| aMv c2 <| s2
 refine gT ?_
 exact oF fin
include hg in
theorem aDn (hl : ws.length ≤ 10000) (h : gS ws R M = .ok) (hs : 6 ≤ S ∧ S ≤ 28) (hR : S < R) (hR2 : R ≤ 1000) (hN : M + (R + 4 - S) ≤ 65536) (hk : 10 ≤ k) (hk1 : 8 * ws.length < k) (hk2 : 2 * R < k) :
  ∃ o : List Nat, o.Perm (List.range R) ∧ cF.f G (k + 40) [cV bor ws R M, Nn S] [] = some (.tup [cV false ((kO R S M o).out ws) (S : Int) ((M + (R + 4 - S) : Nat) : Int), .nili], []) := by
 have hgood := uQ h
 rw [Int.toNat_natCast] at hgood
 obtain ⟨us, o, kp, hu, pm⟩ := aFz bor ws R M S G (k + 9) hgood (by omega) hR2 (by omega) hs.1 (by omega) (by omega) (by omega) (by omega)
 refine ⟨o, pm, ?_⟩
 obtain ⟨A, hA⟩ : ∃ A : AX, A = ⟨bor, ws, R, kO R S M o, us, o⟩ := ⟨_, rfl⟩
 have hW : A.W := by
  rw [hA]
  exact ⟨by show (jY S o 0 (List.replicate R 0)).length = R; rw [zX]; simp, by show (jZ S M o 0 (List.replicate R 0)).length = R; rw [zZ]; simp⟩
 have aws : A.ws = ws := by rw [hA]
 have aR : A.R = R := by rw [hA]
 have aL : A.L = kO R S M o := by rw [hA]
 have abor : A.bor = bor := by rw [hA]
 have lp := aCz A G (k + 29) (cF.f G (k + 39)) hW (by rw [aws, aR]; exact hgood) (by rw [aws]; exact hl) S (R + 4 - S) ws.length 0 (k + 39) ⟨[], []⟩ [] (by rw [aws]; omega) (by omega) (by show 0 + 8 * ws.length ≤ _; omega) (by show 0 + ws.length ≤ _; omega)
 rw [List.drop_zero, aws, aL] at lp
 have hfl := qA (kO R S M o) ws
 have hrun := aBk (kO R S M o) ws ⟨[], []⟩
 simp only [List.nil_append, List.length_nil] at hrun
 have hmark := aIF (kO R S M o) ws
 rw [hrun] at lp hmark
 have hpos : ((kO R S M o).pos 0 ws).length = ws.length := aBf _ _ _
 have hplc := zQ (kO R S M o) ws
 have hpl : ((⟨(kO R S M o).flat ws, (kO R S M o).pos 0 ws⟩ : LS)).mark.place = (kO R S M o).place ws := by rw [hmark]
 have ps := aCP A G (k + 37) ⟨(kO R S M o).flat ws, (kO R S M o).pos 0 ws⟩ (by show (LY.flat _ ws).length ≤ _; omega) (by show (LY.pos _ 0 ws).length ≤ _; omega) (by show (LY.flat _ ws).length < _; omega) (fun i hi hb => by
  rw [hpl, hplc]
  obtain ⟨w, hw1, hw2⟩ := wL ws hi
  have := aJN (hgood w hw1) hw2 ((aAD _).1 hb)
  omega)
 rw [hpl] at ps
 obtain ⟨ot, hot⟩ : ∃ ot, (kO R S M o).out ws = ot := ⟨_, rfl⟩
 have hout : ((⟨(kO R S M o).flat ws, (kO R S M o).pos 0 ws⟩ : LS)).out.map (jS ((kO R S M o).place ws) ((⟨(kO R S M o).flat ws, (kO R S M o).pos 0 ws⟩ : LS)).out.length) = ot := hot
 rw [hout] at ps
 have hol : ot.length ≤ 80000 := by rw [← hot, oC]; omega
 rw [hot]
 obtain ⟨s1, hs1⟩ : ∃ s1 : LS, s1 = ⟨(kO R S M o).flat ws, (kO R S M o).pos 0 ws⟩ := ⟨_, rfl⟩
 rw [← hs1] at lp ps
 obtain ⟨s2, hs2⟩ : ∃ s2 : LS, s2 = ⟨ot, (kO R S M o).place ws⟩ := ⟨_, rfl⟩
 rw [← hs2] at ps
 have h2o : s2.out = ot := by rw [hs2]
 rw [cF.step]
 unfold cF.c
 have b0 : fR 27 (cV bor ws R M) [] = some (.ptr 0 1 0 0, [⟨27, 3, [cV bor ws R M]⟩]) := rfl
 have b1 : fR 27 zC [⟨27, 3, [cV bor ws R M]⟩] = some (.ptr 1 1 0 0, [⟨27, 3, [cV bor ws R M]⟩, ⟨27, 3, [zC]⟩]) := rfl
 have c1 : aE G true 3 (.ptr 0 1 0 0) [⟨27, 3, [cV bor ws R M]⟩, ⟨27, 3, [zC]⟩] = some (cV bor ws R M) := rfl
 have r1 : ∀ H, aW (cX.f G (k + 39)) [cV bor ws R M] H = _ := fun H => cG (H := H) (qT G hg (k + 31) ws R M (by omega) (by omega)) (by simp [gC, nE]) (qG _)
 rw [h] at r1
 have q : aX Tryd.prog .neq 33 true (veV .ok) .nili = some (.bool false) := by kernel_rfl
 have g1 : aX Tryd.prog .lss 3 true (Nn S) (.int .i64 6) = some (.bool false) := gI (by omega)
 have g2 : aX Tryd.prog .gtr 3 true (Nn S) (.int .i64 28) = some (.bool false) := kJ (by omega)
 have f0 : aA 0 (.ptr 0 1 0 0) = some (.ptr 0 1 0 0) := rfl
 have f1 : aA 1 (.ptr 0 1 0 0) = some (.ptr 0 1 0 1) := rfl
 have f2 : aA 2 (.ptr 0 1 0 0) = some (.ptr 0 1 0 2) := rfl
 have l1 : aE G false 1 (.ptr 0 1 0 1) [⟨27, 3, [cV bor ws R M]⟩, ⟨27, 3, [zC]⟩] = some (Nn R) := rfl
 have g3 : aX Tryd.prog .leq 3 false (Nn R) (Nn S) = some (.bool false) := aBa hR
 have bs : cP [(0, 3), (3, 1), (4, 1), (5, 1), (6, 1)] [.nils, (.int .i64 0), (.int .i64 0), .nils, .nils, .nils, .nils] [(0, cV bor ws R M)] = some (.agg [.ro bor (cJ ws), Nn R, Nn M, .nils, .nils, .nils, .nils]) := rfl
 have b2 : fR 86 (.agg [.ro bor (cJ ws), Nn R, Nn M, .nils, .nils, .nils, .nils]) [⟨27, 3, [cV bor ws R M]⟩, ⟨27, 3, [zC]⟩] = some (BX, hpK bor ws R M) := rfl
 obtain ⟨slE, hslE⟩ : ∃ l, jY S o 0 (List.replicate R 0) = l := ⟨_, rfl⟩
 obtain ⟨wdE, hwdE⟩ : ∃ l, jZ S M o 0 (List.replicate R 0) = l := ⟨_, rfl⟩
 rw [hslE, hwdE] at kp
 have lM : aE G false 1 (.ptr 0 1 0 2) (tE bor ws R M us o slE wdE) = some (Nn M) := rfl
 have a1 : aX Tryd.prog .add 3 false (Nn M) (Nn (R + 4 - S)) = some (Nn (M + (R + 4 - S) : Nat)) := nM (by omega)
 have g4 : aX Tryd.prog .gtr 3 true (Nn (M + (R + 4 - S))) (.int .i64 65536) = some (.bool false) := kJ (by omega)
 have l0 : aE G false 1 (.ptr 0 1 0 0) (tE bor ws R M us o slE wdE) = some (.ro bor (cJ ws)) := rfl
 have lw : dD (.ro bor (cJ ws)) = some (Nn ws.length) := by simp [dD, fP]
 obtain ⟨hv, hhv⟩ : ∃ hv : aB, hv = [k0 bor ws R M, k1, ⟨86, 7, [.agg [.ro bor (cJ ws), Nn R, Nn M, .sl 6 R 0 R 1, .sl 7 R 0 R 1, .sl 8 0 0 0 6, .nils]]⟩, ⟨3, 1, jJ us⟩, k4 R, ⟨3, 1, eG o⟩, ⟨3, 1, eG slE⟩, ⟨3, 1, eG wdE⟩, ⟨29, 6, []⟩] := ⟨_, rfl⟩
 have v1 : sS (BX, 5, 29, 6) (tE bor ws R M us o slE wdE) = hv := by rw [hhv]; rfl
 have v2 : sS (BX, 6, 3, 1) hv = A.hp ⟨[], []⟩ [] := by rw [hhv, hA, ← hslE, ← hwdE]; rfl
 have lo := al5 A s2 [] G
 have ln : dD (.sl 8 s2.out.length 0 s2.out.length 6) = some (Nn s2.out.length) := rfl
 have g5 : aX Tryd.prog .gtr 3 true (Nn s2.out.length) (.int .i64 262144) = some (.bool false) := kJ (by rw [h2o]; omega)
 have lM2 : aE G false 1 (.ptr 0 1 0 2) (A.hp s2 []) = some (Nn M) := by rw [hA]; rfl
 have bs2 : cP [(0, 1), (1, 1), (2, 1)] [.nils, (.int .i64 0), (.int .i64 0)] [(0, .sl 8 s2.out.length 0 s2.out.length 6), (1, Nn S), (2, Nn (M + (R + 4 - S)))] = some (.agg [.sl 8 s2.out.length 0 s2.out.length 6, Nn S, Nn (M + (R + 4 - S))]) := rfl
 have s3 : fM (aV 3 (.ptr 1 1 0 0) (.agg [.sl 8 s2.out.length 0 s2.out.length 6, Nn S, Nn (M + (R + 4 - S))]) (A.hp s2 [])) = some (.tup [], (A.hp s2 []).set 1 ⟨27, 3, [.agg [.sl 8 s2.out.length 0 s2.out.length 6, Nn S, Nn (M + (R + 4 - S))]]⟩) := rfl
 have fin : iB [aE G true 3 (.ptr 1 1 0 0) ((A.hp s2 []).set 1 ⟨27, 3, [.agg [.sl 8 s2.out.length 0 s2.out.length 6, Nn S, Nn (M + (R + 4 - S))]]⟩), some .nili] 0 ((A.hp s2 []).set 1 ⟨27, 3, [.agg [.sl 8 s2.out.length 0 s2.out.length 6, Nn S, Nn (M + (R + 4 - S))]]⟩) = some (.ret, [.tup [cV false ot (S : Int) ((M + (R + 4 - S) : Nat) : Int), .nili]], []) := by
  show iB [some (.agg [.sl 8 s2.out.length 0 s2.out.length 6, Nn S, Nn (M + (R + 4 - S))]), some .nili] 0 _ = _
  rw [h2o]
  refine aGr ?_
  have e8 : ((A.hp s2 []).set 1 ⟨27, 3, [.agg [.sl 8 ot.length 0 ot.length 6, Nn S, Nn (M + (R + 4 - S))]]⟩)[8]? = some ⟨29, 6, cJ ot⟩ := by
   rw [← h2o]; rfl
  refine aEv rfl (gW (aAO rfl (gW (tB (ty := 29) (xs := cJ ot) e8 (by omega) (fP ot) (aAk ot) (fY 0 ot)) (gW rfl (gW rfl pN)))) (gW rfl pN))
 unfold aBH at lp
 rw [aws, abor] at lp
 replace lp : dK (cF.l14 G (k + 39) (A.hp ⟨[], []⟩ []).length (cF.f G (k + 39))) (k + 39) [Nn S, .ptr 0 1 0 0, .ptr 1 1 0 0, BX, Nn (R + 4 - S), .ro bor (cJ ws), Nn ws.length, .int .i64 0] (A.hp ⟨[], []⟩ []) = some (.exit 0, [Nn S, .ptr 0 1 0 0, .ptr 1 1 0 0, BX, Nn (R + 4 - S), .ro bor (cJ ws), Nn ws.length, Nn ws.length], A.hp s1 []) := lp
 clear hgood hhv hslE hwdE hA hW hrun hmark hpos hplc hpl hout hot hol hs1 hs2 h2o h aL aws aR abor
 generalize veV .ok = E1 at *
 generalize M + (R + 4 - S) = N at *
 generalize R + 4 - S = more at *
 generalize (A.hp s2 []).set 1 ⟨27, 3, [.agg [.sl 8 s2.out.length 0 s2.out.length 6, Nn S, Nn N]]⟩ = hR at *
 refine gQ ?_
 have fx := aMv iQ <| aMv af5 <| aMv b0 <| aMv b1 <| aMv c1 <| aMv r1 <| aMv q <| aMv g1 <| aMv g2 <| aMv g3 <| aMv f0 <| aMv f1 <| aMv f2 <| aMv l1 <| aMv bs <| aMv b2 <| aMv kp <| aMv lM <| aMv a1 <| aMv g4 <| aMv l0 <| lw
 refine gT ?_
 refine eV1 v1 ?_
 refine eV1 v2 ?_
 refine eV0 ?_
 have fx := aMv iQ <| aMv af5 <| aMv f2 <| aMv ps <| aMv lo <| aMv ln <| aMv g5 <| aMv lM2 <| aMv a1 <| aMv bs2 <| s3
 have lx1 := lp
 refine gT ?_
 exact oF fin
end
end Go.Proofs.YtlkgkfgkiidhdaaDoor.Mir
