/- Part 9 of the proof: what these functions do. -/
import Derived.Test.YtlkgkfgkiidhdaaDoorVh8
import Derived.KernelRfl
namespace Go.Proofs.YtlkgkfgkiidhdaaDoor.Mir
open Go
set_option linter.unusedSimpArgs false
set_option linter.unusedVariables false
set_option maxHeartbeats 8000000
set_option maxRecDepth 20000
section
variable (G : aF) (k : Nat) (self : cC) {H : aB} {p q r n : Nat} {us : List Int} (hS : SH H p q r n us)
theorem aBc {c : Bool} {a b : Nat} (h : a ≤ b) : aW Tryd.prog .leq 3 c (Nn a) (Nn b) = some (.bool true) := vS (by omega)
theorem aBb {c : Bool} {a b : Nat} (h : b < a) : aW Tryd.prog .leq 3 c (Nn a) (Nn b) = some (.bool false) := aBi (by omega)
theorem aJo {c : Bool} {a : Nat} (h : a ≤ 10000) : aW Tryd.prog .mul 3 c (.int .i64 2) (Nn a) = some (Nn (2 * a : Nat)) := by
 rw [aAD, eW (by omega) (by omega)]; congr 2
theorem aKi {c : Bool} {a : Nat} (h : a ≤ 10000) : aW Tryd.prog .mul 3 c (Nn a) (.int .i64 2) = some (Nn (2 * a : Nat)) := by
 rw [aAD, eW (by omega) (by omega)]; congr 2; omega
include hS in
theorem aAh (m bs i j : Nat) : cJ H.length [dS p n, Nn m, cS q, Nn bs, Nn i, Nn j] = true := by
 have h1 : decide (p < H.length) = true := decide_eq_true hS.hp
 have h2 : decide (q < H.length) = true := decide_eq_true (aFG hS)
 simp only [dS, cS, cJ, cE, h1, h2, Bool.and_self]
include hS in
theorem aFS (m bs : Nat) : cJ H.length [dS p n, Nn m, cS q, Nn bs] = true := by
 have h1 : decide (p < H.length) = true := decide_eq_true hS.hp
 have h2 : decide (q < H.length) = true := decide_eq_true (aFG hS)
 simp only [dS, cS, cJ, cE, h1, h2, Bool.and_self]
include hS in
theorem aHK (hn : n ≤ 1000) (hk : n < k) : ∀ (f a : Nat) (l : List Nat), a ≤ n → n - a < f → l.length = n → (∀ x ∈ l, x < n) →
  ∃ (a' b' : Nat) (l' : List Nat), dP (aK.l2 G (k + 2) H.length self) f [dS p n, Nn n, cS q, .int .i64 20, Nn a, Nn (a + 20 : Nat)] (SO H p l) = some (.exit 0, [dS p n, Nn n, cS q, .int .i64 20, Nn a', Nn b'], SO H p l') ∧ l'.Perm l ∧ a' ≤ n
 | 0, a, l, _, h, _, _ => by omega
 | f + 1, a, l, ha, hf, hl, hx => by
  have hc : fU H.length [dS p n, Nn n, cS q, .int .i64 20, Nn a, Nn (a + 20 : Nat)] (SO H p l) = some (SO H p l) := gQ hS.hb l _ (aAh hS n 20 a (a + 20))
  by_cases h : a + 20 ≤ n
  ·have g1 : aW Tryd.prog .leq 3 false (Nn (a + 20 : Nat)) (Nn n) = some (.bool true) := aBc h
   have e1 : aW Tryd.prog .add 3 false (Nn (a + 20 : Nat)) (.int .i64 20) = some (Nn (a + 20 + 20 : Nat)) := nC (b := 20) (by omega)
   obtain ⟨l1, w1, p1⟩ := aCy G k hS hn hk a (a + 20) (by omega) h l hl hx
   obtain ⟨a', b', l', w2, p2, p3⟩ := aHK hn hk f (a + 20) l1 h (by omega) (by rw [p1.length_eq]; exact hl) (kL p1 hx)
   refine ⟨a', b', l', ?_, p2.trans p1, p3⟩
   rw [bE, aK.l2]
   refine gE ?_
   refine eC hc ?_
   have fx := aMC g1 <| aMC e1 <| w1
   refine gV ?_
   exact w2
  ·have g1 : aW Tryd.prog .leq 3 false (Nn (a + 20 : Nat)) (Nn n) = some (.bool false) := aBb (by omega)
   refine ⟨a, a + 20, l, ?_, List.Perm.refl _, ha⟩
   rw [bE, aK.l2]
   refine gE ?_
   refine eC hc ?_
   have fx := g1
   refine gV ?_
   refine gJ ?_; rfl
include hS in
theorem aHL (hn : n ≤ 1000) (hk : 2 * n < k) (bs : Nat) (h1 : 1 ≤ bs) (h2 : bs ≤ 2000) : ∀ (f a : Nat) (l : List Nat), a ≤ n → n - a < f → l.length = n → (∀ x ∈ l, x < n) →
  ∃ (a' b' : Nat) (l' : List Nat), dP (aK.l9 G (k + 3) H.length self) f [dS p n, Nn n, cS q, Nn bs, Nn a, Nn (a + 2 * bs : Nat)] (SO H p l) = some (.exit 4, [dS p n, Nn n, cS q, Nn bs, Nn a', Nn b'], SO H p l') ∧ l'.Perm l ∧ a' ≤ n
 | 0, a, l, _, h, _, _ => by omega
 | f + 1, a, l, ha, hf, hl, hx => by
  have hc : fU H.length [dS p n, Nn n, cS q, Nn bs, Nn a, Nn (a + 2 * bs : Nat)] (SO H p l) = some (SO H p l) := gQ hS.hb l _ (aAh hS n bs a (a + 2 * bs))
  by_cases h : a + 2 * bs ≤ n
  ·have g1 : aW Tryd.prog .leq 3 false (Nn (a + 2 * bs : Nat)) (Nn n) = some (.bool true) := aBc h
   have e0 : aW Tryd.prog .add 3 false (Nn a) (Nn bs) = some (Nn (a + bs : Nat)) := nC (by omega)
   have e1 : aW Tryd.prog .mul 3 true (.int .i64 2) (Nn bs) = some (Nn (2 * bs : Nat)) := aJo (by omega)
   have e2 : aW Tryd.prog .add 3 false (Nn (a + 2 * bs : Nat)) (Nn (2 * bs : Nat)) = some (Nn (a + 2 * bs + 2 * bs : Nat)) := nC (by omega)
   obtain ⟨l1, w1, p1⟩ := sY G hS hn (2 * bs) k a (a + bs) (a + 2 * bs) l (by omega) (by omega) (by omega) (by omega) h hl hx
   obtain ⟨a', b', l', w2, p2, p3⟩ := aHL hn hk bs h1 h2 f (a + 2 * bs) l1 h (by omega) (by rw [p1.length_eq]; exact hl) (kL p1 hx)
   refine ⟨a', b', l', ?_, p2.trans p1, p3⟩
   rw [bE, aK.l9]
   refine gE ?_
   refine eC hc ?_
   have fx := aMC g1 <| aMC e0 <| aMC e1 <| aMC e2 <| w1
   refine gV ?_
   exact w2
  ·have g1 : aW Tryd.prog .leq 3 false (Nn (a + 2 * bs : Nat)) (Nn n) = some (.bool false) := aBb (by omega)
   refine ⟨a, a + 2 * bs, l, ?_, List.Perm.refl _, ha⟩
   rw [bE, aK.l9]
   refine gE ?_
   refine eC hc ?_
   have fx := g1
   refine gV ?_
   refine gJ ?_; rfl
include hS in
theorem aEb (hn : n ≤ 1000) (hk : 2 * n < k) : ∀ (f bs : Nat) (l : List Nat), 1 ≤ bs → bs ≤ 2000 → n - bs < f → l.length = n → (∀ x ∈ l, x < n) →
  ∃ (b' : Nat) (l' : List Nat), dP (aK.l7 G (k + 3) H.length self) f [dS p n, Nn n, cS q, Nn bs] (SO H p l) = some (.exit 2, [dS p n, Nn n, cS q, Nn b'], SO H p l') ∧ l'.Perm l
 | 0, bs, l, _, _, h, _, _ => by omega
 | f + 1, bs, l, h1, h2, hf, hl, hx => by
  have hlen := iI H p l
  have hc : fU H.length [dS p n, Nn n, cS q, Nn bs] (SO H p l) = some (SO H p l) := gQ hS.hb l _ (aFS hS n bs)
  by_cases h : bs < n
  ·have g1 : aW Tryd.prog .lss 3 false (Nn bs) (Nn n) = some (.bool true) := gN (by omega)
   have e1 : aW Tryd.prog .mul 3 true (.int .i64 2) (Nn bs) = some (Nn (2 * bs : Nat)) := aJo (by omega)
   have e3 : aW Tryd.prog .mul 3 true (Nn bs) (.int .i64 2) = some (Nn (2 * bs : Nat)) := aKi (by omega)
   obtain ⟨a', b', l1, w1, p1, p3⟩ := aHL G k self hS hn hk bs h1 h2 (k + 3) 0 l (by omega) (by omega) hl hx
   have w1' : dP (aK.l9 G (k + 3) H.length self) (k + 3) [dS p n, Nn n, cS q, Nn bs, .int .i64 0, Nn (2 * bs : Nat)] (SO H p l) = some (.exit 4, [dS p n, Nn n, cS q, Nn bs, Nn a', Nn b'], SO H p l1) := by
    rw [Nat.zero_add] at w1; exact w1
   have e2 : aW Tryd.prog .add 3 false (Nn a') (Nn bs) = some (Nn (a' + bs : Nat)) := nC (by omega)
   rw [← hlen] at w1'
   have hl1 : l1.length = n := by rw [p1.length_eq]; exact hl
   have hx1 := kL p1 hx
   by_cases h4 : a' + bs < n
   ·have g2 : aW Tryd.prog .lss 3 false (Nn (a' + bs : Nat)) (Nn n) = some (.bool true) := gN (by omega)
    obtain ⟨l2, w2, p2⟩ := sY G hS hn n k a' (a' + bs) n l1 (by omega) (by omega) (by omega) h4 (Nat.le_refl _) hl1 hx1
    obtain ⟨b2, l', w3, p4⟩ := aEb hn hk f (2 * bs) l2 (by omega) (by omega) (by omega) (by rw [p2.length_eq]; exact hl1) (kL p2 hx1)
    refine ⟨b2, l', ?_, (p4.trans p2).trans p1⟩
    rw [bE, aK.l7]
    refine gE ?_
    refine eC hc ?_
    have fx := aMC g1 <| aMC e1 <| aMC e2 <| aMC e3 <| aMC g2 <| w2
    have lx1 := w1'
    refine gV ?_
    exact w3
   ·have g2 : aW Tryd.prog .lss 3 false (Nn (a' + bs : Nat)) (Nn n) = some (.bool false) := gF (by omega)
    obtain ⟨b2, l', w3, p4⟩ := aEb hn hk f (2 * bs) l1 (by omega) (by omega) (by omega) hl1 hx1
    refine ⟨b2, l', ?_, p4.trans p1⟩
    rw [bE, aK.l7]
    refine gE ?_
    refine eC hc ?_
    have fx := aMC g1 <| aMC e1 <| aMC e2 <| aMC e3 <| g2
    have lx1 := w1'
    refine gV ?_
    exact w3
  ·have g1 : aW Tryd.prog .lss 3 false (Nn bs) (Nn n) = some (.bool false) := gF (by omega)
   refine ⟨bs, l, ?_, List.Perm.refl _⟩
   rw [bE, aK.l7]
   refine gE ?_
   refine eC hc ?_
   have fx := g1
   refine gV ?_
   refine gJ ?_; rfl
include hS in
theorem aHM (hn : n ≤ 1000) (hk : 2 * n < k) (l : List Nat) (hl : l.length = n) (hx : ∀ x ∈ l, x < n) :
  ∃ l' : List Nat, bC (aK.f G (k + 4)) [dS p n, Nn n, cS q] (SO H p l) = some (.tup [], SO H p l') ∧ l'.Perm l := by
 have hlen := iI H p l
 obtain ⟨a', b', l1, w1, p1, ha⟩ := aHK G (k + 1) (aK.f G (k + 3)) hS hn (by omega) (k + 3) 0 l (by omega) (by omega) hl hx
 have hl1 : l1.length = n := by rw [p1.length_eq]; exact hl
 obtain ⟨l2, w2, p2⟩ := aCy G (k + 1) hS hn (by omega) a' n ha (Nat.le_refl _) l1 hl1 (kL p1 hx)
 have hl2 : l2.length = n := by rw [p2.length_eq]; exact hl1
 obtain ⟨b2, l', w3, p3⟩ := aEb G k (aK.f G (k + 3)) hS hn hk (k + 3) 20 l2 (by omega) (by omega) (by omega) hl2 (kL p2 (kL p1 hx))
 refine ⟨l', mM ?_, (p3.trans p2).trans p1⟩
 rw [aK.step]
 unfold aK.c
 have fin := aCo hS l'
 have w1' : dP (aK.l2 G (k + 3) H.length (aK.f G (k + 3))) (k + 3) [dS p n, Nn n, cS q, .int .i64 20, .int .i64 0, .int .i64 20] (SO H p l) = some (.exit 0, [dS p n, Nn n, cS q, .int .i64 20, Nn a', Nn b'], SO H p l1) := w1
 have w3' : dP (aK.l7 G (k + 3) (SO H p l2).length (aK.f G (k + 3))) (k + 3) [dS p n, Nn n, cS q, .int .i64 20] (SO H p l2) = some (.exit 2, [dS p n, Nn n, cS q, Nn b2], SO H p l') := by
  rw [iI]; exact w3
 rw [← hlen] at w1' fin
 refine gS ?_
 have fx := w2
 have lx1 := w1'
 have lx2 := w3'
 refine gV ?_
 exact oF fin
include hS in
theorem aFL (hn : n ≤ 1000) (hk : 2 * n < k) (l : List Nat) (hl : l.length = n) (hx : ∀ x ∈ l, x < n) :
  ∃ l' : List Nat, bC (aP.f G (k + 5)) [dS p n, cS q] (SO H p l) = some (.tup [], SO H p l') ∧ l'.Perm l := by
 have hlen := iI H p l
 obtain ⟨l', w, pm⟩ := aHM G k hS hn hk l hl hx
 refine ⟨l', mM ?_, pm⟩
 rw [aP.step]
 unfold aP.c
 have ln : dN (dS p n) = some (Nn n) := rfl
 have fin := aCo hS l'
 rw [← hlen] at fin
 refine gS ?_
 have fx := aMC ln <| w
 refine gV ?_
 exact oF fin
end
structure SB (H : aB) (p : Nat) : Prop where
 hp : p < H.length
 hb : dQ H.length H = true
section
variable (G : aF) (k : Nat) (self : cC) {H : aB} {p n : Nat} (hS : SB H p)
include hS in
theorem tD {l : List Nat} (hl : l.length = n) {i : Nat} (h : i < n) : aD G false 1 (.ptr p n i 0) (SO H p l) = some (Nn (l.getD i 0)) := by
 unfold aD
 simp only [aGb hS.hp l, gK, hl, if_true, jH l i (by omega)]
 rfl
include hS in
theorem vG {l : List Nat} (hl : l.length = n) {i : Nat} (h : i < n) (x : Nat) : fP (aT 1 (.ptr p n i 0) (Nn x) (SO H p l)) = some (.tup [], SO H p (l.set i x)) := by
 have e : aT 1 (.ptr p n i 0) (Nn x) (SO H p l) = some (SO H p (l.set i x)) := by
  unfold aT
  simp only [aGb hS.hp l, gK, hl]
  rw [if_pos ⟨trivial, rfl, rfl⟩]
  simp only [jH l i (by omega)]
  rw [if_pos (by show 0 + 1 ≤ 1; omega)]
  have : lR (Nn (l.getD i 0)) (kD (Nn (l.getD i 0)).cells 0 (Nn x).cells) = Nn x := rfl
  rw [this, tS, aAn]
 rw [e]; rfl
theorem aDG (x : Nat) : dB.f G (k + 1) [Nn x] [] = some (.bool false, []) := by
 have g : aW Tryd.prog .neq 3 false (Nn x) (Nn x) = some (.bool false) := qE rfl
 rw [dB.step]
 unfold dB.c
 refine gS ?_
 have fx := g
 refine gV ?_
 exact w1b rfl
theorem aFy (x y : Nat) : dG.f G (k + 2) [Nn x, Nn y] [] = some (.bool (decide (x < y)), []) := by
 have r1 : ∀ H, aU (dB.f G (k + 1)) [Nn x] H = _ := fun H => cD (H := H) (aDG G k x) rfl rfl
 have g : aW Tryd.prog .lss 3 false (Nn x) (Nn y) = some (.bool (decide (x < y))) := by
  rw [iO]
  congr 2
  exact decide_eq_decide.2 (by omega)
 rw [dG.step]
 unfold dG.c
 refine gS ?_
 generalize decide (x < y) = b at *
 have fx := aMC r1 <| g
 refine gV ?_
 exact w1b rfl
def ys4 (p n a b i j : Nat) : List AV := [dS p n, Nn a, Nn b, Nn i, Nn j]
def ys1 (p n a b i : Nat) : List AV := [dS p n, Nn a, Nn b, Nn i]
include hS in
theorem aFU (n a b i j : Nat) : cJ H.length (ys4 p n a b i j) = true := by
 have h1 : decide (p < H.length) = true := decide_eq_true hS.hp
 simp only [ys4, dS, cJ, cE, h1, Bool.and_self]
include hS in
theorem aAk (n a b i : Nat) : cJ H.length (ys1 p n a b i) = true := by
 have h1 : decide (p < H.length) = true := decide_eq_true hS.hp
 simp only [ys1, dS, cJ, cE, h1, Bool.and_self]
include hS in
theorem aGC (hn : n ≤ 1000) (a b i : Nat) : ∀ (j f : Nat) (l : List Nat), l.length = n → j < n → j < f →
  ∃ (j' : Nat) (l' : List Nat), dP (aJ.l4 G (k + 2) H.length self) f (ys4 p n a b i j) (SO H p l) = some (.exit 2, ys4 p n a b i j', SO H p l') ∧ l'.Perm l
 | j, 0, l, _, _, h => by omega
 | j, f + 1, l, hl, hj, hf => by
  have hc : fU H.length (ys4 p n a b i j) (SO H p l) = some (SO H p l) := gQ hS.hb l _ (aFU hS n a b i j)
  by_cases ha : a < j
  ·have g1 : aW Tryd.prog .gtr 3 false (Nn j) (Nn a) = some (.bool true) := mC (by omega)
   have d1 : aM 1 (.sl p n 0 n 1) (Nn j) = some (.ptr p n j 0) := jL hj
   have d2 : aM 1 (.sl p n 0 n 1) (Nn (j - 1 : Nat)) = some (.ptr p n (j - 1) 0) := jL (by omega)
   have l1 := tD G hS hl hj
   have l2 := tD G hS hl (i := j - 1) (by omega)
   have m1 : aW Tryd.prog .sub 3 true (Nn j) (.int .i64 1) = some (Nn (j - 1 : Nat)) := by
    rw [nZ, eW (by omega) (by omega)]; congr 2; omega
   have r1 : ∀ H, aU (dG.f G (k + 2)) [Nn (l.getD j 0), Nn (l.getD (j - 1) 0)] H = _ := fun H => cD (H := H) (aFy G k (l.getD j 0) (l.getD (j - 1) 0)) rfl rfl
   by_cases hcn : l.getD j 0 < l.getD (j - 1) 0
   ·rw [decide_eq_true hcn] at r1
    have s1 := vG hS hl hj (l.getD (j - 1) 0)
    have hl2 : (l.set j (l.getD (j - 1) 0)).length = n := by simp [hl]
    have s2 := vG hS hl2 (i := j - 1) (by omega) (l.getD j 0)
    have hsw : (l.set j (l.getD (j - 1) 0)).set (j - 1) (l.getD j 0) = kO l j (j - 1) := rfl
    rw [hsw] at s2
    have hp := mT l j (j - 1) (by omega) (by omega)
    obtain ⟨j', l', h1, h2⟩ := aGC hn a b i (j - 1) f (kO l j (j - 1)) (by rw [nW]; exact hl) (by omega) (by omega)
    refine ⟨j', l', ?_, h2.trans hp⟩
    rw [bE, aJ.l4]
    refine gE ?_
    refine eC hc ?_
    unfold ys4 at h1 ⊢
    generalize kO l j (j - 1) = ls at *
    generalize l.getD j 0 = y1 at *
    generalize l.getD (j - 1) 0 = y2 at *
    have fx := aMC g1 <| aMC d1 <| aMC d2 <| aMC l1 <| aMC l2 <| aMC m1 <| aMC r1 <| aMC s1 <| s2
    refine gV ?_
    exact h1
   ·rw [decide_eq_false hcn] at r1
    refine ⟨j, l, ?_, List.Perm.refl _⟩
    rw [bE, aJ.l4]
    refine gE ?_
    refine eC hc ?_
    unfold ys4
    clear hcn
    generalize l.getD j 0 = y1 at *
    generalize l.getD (j - 1) 0 = y2 at *
    have fx := aMC g1 <| aMC d1 <| aMC d2 <| aMC l1 <| aMC l2 <| aMC m1 <| r1
    refine gV ?_
    refine gJ ?_; rfl
  ·have g1 : aW Tryd.prog .gtr 3 false (Nn j) (Nn a) = some (.bool false) := jC (by omega)
   refine ⟨j, l, ?_, List.Perm.refl _⟩
   rw [bE, aJ.l4]
   refine gE ?_
   refine eC hc ?_
   unfold ys4
   have fx := g1
   refine gV ?_
   refine gJ ?_; rfl
include hS in
theorem aJV (l : List Nat) : cF [] H.length (SO H p l) = some (.ret, [.tup []], SO H p l) := by
 unfold cF
 rw [gQ hS.hb l _ rfl]; rfl
include hS in
theorem aGB (hn : n ≤ 1000) (hk : n < k) (a b : Nat) (hb : b ≤ n) : ∀ (d i f : Nat) (l : List Nat), i + d = max i b → l.length = n → d < f →
  ∃ (i' : Nat) (l' : List Nat), dP (aJ.l1 G (k + 2) H.length self) f (ys1 p n a b i) (SO H p l) = some (.exit 0, ys1 p n a b i', SO H p l') ∧ l'.Perm l
 | d, i, 0, l, _, _, h => by omega
 | 0, i, f + 1, l, hd, hl, hf => by
  have hc : fU H.length (ys1 p n a b i) (SO H p l) = some (SO H p l) := gQ hS.hb l _ (aAk hS n a b i)
  have g1 : aW Tryd.prog .lss 3 false (Nn i) (Nn b) = some (.bool false) := gF (by omega)
  refine ⟨i, l, ?_, List.Perm.refl _⟩
  rw [bE, aJ.l1]
  refine gE ?_
  refine eC hc ?_
  unfold ys1
  have fx := g1
  refine gV ?_
  refine gJ ?_; rfl
 | d + 1, i, f + 1, l, hd, hl, hf => by
  have hc : fU H.length (ys1 p n a b i) (SO H p l) = some (SO H p l) := gQ hS.hb l _ (aAk hS n a b i)
  have hib : i < b := by omega
  have g1 : aW Tryd.prog .lss 3 false (Nn i) (Nn b) = some (.bool true) := gN (by omega)
  obtain ⟨j', l1, hl4, hp⟩ := aGC G k self hS hn a b i i (k + 2) l hl (by omega) (by omega)
  obtain ⟨i', l', h1, h2⟩ := aGB hn hk a b hb d (i + 1) f l1 (by omega) (by rw [hp.length_eq]; exact hl) (by omega)
  refine ⟨i', l', ?_, h2.trans hp⟩
  have q2 : aW Tryd.prog .add 3 true (Nn i) (.int .i64 1) = some (Nn (i + 1)) := by
   rw [gZ, eW (by omega) (by omega)]; congr 2
  have hlen := iI H p l
  rw [bE, aJ.l1]
  refine gE ?_
  refine eC hc ?_
  rw [← hlen] at hl4
  unfold ys1 at h1 ⊢
  unfold ys4 at hl4
  have fx := aMC g1 <| q2
  have lx1 := hl4
  refine gV ?_
  exact h1
include hS in
theorem aGD (hn : n ≤ 1000) (hk : n < k) (a b : Nat) (ha : a ≤ b) (hb : b ≤ n) (l : List Nat) (hl : l.length = n) :
  ∃ l' : List Nat, bC (aJ.f G (k + 3)) [dS p n, Nn a, Nn b] (SO H p l) = some (.tup [], SO H p l') ∧ l'.Perm l := by
 obtain ⟨i', l', h1, h2⟩ := aGB G k (aJ.f G (k + 2)) hS hn hk a b hb (b - (a + 1)) (a + 1) (k + 2) l (by omega) hl (by omega)
 refine ⟨l', mM ?_, h2⟩
 rw [aJ.step]
 unfold aJ.c
 rw [iI]
 have q1 : aW Tryd.prog .add 3 true (Nn a) (.int .i64 1) = some (Nn (a + 1 : Nat)) := by
  rw [gZ, eW (by omega) (by omega)]; congr 2
 have fin := aJV hS l'
 unfold ys1 at h1
 have hlen := iI H p l
 refine gS ?_
 rw [← hlen] at h1
 have fx := q1
 have lx1 := h1
 refine gV ?_
 exact oF fin
end
section
variable (G : aF) (k : Nat) (self : cC) {H : aB} {p n : Nat} (hS : SB H p)
theorem aLQ : dX.f G (k + 3) [.int .u64 0] [] = some (.int .i64 0, []) := by kernel_rfl
theorem aLR : dX.f G (k + 3) [.int .u64 1] [] = some (.int .i64 1, []) := by kernel_rfl
theorem aLS : dX.f G (k + 3) [.int .u64 2] [] = some (.int .i64 2, []) := by kernel_rfl
theorem aLT : dX.f G (k + 3) [.int .u64 3] [] = some (.int .i64 2, []) := by kernel_rfl
theorem aFZ (n : Nat) (h : n ≤ 3) : ∃ z : Int, dX.f G (k + 3) [.int .u64 (n : Int)] [] = some (.int .i64 z, []) := by
 have : n = 0 ∨ n = 1 ∨ n = 2 ∨ n = 3 := by omega
 rcases this with rfl | rfl | rfl | rfl
 ·exact ⟨0, aLQ G k⟩
 ·exact ⟨1, aLR G k⟩
 ·exact ⟨2, aLS G k⟩
 ·exact ⟨2, aLT G k⟩
include hS in
theorem aFT (a b : Nat) (z : Int) : cJ H.length [dS p n, Nn a, Nn b, I6 z, .bool true, .bool true] = true := by
 have h1 : decide (p < H.length) = true := decide_eq_true hS.hp
 simp only [dS, cJ, cE, h1, Bool.and_self]
include hS in
theorem aGT (hn : n ≤ 12) (hk : n < k) (z : Int) (l : List Nat) (hl : l.length = n) :
  ∃ l' : List Nat, bC (aV.f G (k + 4)) [dS p n, .int .i64 0, Nn n, I6 z] (SO H p l) = some (.tup [], SO H p l') ∧ l'.Perm l := by
 have hlen := iI H p l
 obtain ⟨l', w, pm⟩ := aGD G k hS (by omega) hk 0 n (by omega) (Nat.le_refl _) l hl
 refine ⟨l', mM ?_, pm⟩
 have w' : bC (aJ.f G (k + 3)) [dS p n, .int .i64 0, Nn n] (SO H p l) = some (.tup [], SO H p l') := w
 have hc : fU H.length [dS p n, Nn 0, Nn n, I6 z, .bool true, .bool true] (SO H p l) = some (SO H p l) := gQ hS.hb l _ (aFT hS 0 n z)
 have hc' : fU H.length [dS p n, .int .i64 0, Nn n, I6 z, .bool true, .bool true] (SO H p l) = some (SO H p l) := hc
 have e1 : aW Tryd.prog .sub 3 false (Nn n) (.int .i64 0) = some (Nn n) := by
  rw [nZ, eW (by omega) (by omega), Int.sub_zero]
 have g1 : aW Tryd.prog .leq 3 true (Nn n) (.int .i64 12) = some (.bool true) := vS (by omega)
 have lw : dP (aV.l2 G (k + 3) H.length (aV.f G (k + 3))) (k + 3) [dS p n, .int .i64 0, Nn n, I6 z, .bool true, .bool true] (SO H p l) = some (.ret, [dS p n, .int .i64 0, Nn n, I6 z, .bool true, .bool true], SO H p l') := by
  rw [bE, aV.l2]
  refine gE ?_
  refine eC hc' ?_
  have fx := aMC e1 <| aMC g1 <| w'
  refine gV ?_
  refine gJ ?_; rfl
 rw [aV.step]
 unfold aV.c
 have fin := aJV hS l'
 rw [← hlen] at lw fin
 refine gS ?_
 have fx := True.intro
 have lx1 := lw
 refine gV ?_
 exact oF fin
include hS in
theorem aGr (hn : n ≤ 3) (hk : n < k) (l : List Nat) (hl : l.length = n) :
  ∃ l' : List Nat, bC (bJ.f G (k + 5)) [dS p n] (SO H p l) = some (.tup [], SO H p l') ∧ l'.Perm l := by
 have hlen := iI H p l
 obtain ⟨z, hz⟩ := aFZ G (k + 1) n hn
 obtain ⟨l', w, pm⟩ := aGT G k hS (by omega) hk z l hl
 refine ⟨l', mM ?_, pm⟩
 have ln : dN (dS p n) = some (Nn n) := rfl
 have c1 : dM .u64 (Nn n) = some (.int .u64 (n : Int)) := by
  have : IntKind.u64.wrap (n : Int) = (n : Int) := iW (by omega) (by omega)
  simp only [dM, this]
 have r1 : ∀ H, aU (dX.f G (k + 4)) [.int .u64 (n : Int)] H = _ := fun H => cD (H := H) hz rfl rfl
 rw [bJ.step]
 unfold bJ.c
 have fin := aJV hS l'
 rw [← hlen] at fin
 refine gS ?_
 have fx := aMC ln <| aMC c1 <| aMC r1 <| w
 refine gV ?_
 exact oF fin
end
section
variable (G : aF) (k : Nat) (self : cC) {H : aB} {p n : Nat} (hS : SB H p) {P : Nat → Prop}
theorem aIZ {o m i : Nat} (h : i < m) : aM 1 (.sl p n o m 1) (Nn i) = some (.ptr p n (o + i) 0) := by
 unfold aM
 simp only [Int.toNat_natCast]
 rw [if_pos (by omega), if_pos trivial]
theorem aAR {l : List Nat} (hl : ∀ x ∈ l, P x) {i : Nat} (h : i < l.length) : P (l.getD i 0) := by
 rw [List.getD_eq_getElem?_getD, List.getElem?_eq_getElem h]
 exact hl _ (List.getElem_mem h)
theorem aLu {l : List Nat} (hl : ∀ x ∈ l, P x) (i : Nat) {y : Nat} (hy : P y) : ∀ x ∈ l.set i y, P x := fun x hx => by
 rcases List.mem_or_eq_of_mem_set hx with h | h
 ·exact hl x h
 ·subst h; exact hy
include hS in
theorem xU (kk kb m i : Nat) : cJ H.length [dS p n, Nn kk, .sl p n kb m 1, Nn i] = true := by
 have h1 : decide (p < H.length) = true := decide_eq_true hS.hp
 simp only [dS, cJ, cE, h1, Bool.and_self]
include hS in
theorem aDx (hn : n ≤ 1000) (kb : Nat) (h0 : 1 ≤ kb) (hb : kb < n) : ∀ (d i kk f : Nat) (l : List Nat), i + d = n - kb → 1 ≤ i → kb ≤ kk → kk < kb + i → l.length = n → (∀ x ∈ l, P x) → d < f →
  ∃ (i' kk' : Nat) (l' : List Nat), dP (aI.l9 G k H.length self) f [dS p n, Nn kk, .sl p n kb (n - kb) 1, Nn i] (SO H p l) = some (.exit 2, [dS p n, Nn kk', .sl p n kb (n - kb) 1, Nn i'], SO H p l') ∧ l'.length = n ∧ (∀ x ∈ l', P x) ∧ kb ≤ kk' ∧ kk' ≤ n
 | d, i, kk, 0, l, _, _, _, _, _, _, h => by omega
 | 0, i, kk, f + 1, l, hd, h1, h2, h3, hl, hP, hf => by
  have hc : fU H.length [dS p n, Nn kk, .sl p n kb (n - kb) 1, Nn i] (SO H p l) = some (SO H p l) := gQ hS.hb l _ (xU hS kk kb (n - kb) i)
  have ln : dN (.sl p n kb (n - kb) 1) = some (Nn (n - kb : Nat)) := rfl
  have g1 : aW Tryd.prog .lss 3 false (Nn i) (Nn (n - kb : Nat)) = some (.bool false) := gF (by omega)
  refine ⟨i, kk, l, ?_, hl, hP, h2, by omega⟩
  rw [bE, aI.l9]
  refine gE ?_
  refine eC hc ?_
  have fx := aMC ln <| g1
  refine gV ?_
  refine gJ ?_; rfl
 | d + 1, i, kk, f + 1, l, hd, h1, h2, h3, hl, hP, hf => by
  have hc : fU H.length [dS p n, Nn kk, .sl p n kb (n - kb) 1, Nn i] (SO H p l) = some (SO H p l) := gQ hS.hb l _ (xU hS kk kb (n - kb) i)
  have ln : dN (.sl p n kb (n - kb) 1) = some (Nn (n - kb : Nat)) := rfl
  have g1 : aW Tryd.prog .lss 3 false (Nn i) (Nn (n - kb : Nat)) = some (.bool true) := gN (by omega)
  have d1 : aM 1 (.sl p n kb (n - kb) 1) (Nn i) = some (.ptr p n (kb + i) 0) := aIZ (by omega)
  have e1 : aW Tryd.prog .sub 3 true (Nn i) (.int .i64 1) = some (Nn (i - 1 : Nat)) := kJ (b := 1) (by omega) (by omega)
  have e2 : aW Tryd.prog .add 3 true (Nn i) (.int .i64 1) = some (Nn (i + 1 : Nat)) := mP (by omega)
  have e3 : aW Tryd.prog .add 3 true (Nn kk) (.int .i64 1) = some (Nn (kk + 1 : Nat)) := mP (by omega)
  have d2 : aM 1 (.sl p n kb (n - kb) 1) (Nn (i - 1 : Nat)) = some (.ptr p n (kb + (i - 1)) 0) := aIZ (by omega)
  have d3 : aM 1 (dS p n) (Nn kk) = some (.ptr p n kk 0) := jL (by omega)
  have l1 := tD G hS hl (i := kb + i) (by omega)
  have l2 := tD G hS hl (i := kb + (i - 1)) (by omega)
  have s1 := vG hS hl (i := kk) (by omega) (l.getD (kb + i) 0)
  by_cases hne : l.getD (kb + i) 0 = l.getD (kb + (i - 1)) 0
  ·have g2 : aW Tryd.prog .neq 3 false (Nn (l.getD (kb + i) 0)) (Nn (l.getD (kb + (i - 1)) 0)) = some (.bool false) := vO hne
   obtain ⟨i', kk', l', w, r1, r2, r3, r4⟩ := aDx hn kb h0 hb d (i + 1) kk f l (by omega) (by omega) h2 (by omega) hl hP (by omega)
   refine ⟨i', kk', l', ?_, r1, r2, r3, r4⟩
   rw [bE, aI.l9]
   refine gE ?_
   refine eC hc ?_
   clear hne
   generalize l.getD (kb + i) 0 = y1 at *
   generalize l.getD (kb + (i - 1)) 0 = y2 at *
   have fx := aMC ln <| aMC g1 <| aMC d1 <| aMC e1 <| aMC e2 <| aMC d2 <| aMC l1 <| aMC l2 <| g2
   refine gV ?_
   exact w
  ·have g2 : aW Tryd.prog .neq 3 false (Nn (l.getD (kb + i) 0)) (Nn (l.getD (kb + (i - 1)) 0)) = some (.bool true) := vP hne
   obtain ⟨i', kk', l', w, r1, r2, r3, r4⟩ := aDx hn kb h0 hb d (i + 1) (kk + 1) f (l.set kk (l.getD (kb + i) 0)) (by omega) (by omega) (by omega) (by omega) (by simp [hl]) (aLu hP kk (aAR hP (by omega))) (by omega)
   refine ⟨i', kk', l', ?_, r1, r2, r3, r4⟩
   rw [bE, aI.l9]
   refine gE ?_
   refine eC hc ?_
   clear hne
   generalize l.set kk (l.getD (kb + i) 0) = ls at *
   generalize l.getD (kb + i) 0 = y1 at *
   generalize l.getD (kb + (i - 1)) 0 = y2 at *
   have fx := aMC ln <| aMC g1 <| aMC d1 <| aMC e1 <| aMC e2 <| aMC e3 <| aMC d2 <| aMC d3 <| aMC l1 <| aMC l2 <| aMC g2 <| s1
   refine gV ?_
   exact w
include hS in
theorem xS (i : Nat) : cJ H.length [dS p n, .nils, Nn i] = true := by
 have h1 : decide (p < H.length) = true := decide_eq_true hS.hp
 simp only [dS, cJ, cE, h1, Bool.and_self]
theorem vJ (d i : Nat) : jS d (some (Nn i)) = some i := by simp [jS]
theorem vI (d : Nat) : jS d none = some d := rfl
include hS in
theorem aDv {l : List Nat} (hl : l.length = n) {kk : Nat} (h : kk ≤ n) : tH (.int .i64 0) (.sl p n kk (n - kk) 1) (SO H p l) = some (.tup [], SO H p (l.take kk ++ List.replicate (n - kk) 0)) := by
 unfold tH
 simp only [aGb hS.hp l, gK, hl]
 rw [if_pos ⟨trivial, trivial, by omega⟩]
 have e1 : (eP l).take kk ++ (List.replicate (n - kk) (AV.int .i64 0) ++ (eP l).drop (kk + (List.replicate (n - kk) (AV.int .i64 0)).length)) = eP (l.take kk ++ List.replicate (n - kk) 0) := by
  rw [List.length_replicate, List.drop_of_length_le (by rw [gK]; omega), List.append_nil]
  unfold eP
  rw [List.map_append, List.map_take, List.map_replicate]; rfl
 rw [e1, aAn]
include hS in
theorem aGl (hn : n ≤ 1000) (hk : n < k) : ∀ (d i f : Nat) (l : List Nat), i + d = n → 1 ≤ i → l.length = n → (∀ x ∈ l, P x) → d < f →
  (dP (aI.l4 G k H.length self) f [dS p n, .nils, Nn i] (SO H p l) = some (.exit 0, [dS p n, .nils, Nn n], SO H p l))
  ∨ ∃ (z : AV) (m : Nat) (l' : List Nat), dP (aI.l4 G k H.length self) f [dS p n, .nils, Nn i] (SO H p l) = some (.ret, [dS p n, .sl p n 0 m 1, z], SO H p l') ∧ m ≤ n ∧ l'.length = n ∧ ∀ j, j < m → P (l'.getD j 0)
 | d, i, 0, l, _, _, _, _, h => by omega
 | 0, i, f + 1, l, hd, h1, hl, hP, hf => by
  have hi : i = n := by omega
  subst hi
  have hc : fU H.length [dS p i, .nils, Nn i] (SO H p l) = some (SO H p l) := gQ hS.hb l _ (xS hS i)
  have ln : dN (dS p i) = some (Nn i) := rfl
  have g1 : aW Tryd.prog .lss 3 false (Nn i) (Nn i) = some (.bool false) := gF (by omega)
  refine .inl ?_
  rw [bE, aI.l4]
  refine gE ?_
  refine eC hc ?_
  have fx := aMC ln <| g1
  refine gV ?_
  refine gJ ?_; rfl
 | d + 1, i, f + 1, l, hd, h1, hl, hP, hf => by
  have hlen := iI H p l
  have hc : fU H.length [dS p n, .nils, Nn i] (SO H p l) = some (SO H p l) := gQ hS.hb l _ (xS hS i)
  have ln : dN (dS p n) = some (Nn n) := rfl
  have g1 : aW Tryd.prog .lss 3 false (Nn i) (Nn n) = some (.bool true) := gN (by omega)
  have d1 : aM 1 (dS p n) (Nn i) = some (.ptr p n i 0) := jL (by omega)
  have e1 : aW Tryd.prog .sub 3 true (Nn i) (.int .i64 1) = some (Nn (i - 1 : Nat)) := kJ (b := 1) (by omega) (by omega)
  have e2 : aW Tryd.prog .add 3 true (Nn i) (.int .i64 1) = some (Nn (i + 1 : Nat)) := mP (by omega)
  have d2 : aM 1 (dS p n) (Nn (i - 1 : Nat)) = some (.ptr p n (i - 1) 0) := jL (by omega)
  have l1 := tD G hS hl (i := i) (by omega)
  have l2 := tD G hS hl (i := i - 1) (by omega)
  by_cases hne : l.getD i 0 = l.getD (i - 1) 0
  ·have g2 : aW Tryd.prog .eql 3 false (Nn (l.getD i 0)) (Nn (l.getD (i - 1) 0)) = some (.bool true) := aBa hne
   obtain ⟨i', kk', l', w, r1, r2, r3, r4⟩ := aDx G k self hS hn i h1 (by omega) (n - i - 1) 1 i k l (by omega) (by omega) (by omega) (by omega) hl hP (by omega)
   have w' : dP (aI.l9 G k (SO H p l).length self) k [dS p n, Nn i, .sl p n i (n - i) 1, .int .i64 1] (SO H p l) = some (.exit 2, [dS p n, Nn kk', .sl p n i (n - i) 1, Nn i'], SO H p l') := by
    rw [hlen]; exact w
   have s1 : jD 1 (dS p n) (some (Nn i)) none = some (.sl p n i (n - i) 1) := by
    simp only [jD, vJ, vI, dS, Nat.zero_add]
    rw [if_pos (by refine ⟨?_, ?_, trivial⟩ <;> omega)]
   have s2 : jD 1 (dS p n) (some (Nn kk')) none = some (.sl p n kk' (n - kk') 1) := by
    simp only [jD, vJ, vI, dS, Nat.zero_add]
    rw [if_pos (by refine ⟨?_, ?_, trivial⟩ <;> omega)]
   have s3 : jD 1 (dS p n) none (some (Nn kk')) = some (.sl p n 0 kk' 1) := by
    simp only [jD, vJ, vI, dS, Nat.zero_add, Nat.sub_zero]
    rw [if_pos (by refine ⟨?_, ?_, trivial⟩ <;> omega)]
   have c1 := aDv hS r1 r4
   refine .inr ⟨Nn kk', kk', l'.take kk' ++ List.replicate (n - kk') 0, ?_, r4, by simp [r1]; omega, fun j hj => ?_⟩
   ·rw [bE, aI.l4]
    refine gE ?_
    refine eC hc ?_
    clear hne
    generalize l.getD i 0 = y1 at *
    generalize l.getD (i - 1) 0 = y2 at *
    generalize l'.take kk' ++ List.replicate (n - kk') 0 = lz at *
    have fx := aMC ln <| aMC g1 <| aMC d1 <| aMC d2 <| aMC e1 <| aMC e2 <| aMC l1 <| aMC l2 <| aMC g2 <| aMC s1 <| aMC s2 <| aMC s3 <| c1
    have lx1 := w'
    refine gV ?_
    refine gJ ?_; rfl
   ·rw [List.getD_eq_getElem?_getD, List.getElem?_append_left (by simp [r1]; omega), List.getElem?_take_of_lt hj, ← List.getD_eq_getElem?_getD]
    exact aAR r2 (by omega)
  ·have g2 : aW Tryd.prog .eql 3 false (Nn (l.getD i 0)) (Nn (l.getD (i - 1) 0)) = some (.bool false) := aAZ hne
   have ih := aGl hn hk d (i + 1) f l (by omega) (by omega) hl hP (by omega)
   have st : dP (aI.l4 G k H.length self) (f + 1) [dS p n, .nils, Nn i] (SO H p l) = dP (aI.l4 G k H.length self) f [dS p n, .nils, Nn (i + 1 : Nat)] (SO H p l) := by
    generalize hgen : dP (aI.l4 G k H.length self) f [dS p n, .nils, Nn (i + 1 : Nat)] (SO H p l) = rr
    rw [bE, aI.l4]
    refine gE ?_
    refine eC hc ?_
    clear hne ih
    generalize l.getD i 0 = y1 at *
    generalize l.getD (i - 1) 0 = y2 at *
    have fx := aMC ln <| aMC g1 <| aMC d1 <| aMC d2 <| aMC e1 <| aMC e2 <| aMC l1 <| aMC l2 <| g2
    refine gV ?_
    exact hgen
   rw [st]; exact ih
include hS in
theorem aGm (hn : n ≤ 1000) (hk : n < k) (l : List Nat) (hl : l.length = n) (hP : ∀ x ∈ l, P x) :
  ∃ (m : Nat) (l' : List Nat), bC (aI.f G (k + 1)) [dS p n] (SO H p l) = some (.sl p n 0 m 1, SO H p l') ∧ m ≤ n ∧ l'.length = n ∧ ∀ j, j < m → P (l'.getD j 0) := by
 have hlen := iI H p l
 have ln : dN (dS p n) = some (Nn n) := rfl
 have hp : decide (p < H.length) = true := decide_eq_true hS.hp
 have fin : ∀ (m : Nat) (l' : List Nat), cF [.sl p n 0 m 1] H.length (SO H p l') = some (.ret, [.sl p n 0 m 1], SO H p l') := fun m l' => by
  unfold cF
  rw [gQ hS.hb l' _ (by simp only [cJ, cE, hp, Bool.and_self])]
  have e : rG (SO H p l') H.length 6 (oQ [.sl p n 0 m 1]) = some (.sl p n 0 m 1) := by
   simp only [oQ, rG, cE, hp]
  simp only [e]
 have hc : ∀ {r : AV} {l' : List Nat}, aI.f G (k + 1) [dS p n] (SO H p l) = some (r, SO H p l') → bC (aI.f G (k + 1)) [dS p n] (SO H p l) = some (r, SO H p l') := fun h => by
  unfold bC; rw [h]; simp only [iI, Nat.le_refl, if_true]
 by_cases h2 : n < 2
 ·have g1 : aW Tryd.prog .lss 3 true (Nn n) (.int .i64 2) = some (.bool true) := gN (by omega)
  refine ⟨n, l, hc ?_, Nat.le_refl _, hl, fun j hj => aAR hP (by omega)⟩
  have fin' := fin n l
  rw [aI.step]
  unfold aI.c
  rw [← hlen] at fin'
  refine gS ?_
  have fx := aMC ln <| g1
  refine gV ?_
  exact oF fin'
 ·have g1 : aW Tryd.prog .lss 3 true (Nn n) (.int .i64 2) = some (.bool false) := gF (by omega)
  rcases aGl G k (aI.f G k) hS (P := P) hn hk (n - 1) 1 k l (by omega) (by omega) hl hP (by omega) with w | ⟨z, m, l', w, r1, r2, r3⟩
  ·have w' : dP (aI.l4 G k (SO H p l).length (aI.f G k)) k [dS p n, .nils, .int .i64 1] (SO H p l) = some (.exit 0, [dS p n, .nils, Nn n], SO H p l) := by
    rw [hlen]; exact w
   refine ⟨n, l, hc ?_, Nat.le_refl _, hl, fun j hj => aAR hP (by omega)⟩
   have fin' := fin n l
   rw [aI.step]
   unfold aI.c
   rw [← hlen] at fin'
   refine gS ?_
   have fx := aMC ln <| g1
   have lx1 := w'
   refine gV ?_
   exact oF fin'
  ·have w' : dP (aI.l4 G k (SO H p l).length (aI.f G k)) k [dS p n, .nils, .int .i64 1] (SO H p l) = some (.ret, [dS p n, .sl p n 0 m 1, z], SO H p l') := by
    rw [hlen]; exact w
   refine ⟨m, l', hc ?_, r1, r2, r3⟩
   have fin' := fin m l'
   rw [aI.step]
   unfold aI.c
   rw [← hlen] at fin'
   refine gS ?_
   have fx := aMC ln <| g1
   have lx1 := w'
   refine gV ?_
   exact oF fin'
end
def tF (w : WI) (f : Frm) : aB := [⟨100, 6, [fZ (cN w.op) f]⟩, ⟨3, 1, []⟩]
theorem aIK (w : WI) (f : Frm) : SB (tF w f) 1 := ⟨by show 1 < 2; decide, by simp [tF, dQ, cJ, cE, fZ]⟩
def flR (f : Frm) : AV := .ro false [.bool f.a, .bool f.b, .bool f.c]
def rF (w : WI) (f : Frm) (n j : Nat) : List AV := [.rp false w.v 0, .sl 1 n 0 n 1, flR f, .int .i64 3, Nn j]
def xW (w : WI) (j : Nat) : Int := if j = 0 then w.a else if j = 1 then w.b else w.c
def fgR (f : Frm) (j : Nat) : Bool := if j = 0 then f.a else if j = 1 then f.b else f.c
section
variable (G : aF) (k : Nat) (self : cC) (w : WI) (f : Frm)
theorem xV (n j : Nat) : cJ 2 (rF w f n j) = true := by simp [rF, flR, cJ, cE, WI.v]
theorem aKN (l : List Nat) (x : Nat) (hl : l.length ≤ 100) : fY 3 1 (.sl 1 l.length 0 l.length 1) (.ro false [Nn x]) (SO (tF w f) 1 l) = some (.sl 1 (l ++ [x]).length 0 (l ++ [x]).length 1, SO (tF w f) 1 (l ++ [x])) := by
 have e : (SO (tF w f) 1 l)[1]? = some ⟨3, 1, eP l⟩ := rfl
 have e2 : iF (.ro false [Nn x]) (SO (tF w f) 1 l) = some [Nn x] := rfl
 unfold fY
 simp only [e, e2, gK]
 rw [if_pos (by refine ⟨?_, ?_, ?_, ?_, ?_⟩ <;> first | trivial | rfl | (show l.length + 1 ≤ _; omega))]
 have e2 : (eP l).take l.length = eP l := List.take_of_length_le (by rw [gK]; exact Nat.le_refl _)
 have e3 : (eP l).drop (l.length + [Nn x].length) = [] := List.drop_of_length_le (by rw [gK]; exact Nat.le_add_right _ _)
 have e4 : eP l ++ [Nn x] = eP (l ++ [x]) := by simp [eP]
 rw [e2, e3, List.append_nil, e4, gK, aAn]
 simp
theorem aAm (j : Nat) (hj : j < 3) (l : List Nat) (hl : l.length ≤ 100) (hv : fgR f j = true → 0 ≤ xW w j) (n : Nat) :
  dP (dC.l4 G k 2 self) (n + 1) (rF w f l.length j) (SO (tF w f) 1 l) = dP (dC.l4 G k 2 self) n (rF w f (if fgR f j = true then l ++ [(xW w j).toNat] else l).length (j + 1)) (SO (tF w f) 1 (if fgR f j = true then l ++ [(xW w j).toNat] else l)) := by
 have hc : fU 2 (rF w f l.length j) (SO (tF w f) 1 l) = some (SO (tF w f) 1 l) := gQ (aIK w f).hb l _ (xV w f _ _)
 have g1 : aW Tryd.prog .lss 3 false (Nn j) (.int .i64 3) = some (.bool true) := gN (by omega)
 have q2 : aW Tryd.prog .add 3 true (Nn j) (.int .i64 1) = some (Nn (j + 1 : Nat)) := mP (by omega)
 have hb : ∃ b, fgR f j = b := ⟨_, rfl⟩
 obtain ⟨b, hb⟩ := hb
 have d1 : aM 1 (flR f) (Nn j) = some (.rp false (.bool b) 0) := by
  rw [← hb]
  have : j = 0 ∨ j = 1 ∨ j = 2 := by omega
  rcases this with rfl | rfl | rfl <;> rfl
 have l1 : ∀ H, aD G false 1 (.rp false (.bool b) 0) H = some (.bool b) := fun H => rfl
 have f2 := gi2 w
 have f3 := gi3 w
 have f4 := gi4 w
 have v2 := aJL G w
 have v3 := gl3 G w
 have v4 := aLy G w
 have br : ∀ H, fS 1 3 (.int .i64 0) [(0, I6 w.a), (1, I6 w.b), (2, I6 w.c)] H = some (.ro false [I6 w.a, I6 w.b, I6 w.c], H) := fun H => rfl
 have d2 : aM 1 (.ro false [I6 w.a, I6 w.b, I6 w.c]) (Nn j) = some (.rp false (I6 (xW w j)) 0) := by
  have : j = 0 ∨ j = 1 ∨ j = 2 := by omega
  rcases this with rfl | rfl | rfl <;> rfl
 have l2 : ∀ H, aD G false 1 (.rp false (I6 (xW w j)) 0) H = some (I6 (xW w j)) := fun H => rfl
 have b2 : ∀ H, fS 1 1 (.int .i64 0) [(0, I6 (xW w j))] H = some (.ro false [I6 (xW w j)], H) := fun H => rfl
 rw [hb]
 rw [hb] at hv
 generalize hrr : dP (dC.l4 G k 2 self) n (rF w f (if b = true then l ++ [(xW w j).toNat] else l).length (j + 1)) (SO (tF w f) 1 (if b = true then l ++ [(xW w j).toNat] else l)) = rr
 rw [bE, dC.l4]
 refine gE ?_
 refine eC hc ?_
 cases b with
 | true =>
  have hv' := hv rfl
  have en : I6 (xW w j) = Nn (xW w j).toNat := by
   show AV.int .i64 (xW w j) = .int .i64 ((xW w j).toNat : Int)
   rw [Int.toNat_of_nonneg hv']
  have a1 := aKN w f l (xW w j).toNat hl
  rw [← en] at a1
  rw [if_pos rfl] at hrr
  generalize l ++ [(xW w j).toNat] = l' at *
  clear hv hv' en
  unfold rF at hrr ⊢
  generalize flR f = fl at *
  generalize xW w j = rj at *
  generalize w.v = wv at *
  have fx := aMC g1 <| aMC q2 <| aMC d1 <| aMC l1 <| aMC f2 <| aMC f3 <| aMC f4 <| aMC v2 <| aMC v3 <| aMC v4 <| aMC br <| aMC d2 <| aMC l2 <| aMC b2 <| a1
  refine gV ?_
  exact hrr
 | false =>
  rw [if_neg (by decide)] at hrr
  clear hv
  unfold rF at hrr ⊢
  generalize flR f = fl at *
  have fx := aMC g1 <| aMC q2 <| aMC d1 <| l1
  refine gV ?_
  exact hrr
theorem aKO (l : List Nat) (n : Nat) :
  dP (dC.l4 G k 2 self) (n + 1) (rF w f l.length 3) (SO (tF w f) 1 l) = some (.exit 0, rF w f l.length 3, SO (tF w f) 1 l) := by
 have hc : fU 2 (rF w f l.length 3) (SO (tF w f) 1 l) = some (SO (tF w f) 1 l) := gQ (aIK w f).hb l _ (xV w f _ _)
 have g1 : aW Tryd.prog .lss 3 false (Nn 3) (.int .i64 3) = some (.bool false) := gF (by omega)
 rw [bE, dC.l4]
 refine gE ?_
 refine eC hc ?_
 unfold rF
 have fx := g1
 refine gV ?_
 refine gJ ?_; rfl
def rI (w : WI) (f : Frm) (j : Nat) (l : List Nat) : List Nat := if fgR f j = true then l ++ [(xW w j).toNat] else l
theorem oZ (j : Nat) (l : List Nat) : (rI w f j l).length ≤ l.length + 1 := by unfold rI; split <;> simp
theorem vX {P : Nat → Prop} {j : Nat} {l : List Nat} (h : ∀ x ∈ l, P x) (h2 : fgR f j = true → P (xW w j).toNat) : ∀ x ∈ rI w f j l, P x := by
 unfold rI
 by_cases e : fgR f j = true
 ·rw [if_pos e]
  intro x hx
  rcases List.mem_append.1 hx with hx | hx
  ·exact h x hx
  ·rw [List.mem_singleton.1 hx]; exact h2 e
 ·rw [if_neg e]; exact h
theorem aCH (l : List Nat) : iY (eP l) = true := mK _ (fun _ => rfl) l
theorem aGM (l : List Nat) : mZ 1 (eP l) = true := pW 1 _ (fun _ => rfl) l
theorem aDp {R n : Nat} (hg : w.Good R n) (hk : 10 ≤ k) : ∃ l : List Nat, dC.f G (k + 20) [w.v] [] = some (.ro false (eP l), []) ∧ (∀ x ∈ l, x < R) ∧ l.length ≤ 3 := by
 obtain ⟨ga, gb, gc⟩ := tJ hg
 obtain ⟨F, hF⟩ : ∃ F, dO w.op = F := ⟨_, rfl⟩
 rw [hF] at ga gb gc
 have hfg : ∀ j, j < 3 → fgR F j = true → 0 ≤ xW w j ∧ xW w j < R := fun j hj => by
  have : j = 0 ∨ j = 1 ∨ j = 2 := by omega
  rcases this with rfl | rfl | rfl
  ·exact ga
  ·exact gb
  ·exact gc
 have hlt : ∀ j, j < 3 → fgR F j = true → (xW w j).toNat < R := fun j hj h => by have := hfg j hj h; omega
 obtain ⟨l3, e3⟩ : ∃ l, l = rI w F 2 (rI w F 1 (rI w F 0 [])) := ⟨_, rfl⟩
 have k3 : l3.length ≤ 3 := by
  have h1 := oZ w F 0 []
  have h2 := oZ w F 1 (rI w F 0 [])
  have h3 := oZ w F 2 (rI w F 1 (rI w F 0 []))
  rw [e3]; simp only [List.length_nil] at h1; omega
 have a3 : ∀ x ∈ l3, x < R := by
  rw [e3]
  exact vX w F (vX w F (vX w F (fun x hx => by cases hx) (hlt 0 (by omega))) (hlt 1 (by omega))) (hlt 2 (by omega))
 have lp : dP (dC.l4 G (k + 19) 2 (dC.f G (k + 19))) (k + 19) (rF w F 0 0) (tF w F) = some (.exit 0, rF w F l3.length 3, SO (tF w F) 1 l3) := by
  have h1 := oZ w F 0 []
  have h2 := oZ w F 1 (rI w F 0 [])
  simp only [List.length_nil] at h1
  have r1 := aAm G (k + 19) (dC.f G (k + 19)) w F 0 (by omega) [] (by decide) (fun h => (hfg 0 (by omega) h).1) (k + 18)
  have r2 := aAm G (k + 19) (dC.f G (k + 19)) w F 1 (by omega) (rI w F 0 []) (by omega) (fun h => (hfg 1 (by omega) h).1) (k + 17)
  have r3 := aAm G (k + 19) (dC.f G (k + 19)) w F 2 (by omega) (rI w F 1 (rI w F 0 [])) (by omega) (fun h => (hfg 2 (by omega) h).1) (k + 16)
  have r4 := aKO G (k + 19) (dC.f G (k + 19)) w F l3 (k + 15)
  rw [e3] at r4 ⊢
  exact r1.trans (r2.trans (r3.trans r4))
 obtain ⟨l4, s4, pm⟩ := aGr G (k + 14) (aIK w F) k3 (by omega) l3 rfl
 have a4 : ∀ x ∈ l4, x < R := fun x hx => a3 x (pm.subset hx)
 have k4 : l4.length = l3.length := pm.length_eq
 obtain ⟨m, l5, s5, m5, k5, a5⟩ := aGm (P := fun x => x < R) G (k + 18) (aIK w F) (by omega) (by omega) l4 k4 a4
 refine ⟨l5.take m, ?_, fun x hx => ?_, by rw [List.length_take]; omega⟩
 ·rw [dC.step]
  unfold dC.c
  have r0 : ∀ H, aU (eF.f G (k + 19)) [I6 w.op] H = _ := fun H => cD (H := H) (iQ G (k + 15) w.op) rfl rfl
  rw [hF] at r0
  have b0 := aKC w
  have f0 := gi0 w
  have v0 := aJK G w
  have b1 : fV 100 (.agg [(.str ⟨#[]⟩), (.bool false), (.bool false), (.bool false), (.bool false), (.bool false)]) [] = some (.ptr 0 1 0 0, [⟨100, 6, [(.agg [(.str ⟨#[]⟩), (.bool false), (.bool false), (.bool false), (.bool false), (.bool false)])]⟩]) := rfl
  have st : fP (aT 6 (.ptr 0 1 0 0) (fZ (cN w.op) F) [⟨100, 6, [(.agg [(.str ⟨#[]⟩), (.bool false), (.bool false), (.bool false), (.bool false), (.bool false)])]⟩]) = some (.tup [], [⟨100, 6, [fZ (cN w.op) F]⟩]) := rfl
  have f2 : aA 2 (.ptr 0 1 0 0) = some (.ptr 0 1 0 2) := rfl
  have f3 : aA 3 (.ptr 0 1 0 0) = some (.ptr 0 1 0 3) := rfl
  have f4 : aA 4 (.ptr 0 1 0 0) = some (.ptr 0 1 0 4) := rfl
  have v2 : aD G false 1 (.ptr 0 1 0 2) ([⟨100, 6, [fZ (cN w.op) F]⟩] ++ [⟨3, 1, []⟩]) = some (.bool F.a) := rfl
  have v3 : aD G false 1 (.ptr 0 1 0 3) ([⟨100, 6, [fZ (cN w.op) F]⟩] ++ [⟨3, 1, []⟩]) = some (.bool F.b) := rfl
  have v4 : aD G false 1 (.ptr 0 1 0 4) ([⟨100, 6, [fZ (cN w.op) F]⟩] ++ [⟨3, 1, []⟩]) = some (.bool F.c) := rfl
  have br : ∀ H, fS 1 3 (.bool false) [(0, .bool F.a), (1, .bool F.b), (2, .bool F.c)] H = some (flR F, H) := fun H => rfl
  have ln : dN (flR F) = some (.int .i64 3) := rfl
  have hlen : (tF w F).length = 2 := rfl
  have fin : cF [.sl 1 l3.length 0 m 1] 0 (SO (tF w F) 1 l5) = some (.ret, [.ro false (eP (l5.take m))], []) := by
   have hb : (SO (tF w F) 1 l5)[1]? = some ⟨3, 1, eP l5⟩ := rfl
   have h1 : cE 0 (.sl 1 l3.length 0 m 1) = false := by simp [cE]
   have h3 : iF (.sl 1 l3.length 0 m 1) (SO (tF w F) 1 l5) = some (eP (l5.take m)) := by
    simp only [iF, hb, gK, k5, if_true, List.drop_zero]
    unfold eP; rw [List.map_take]
   have h2 : oH (uF (rG (SO (tF w F) 1 l5) 0 5)) (eP (l5.take m)) = some (eP (l5.take m)) := sL fun x h => yW (nY (jY 0 _) x h)
   have h4 : rG (SO (tF w F) 1 l5) 0 6 (.sl 1 l3.length 0 m 1) = some (.ro false (eP (l5.take m))) := by
    unfold rG
    simp only [h1, h3, aGM, h2]
   have := aAP h4 (by rfl)
   rw [this]; rfl
  unfold rF at lp
  have s4' : bC (bJ.f G (k + 19)) [dS 1 l3.length] (SO (tF w F) 1 l3) = some (.tup [], SO (tF w F) 1 l4) := s4
  have lp' : dP (dC.l4 G (k + 19) (List.length (([⟨100, 6, [fZ (cN w.op) F]⟩] ++ [⟨3, 1, []⟩]) : aB)) (dC.f G (k + 19))) (k + 19) [.rp false w.v 0, .sl (List.length [(⟨100, 6, [fZ (cN w.op) F]⟩ : ABlk)]) 0 0 0 1, flR F, .int .i64 3, .int .i64 0] ([⟨100, 6, [fZ (cN w.op) F]⟩] ++ [⟨3, 1, []⟩]) = some (.exit 0, [.rp false w.v 0, .sl 1 l3.length 0 l3.length 1, flR F, .int .i64 3, Nn 3], SO (tF w F) 1 l3) := lp
  clear lp
  generalize w.v = wv at *
  generalize fZ (cN w.op) F = fv at *
  generalize flR F = fl at *
  generalize tF w F = HR at *
  refine gS ?_
  have fx := aMC r0 <| aMC b0 <| aMC f0 <| aMC v0 <| aMC b1 <| aMC st <| aMC f2 <| aMC f3 <| aMC f4 <| aMC v2 <| aMC v3 <| aMC v4 <| aMC br <| aMC ln <| aMC s4' <| s5
  have lx1 := lp'
  refine gV ?_
  exact oF fin
 ·obtain ⟨j, hj, rfl⟩ := List.getElem_of_mem hx
  rw [List.length_take] at hj
  have := a5 j (by omega)
  rw [List.getD_eq_getElem?_getD, List.getElem?_eq_getElem (by omega)] at this
  simpa using this
theorem aBP (op d a b c kk : Int) (H : aB) : eO.f G (k + 6) [WI.v ⟨op, d, a, b, c, kk⟩] [] = some (.tup [I6 (if (dO op).d = true then d else 0), .bool (dO op).d], []) := by
 rw [eO.step]
 unfold eO.c
 have r0 : ∀ H, aU (eF.f G (k + 5)) [I6 op] H = _ := fun H => cD (H := H) (iQ G (k + 1) op) rfl rfl
 have b0 := aKC (⟨op, d, a, b, c, kk⟩ : WI)
 have f0 := gi0 (⟨op, d, a, b, c, kk⟩ : WI)
 have f1 := gi1 (⟨op, d, a, b, c, kk⟩ : WI)
 have v0 := aJK G (⟨op, d, a, b, c, kk⟩ : WI)
 have v1 := aLx G (⟨op, d, a, b, c, kk⟩ : WI)
 have b1 : fV 100 (.agg [(.str ⟨#[]⟩), (.bool false), (.bool false), (.bool false), (.bool false), (.bool false)]) [] = some (.ptr 0 1 0 0, [⟨100, 6, [(.agg [(.str ⟨#[]⟩), (.bool false), (.bool false), (.bool false), (.bool false), (.bool false)])]⟩]) := rfl
 obtain ⟨F, hF⟩ : ∃ F, dO op = F := ⟨_, rfl⟩
 rw [hF] at r0 ⊢
 have st : fP (aT 6 (.ptr 0 1 0 0) (fZ (cN op) F) [⟨100, 6, [(.agg [(.str ⟨#[]⟩), (.bool false), (.bool false), (.bool false), (.bool false), (.bool false)])]⟩]) = some (.tup [], [⟨100, 6, [fZ (cN op) F]⟩]) := rfl
 have ff : aA 1 (.ptr 0 1 0 0) = some (.ptr 0 1 0 1) := rfl
 have vf : aD G false 1 (.ptr 0 1 0 1) [⟨100, 6, [fZ (cN op) F]⟩] = some (.bool F.d) := rfl
 have fin : ∀ (x : Int) (b : Bool), cF [I6 x, .bool b] 0 [⟨100, 6, [fZ (cN op) F]⟩] = some (.ret, [.tup [I6 x, .bool b]], []) := fun x b => rfl
 have fin1 := fin d true
 have fin2 := fin 0 false
 cases hd : F.d with
 | true =>
  rw [hd] at vf
  rw [if_pos rfl]
  generalize WI.v ⟨op, d, a, b, c, kk⟩ = wv at *
  generalize fZ (cN op) F = fv at *
  refine gS ?_
  have fx := aMC r0 <| aMC b0 <| aMC f0 <| aMC f1 <| aMC v0 <| aMC v1 <| aMC b1 <| aMC st <| aMC ff <| vf
  refine gV ?_
  exact oF fin1
 | false =>
  rw [hd] at vf
  rw [if_neg (by decide)]
  generalize WI.v ⟨op, d, a, b, c, kk⟩ = wv at *
  generalize fZ (cN op) F = fv at *
  refine gS ?_
  have fx := aMC r0 <| aMC b0 <| aMC f0 <| aMC f1 <| aMC v0 <| aMC v1 <| aMC b1 <| aMC st <| aMC ff <| vf
  refine gV ?_
  exact oF fin2
end
theorem aEZ {L : LY} {R S N : Nat} {ws : List WI} {F fuel : Int} (hL : L.Ok R S N) (hw : ∀ w ∈ ws, w.Good R ws.length) (hF : F ≤ 99999) (hfuel : 8 * F + 20 < fuel) : ∀ (f : Nat) (s s' q : MS), jW ws F f s = some s' → s'.code ≠ 4 → s.Ok R → RelA L R S N s.regs s.mem q.regs q.mem → q.at_ = L.at_ ws s.at_ → s.at_ ≤ ws.length → (s.steps : Int) ≤ F → q.steps ≤ 8 * s.steps →
  ∃ (m : Nat) (q' : MS) (T : List (Int × Int)), (m : Int) ≤ 9 * (F - s.steps) + 1 ∧ aDn (L.out ws) fuel q m q' ∧ q'.code = s'.code ∧ RelA L R S N s'.regs s'.mem q'.regs q'.mem ∧ s'.leaks = s.leaks ++ T ∧ ∀ pc, q'.leaks = q.leaks ++ L.mlk ws pc T
 | 0, s, s', q, h, _, _, _, _, _, _, _ => by simp [jW] at h
 | f + 1, s, s', q, h, hc, hs, hsim, hqa, hat, hst, hq => by
  simp only [jW] at h
  obtain ⟨qr, qa, qc, qm, qlk, qst⟩ := q
  simp only at hsim hqa hq
  by_cases h1 : ws.length ≤ s.at_
  ·rw [if_pos h1] at h; simp only [Option.some.injEq] at h; subst h
   have hp : qa = (L.out ws).length := by rw [hqa, show s.at_ = ws.length by omega, aJN]
   have g := aGg (fuel := fuel) (cs := L.out ws) (cd := qc) (mem := qm) (r := qr) (lk := qlk) (st := qst) (p := qa) (by omega)
   exact ⟨1, _, [], by omega, g, rfl, hsim, by simp, fun pc => by simp [LY.mlk]⟩
  rw [if_neg h1] at h
  by_cases h2 : (s.steps : Int) = F
  ·rw [if_pos h2] at h; simp only [Option.some.injEq] at h; subst h
   exact absurd rfl hc
  rw [if_neg h2] at h
  have hj : s.at_ < ws.length := by omega
  have hmemi : ws.getD s.at_ default ∈ ws := by
   rw [List.getD_eq_getElem?_getD, List.getElem?_eq_getElem hj]; exact List.getElem_mem hj
  have hg := hw _ hmemi
  have okt : s.tick.Ok R := ⟨hs.len, hs.regs, hs.mem, by have := hs.leaks; simp [MS.tick, MS.leak]; omega, hs.big, by simp [MS.tick, MS.leak]; omega⟩
  obtain ⟨o1, o2, o3, o4⟩ := MS.step_ok okt hg.ok2.ok (by have := hs.leaks; simp [MS.tick, MS.leak]; omega) (show s.tick.at_ < ws.length from hj)
  have tst : s.tick.steps = s.steps + 1 := rfl
  subst hqa
  obtain ⟨sr, sa, sc, sm, slk, sst⟩ := s
  obtain ⟨s2, b, hsb, m, q2, Y, X, m9, hY, hX, hmk, hqs, hrel, hgo, hend⟩ := aFM (fuel := fuel) (sc := sc) (slk := slk) (sst := sst) (cd := qc) (lk := qlk) (st := qst) hL hsim hj rfl hg (by simp only at hst hq h2; omega)
  rw [hsb] at h o1 o2 o3 o4
  simp only at h o1 o2 o3 o4 hst hq h2 tst hY hX hqs hmk ⊢
  cases b
  ·simp only [Option.some.injEq] at h
   subst h
   obtain ⟨he, hcode⟩ := hend rfl
   refine ⟨m, q2, Y, by omega, he, hcode, hrel, hY, fun pc => ?_⟩
   have := hmk pc []
   rw [List.append_nil] at this
   rw [hX, this]; simp [LY.mlk]
  ·obtain ⟨hgo, hqa2⟩ := hgo rfl
   obtain ⟨m2, q', T, hm2, he, hcode, hmem, hT, hmlk⟩ := aEZ hL hw hF hfuel f s2 s' q2 h hc o1 hrel hqa2 o2 (by rw [o3, tst]; push_cast; omega) (by rw [o3, tst]; omega)
   rw [o3, tst] at hm2
   refine ⟨m + m2, q', Y ++ T, by push_cast at hm2 ⊢; omega, hgo.ends he, hcode, hmem, by rw [hT, hY, List.append_assoc], fun pc => ?_⟩
   rw [hmlk sa, hX, hmk, List.append_assoc]
theorem mL (n j : Nat) : (List.replicate n 0).getD j 0 = 0 := by
 rw [List.getD_eq_getElem?_getD, List.getElem?_replicate]; split <;> rfl
def gX (mem : List Nat) (n : Nat) : List Nat := mem.take n ++ List.replicate (n - mem.length) 0
theorem tK (mem : List Nat) (n : Nat) (h : mem.length ≤ n) : (gX mem n).length = n := by unfold gX; simp; omega
theorem zE (mem : List Nat) (n j : Nat) (h : mem.length ≤ n) : (gX mem n).getD j 0 = mem.getD j 0 := by
 unfold gX
 rw [List.take_of_length_le h]
 by_cases hj : j < mem.length
 ·rw [List.getD_eq_getElem?_getD, List.getElem?_append_left hj, ← List.getD_eq_getElem?_getD]
 ·rw [List.getD_eq_getElem?_getD, List.getElem?_append_right (by omega), ← List.getD_eq_getElem?_getD, mL, List.getD_eq_getElem?_getD, List.getElem?_eq_none (by omega)]; rfl
theorem aMa {L : LY} {R S N : Nat} (hL : L.Ok R S N) (mem : List Nat) (hm : mem.length = L.M) : RelA L R S N (List.replicate R 0) mem (List.replicate S 0) (gX mem N) := by
 have hn : mem.length ≤ N := by rw [hm]; exact hL.mn
 refine ⟨by simp, by simp, mL _ _, hm, tK _ _ hn, fun r hr h0 => by rw [mL, mL], fun r hr h0 => ?_, fun j hj => zE _ _ _ hn⟩
 have hb := hL.wd r hr h0
 rw [zE _ _ _ hn, mL, List.getD_eq_getElem?_getD, List.getElem?_eq_none (by omega)]; rfl
theorem aIL {L : LY} {R S N : Nat} {ws : List WI} {F fuel : Int} {K f : Nat} (hL : L.Ok R S N) (hw : ∀ w ∈ ws, w.Good R ws.length) (h0 : 0 ≤ F) (hF : F ≤ 99999) (hfuel : 8 * F + 20 < fuel) (mem : List Nat) (hm : mem.length = L.M) (hmm : ∀ x ∈ mem, x < 18446744073709551616) (s' : MS) (h : jW ws F f (s0 R mem) = some s') (hc : s'.code ≠ 4) (hK : 9 * F + 1 ≤ K) :
  ∃ q', jW (L.out ws) fuel K (s0 S (gX mem N)) = some q' ∧ q'.code = s'.code ∧ RelA L R S N s'.regs s'.mem q'.regs q'.mem ∧ q'.leaks = L.mlk ws 0 s'.leaks := by
 have hn := hL.n
 have hmn := hL.mn
 obtain ⟨m, q', T, hm, he, h1, h2, h3, h4⟩ := aEZ hL hw hF hfuel f (s0 R mem) s' (s0 S (gX mem N)) h hc (aHG R mem hmm (by omega)) (aMa hL mem hm) (by simp [s0, LY.at_, LY.flat]) (by simp [s0]) (by simp only [s0]; omega) (by simp [s0])
 have e : s'.leaks = T := by rw [h3]; simp [s0]
 refine ⟨q', ?_, h1, h2, by rw [h4 0, e]; simp [s0]⟩
 have hs0 : (s0 R mem).steps = 0 := rfl
 rw [hs0] at hm
 have := he (K - m)
 rw [show K - m + m = K by omega] at this
 exact this
theorem xB {ws : List WI} {F F2 : Int} (hF : F ≤ F2) : ∀ (f : Nat) (s s' : MS), jW ws F f s = some s' → s'.code ≠ 4 → (s.steps : Int) ≤ F → jW ws F2 f s = some s'
 | 0, s, s', h, _, _ => by simp [jW] at h
 | f + 1, s, s', h, hc, hs => by
  simp only [jW] at h ⊢
  by_cases h1 : ws.length ≤ s.at_
  ·rw [if_pos h1] at h ⊢; exact h
  rw [if_neg h1] at h ⊢
  by_cases h2 : (s.steps : Int) = F
  ·rw [if_pos h2] at h; simp only [Option.some.injEq] at h; subst h
   exact absurd rfl hc
  rw [if_neg h2] at h
  rw [if_neg (by omega)]
  have e : ∀ i, (s.tick.step i).1.steps = s.steps + 1 := fun i => by
   unfold MS.step MS.touch MS.branch
   simp only
   repeat' split
   all_goals rfl
  have e' := e (ws.getD s.at_ default)
  obtain ⟨s2, b, hsb⟩ : ∃ s2 b, s.tick.step (ws.getD s.at_ default) = (s2, b) := ⟨_, _, rfl⟩
  rw [hsb] at e' h ⊢
  cases b
  ·exact h
  ·exact xB hF f s2 s' h hc (by simp only at e'; omega)
section
variable {L : LY} {R S N : Nat}
theorem jZ {i : WI} {S n : Int} (hf : (fQ i.op).isSome = true) (ho : kK (dO i.op) i S = false) (hz : kS (dO i.op) i = false) (h1 : 10 ≤ i.op → i.op ≤ 12 → 0 ≤ i.k ∧ i.k ≤ 63) (h2 : i.op = 20 → 0 ≤ i.k ∧ i.k ≤ 2) (h3 : i.op = 15 ∨ i.op = 16 → 0 ≤ i.k ∧ i.k ≤ 65535) (h4 : 17 ≤ i.op → i.op ≤ 19 → 0 ≤ i.k ∧ i.k ≤ n) : fW i S n = none := by
 unfold fW
 rw [hf, ho, hz]
 simp only [Bool.true_eq_false, Bool.false_eq_true, if_false]
 by_cases a1 : i.op = 10 ∨ i.op = 11 ∨ i.op = 12
 ·have := h1 (by omega) (by omega)
  rw [if_pos a1, if_neg (by omega)]
 rw [if_neg a1]
 by_cases a2 : i.op = 20
 ·have := h2 a2
  rw [if_pos a2, if_neg (by omega)]
 rw [if_neg a2]
 by_cases a3 : i.op = 15 ∨ i.op = 16
 ·have := h3 a3
  rw [if_pos a3, if_neg (by omega)]
 rw [if_neg a3]
 by_cases a4 : i.op = 17 ∨ i.op = 18 ∨ i.op = 19
 ·have := h4 (by omega) (by omega)
  rw [if_pos a4, if_neg (by omega)]
 rw [if_neg a4]
end
theorem wS {i : WI} {R n : Int} (h : fW i R n = none) : (fQ i.op).isSome = true ∧ kK (dO i.op) i R = false ∧ kS (dO i.op) i = false := by
 unfold fW at h
 by_cases h0 : (fQ i.op).isSome = false
 ·rw [if_pos h0] at h; cases h
 rw [if_neg h0] at h
 by_cases h1 : kK (dO i.op) i R = true
 ·rw [if_pos h1] at h; cases h
 rw [if_neg h1] at h
 by_cases h2 : kS (dO i.op) i = true
 ·rw [if_pos h2] at h; cases h
 have b1 : ∀ b : Bool, ¬ b = false → b = true := by decide
 have b2 : ∀ b : Bool, ¬ b = true → b = false := by decide
 exact ⟨b1 _ h0, b2 _ h1, b2 _ h2⟩
theorem yR {R n : Int} : ∀ {l : List WI} {j : Nat}, kQ R n l j = .ok → ∀ i ∈ l, fW i R n = none
 | [], _, _, i, hi => by cases hi
 | x :: l, j, h, i, hi => by
  unfold kQ at h
  split at h
  ·cases h
  ·rename_i ho
   rcases List.mem_cons.1 hi with rfl | hi
   ·exact ho
   ·exact yR h i hi
theorem aEn {R n : Int} : ∀ (l : List WI) (j : Nat), (∀ i ∈ l, fW i R n = none) → kQ R n l j = .ok
 | [], _, _ => rfl
 | x :: l, j, h => by
  unfold kQ
  rw [h x (List.mem_cons_self ..)]
  exact aEn l (j + 1) fun i hi => h i (List.mem_cons_of_mem _ hi)
theorem aDf {cs : List WI} {R M : Int} (h : gO cs R M = .ok) : ∀ i ∈ cs, fW i R cs.length = none := by
 have hb := (qI h).1
 unfold gO at h
 rw [if_neg (by omega), if_neg (by omega)] at h
 exact yR h
theorem aFQ {cs : List WI} {R M : Int} (h0 : cs.length ≤ 262144) (h1 : 0 ≤ R ∧ R ≤ 65536) (h2 : 0 ≤ M ∧ M ≤ 65536) (h : ∀ i ∈ cs, fW i R cs.length = none) : gO cs R M = .ok := by
 unfold gO
 rw [if_neg (by omega), if_neg (by omega)]
 exact aEn cs 0 h
section
variable {L : LY} {R S N : Nat} {P : List Nat} {m : Nat}
theorem aBj (hL : L.Ok R S N) {v into : Int} (hv : 0 ≤ v ∧ v < R) (hi : 1 ≤ into ∧ into ≤ 3) : 0 ≤ L.rdR v into ∧ L.rdR v into < S := by
 have := hL.s6
 unfold LY.rdR
 by_cases h0 : L.sl v = 0
 ·rw [if_pos h0]; omega
 ·rw [if_neg h0]; have : L.sl v < S := (hL.sl v.toNat (by omega) h0).2; omega
theorem aKD (hL : L.Ok R S N) {v : Int} (hv : 0 ≤ v ∧ v < R) : 0 ≤ L.wrR v ∧ L.wrR v < S := aBj hL (into := 1) hv (by decide)
theorem aJM (hL : L.Ok R S N) {v : Int} (hv : 0 ≤ v ∧ v < R) (h0 : L.sl v = 0) : (0 : Int) ≤ (L.wd v : Int) ∧ (L.wd v : Int) ≤ 65535 := by
 have := hL.n
 have : L.wd v < N := (hL.wd v.toNat (by omega) h0).2
 omega
def OkB (S : Nat) (P : List Nat) (m : Nat) (i : WI) : Prop := fW (jU P m i) S m = none
theorem nT {i : WI} (h : ¬ (i.op = 17 ∨ i.op = 18 ∨ i.op = 19)) (h2 : fW i S m = none) : OkB S P m i := by
 unfold OkB jU
 rw [if_neg h]; exact h2
theorem aJp {d a k : Int} (hS : 6 ≤ S) (hd : 0 ≤ d ∧ d < S) (ha : 0 ≤ a ∧ a < S) (hk : 0 ≤ k ∧ k ≤ 65535) : OkB S P m ⟨15, d, a, 0, 0, k⟩ := by
 refine nT (by simp) (jZ rfl ?_ ?_ (fun h h2 => ?_) (fun h => ?_) (fun _ => hk) (fun h h2 => ?_))
 ·simp [kK, jE, dO, fQ]; omega
 ·simp [kS, dO, fQ]
 ·exact absurd h2 (by simp)
 ·exact absurd h (by simp)
 ·exact absurd h (by simp)
theorem aJq {a b k : Int} (hS : 6 ≤ S) (ha : 0 ≤ a ∧ a < S) (hb : 0 ≤ b ∧ b < S) (hk : 0 ≤ k ∧ k ≤ 65535) : OkB S P m ⟨16, 0, a, b, 0, k⟩ := by
 refine nT (by simp) (jZ rfl ?_ ?_ (fun h h2 => ?_) (fun h => ?_) (fun _ => hk) (fun h h2 => ?_))
 ·simp [kK, jE, dO, fQ]; omega
 ·simp [kS, dO, fQ]
 ·exact absurd h2 (by simp)
 ·exact absurd h (by simp)
 ·exact absurd h (by simp)
theorem aCK {d k : Int} (hd : 0 ≤ d ∧ d < S) : OkB S P m ⟨1, d, 0, 0, 0, k⟩ := by
 refine nT (by simp) (jZ rfl ?_ ?_ (fun h h2 => ?_) (fun h => ?_) (fun h => ?_) (fun h h2 => ?_))
 ·simp [kK, jE, dO, fQ]; omega
 ·simp [kS, dO, fQ]
 ·exact absurd h (by simp)
 ·exact absurd h (by simp)
 ·exact absurd h (by simp)
 ·exact absurd h (by simp)
theorem aLg {op d a b : Int} (ho : op = 3 ∨ op = 13) (hd : 0 ≤ d ∧ d < S) (ha : 0 ≤ a ∧ a < S) (hb : 0 ≤ b ∧ b < S) : OkB S P m ⟨op, d, a, b, 0, 0⟩ := by
 rcases ho with rfl | rfl
 ·refine nT (by simp) (jZ rfl ?_ ?_ (fun h h2 => ?_) (fun h => ?_) (fun h => ?_) (fun h h2 => ?_))
  ·simp [kK, jE, dO, fQ]; omega
  ·simp [kS, dO, fQ]
  ·exact absurd h (by simp)
  ·exact absurd h (by simp)
  ·exact absurd h (by simp)
  ·exact absurd h (by simp)
 ·refine nT (by simp) (jZ rfl ?_ ?_ (fun h h2 => ?_) (fun h => ?_) (fun h => ?_) (fun h h2 => ?_))
  ·simp [kK, jE, dO, fQ]; omega
  ·simp [kS, dO, fQ]
  ·exact absurd h2 (by simp)
  ·exact absurd h (by simp)
  ·exact absurd h (by simp)
  ·exact absurd h (by simp)
theorem aKl (hS : 6 ≤ S) : OkB S P m ⟨18, 0, 3, 0, 0, -1⟩ := by
 unfold OkB
 rw [aCq]
 refine jZ rfl ?_ ?_ (fun h h2 => ?_) (fun h => ?_) (fun h => ?_) (fun h h2 => ?_)
 ·simp [kK, jE, dO, fQ]; omega
 ·simp [kS, dO, fQ]
 ·exact absurd h2 (by simp)
 ·exact absurd h (by simp)
 ·exact absurd h (by simp)
 ·simp only; omega
theorem aGP (hL : L.Ok R S N) {v into : Int} (hv : 0 ≤ v ∧ v < R) (hi : 1 ≤ into ∧ into ≤ 3) : ∀ i ∈ L.rdC v into, OkB S P m i := by
 have := hL.s6
 unfold LY.rdC
 by_cases h0 : L.sl v = 0
 ·rw [if_pos h0]
  intro i h; rw [List.mem_singleton.1 h]
  exact aJp hL.s6 (by omega) (by omega) (aJM hL hv h0)
 ·rw [if_neg h0]; intro i h; cases h
theorem aJr (hL : L.Ok R S N) {v : Int} (hv : 0 ≤ v ∧ v < R) : ∀ i ∈ L.wrC v, OkB S P m i := by
 have := hL.s6
 unfold LY.wrC
 by_cases h0 : L.sl v = 0
 ·rw [if_pos h0]
  intro i h; rw [List.mem_singleton.1 h]
  exact aJq hL.s6 (by omega) (by omega) (aJM hL hv h0)
 ·rw [if_neg h0]; intro i h; cases h
theorem aGO (hL : L.Ok R S N) {f : Bool} {v into : Int} (hv : f = true → 0 ≤ v ∧ v < R) (hi : 1 ≤ into ∧ into ≤ 3) : ∀ i ∈ L.rC f v into, OkB S P m i := by
 unfold LY.rC
 by_cases h : f = true
 ·rw [if_pos h]; exact aGP hL (hv h) hi
 ·rw [if_neg h]; intro i h; cases h
theorem lW {Q : WI → Prop} {A B : List WI} (h : ∀ i ∈ A, Q i) (h2 : ∀ i ∈ B, Q i) : ∀ i ∈ A ++ B, Q i := fun i hi => by
 rcases List.mem_append.1 hi with hi | hi
 ·exact h i hi
 ·exact h2 i hi
theorem aAq {Q : WI → Prop} {x : WI} (h : Q x) : ∀ i ∈ [x], Q i := fun i hi => by rw [List.mem_singleton.1 hi]; exact h
theorem vQ (hL : L.Ok R S N) {f : Bool} {v into : Int} (hv : f = true → 0 ≤ v ∧ v < R) (hi : 1 ≤ into ∧ into ≤ 3) : jE f (L.rR f v into) S = false := by
 unfold LY.rR jE
 cases f with
 | false => rfl
 | true =>
  have := aBj hL (hv rfl) hi
  simp only [if_true, Bool.true_and, Bool.or_eq_false_iff, decide_eq_false_iff_not]; omega
theorem aBd {f : Bool} {v into : Int} (h : (!f && decide (v ≠ 0)) = false) : (!f && decide (L.rR f v into ≠ 0)) = false := by
 unfold LY.rR
 cases f with
 | false => exact h
 | true => rfl
theorem aKW {op : Int} (h : op = 17 ∨ op = 18 ∨ op = 19) : (dO op).k = true := by rcases h with rfl | rfl | rfl <;> rfl
theorem aKm (hL : L.Ok R S N) {w : WI} {n : Nat} (h : fW w R n = none) (hP : ∀ j, P.getD j 0 ≤ m) (hn : ¬ (w.op = 15 ∨ w.op = 16)) : OkB S P m (L.ins w) := by
 have hg := tU h (by omega)
 rw [Int.toNat_natCast, Int.toNat_natCast] at hg
 obtain ⟨p1, p2, p3⟩ := wS h
 obtain ⟨ga, gb, gc⟩ := tJ hg
 have gd : (dO w.op).d = true → 0 ≤ w.d ∧ w.d < R := fun e => by
  simp only [kK, jE, Bool.or_eq_false_iff, e, Bool.true_and, decide_eq_false_iff_not] at p2
  omega
 have hsh := hg.ok2.sh
 have hha := hg.halt
 simp only [kS, Bool.or_eq_false_iff] at p3
 obtain ⟨⟨⟨⟨q1, q2⟩, q3⟩, q4⟩, q5⟩ := p3
 have hd1 : jE (dO w.op).d (if (dO w.op).d = true then L.wrR w.d else w.d) S = false := vQ hL (into := 1) gd (by decide)
 have hd2 : (!(dO w.op).d && decide ((if (dO w.op).d = true then L.wrR w.d else w.d) ≠ 0)) = false := aBd (L := L) (into := 1) q1
 have ha1 := vQ hL (into := 1) ga (by decide)
 have hb1 := vQ hL (into := 2) gb (by decide)
 have hc1 := vQ hL (into := 3) gc (by decide)
 have ha2 := aBd (L := L) (into := 1) q2
 have hb2 := aBd (L := L) (into := 2) q3
 have hc2 := aBd (L := L) (into := 3) q4
 unfold OkB jU
 by_cases hb : (L.ins w).op = 17 ∨ (L.ins w).op = 18 ∨ (L.ins w).op = 19
 ·rw [if_pos hb]
  have hb' : w.op = 17 ∨ w.op = 18 ∨ w.op = 19 := hb
  have hk := aKW hb'
  have key : ∀ kk : Int, 0 ≤ kk ∧ kk ≤ m → fW { L.ins w with k := kk } S m = none := fun kk hkk => by
   refine jZ p1 ?_ ?_ (fun e e2 => ?_) (fun e => ?_) (fun e => ?_) (fun _ _ => hkk)
   ·show kK (dO w.op) _ _ = false
    simp only [kK, LY.ins, hd1, ha1, hb1, hc1, Bool.or_self]
   ·show kS (dO w.op) _ = false
    simp only [kS, Bool.or_eq_false_iff]
    exact ⟨⟨⟨⟨hd2, ha2⟩, hb2⟩, hc2⟩, by rw [hk]; rfl⟩
   ·have : w.op ≤ 12 := e2
    omega
   ·have : w.op = 20 := e
    omega
   ·have : w.op = 15 ∨ w.op = 16 := e
    omega
  by_cases hf : (L.ins w).k = -1
  ·rw [if_pos hf]; exact key _ (by omega)
  ·rw [if_neg hf]; exact key _ (by have := hP (L.ins w).k.toNat; omega)
 ·rw [if_neg hb]
  refine jZ p1 ?_ ?_ (fun e e2 => hsh e e2) (fun e => hha e) (fun e => absurd e hn) (fun e e2 => ?_)
  ·show kK (dO w.op) _ _ = false
   simp only [kK, LY.ins, hd1, ha1, hb1, hc1, Bool.or_self]
  ·show kS (dO w.op) _ = false
   simp only [kS, Bool.or_eq_false_iff]
   exact ⟨⟨⟨⟨hd2, ha2⟩, hb2⟩, hc2⟩, q5⟩
  ·have e' : 17 ≤ w.op := e
   have e2' : w.op ≤ 19 := e2
   exact absurd (show w.op = 17 ∨ w.op = 18 ∨ w.op = 19 by omega) hb
theorem aKn (hL : L.Ok R S N) {w : WI} {n : Nat} (h : fW w R n = none) (hP : ∀ j, P.getD j 0 ≤ m) : ∀ i ∈ L.one w, OkB S P m i := by
 have hs6 := hL.s6
 have hg := tU h (by omega)
 rw [Int.toNat_natCast, Int.toNat_natCast] at hg
 have had : w.op = 15 ∨ w.op = 16 → ∀ i ∈ L.adC w, OkB S P m i := fun ho => by
  have ha := hg.ok2.ok.a (by omega) (by omega)
  have hr := aBj hL ha (into := 1) (by decide)
  unfold LY.adC
  refine lW (aGP hL ha (by decide)) ?_
  intro i hi
  simp only [List.mem_cons, List.not_mem_nil, or_false] at hi
  rcases hi with rfl | rfl | rfl | rfl | rfl
  ·exact aCK (by omega)
  ·exact aLg (.inl rfl) (by omega) hr (by omega)
  ·exact aCK (by omega)
  ·exact aLg (.inr rfl) (by omega) (by omega) (by omega)
  ·exact aKl hs6
 unfold LY.one
 by_cases h15 : w.op = 15
 ·rw [if_pos h15]
  have hd := hg.ok2.ok.d (by omega)
  exact lW (had (.inl h15)) (lW (aAq (aJp hs6 (aKD hL hd) (by omega) (by decide))) (aJr hL hd))
 rw [if_neg h15]
 by_cases h16 : w.op = 16
 ·rw [if_pos h16]
  have hb := hg.ok2.ok.b (by omega)
  exact lW (had (.inr h16)) (lW (aGP hL hb (by decide)) (aAq (aJq hs6 (by omega) (aBj hL hb (by decide)) (by decide))))
 rw [if_neg h16]
 obtain ⟨ga, gb, gc⟩ := tJ hg
 unfold LY.rds
 refine lW (lW (aGO hL ga (by decide)) (lW (aGO hL gb (by decide)) (aGO hL gc (by decide)))) (lW (aAq (aKm hL h hP (by omega))) ?_)
 unfold LY.wrs
 by_cases hf : (dO w.op).d = true
 ·rw [if_pos hf]
  refine aJr hL ?_
  have p2 := (wS h).2.1
  simp only [kK, jE, Bool.or_eq_false_iff, hf, Bool.true_and, decide_eq_false_iff_not] at p2
  omega
 ·rw [if_neg hf]; intro i h; cases h
theorem wN : ∀ (ws : List WI) {i : WI}, i ∈ L.flat ws → ∃ w ∈ ws, i ∈ L.one w
 | [], i, h => by cases h
 | w :: ws, i, h => by
  rcases List.mem_append.1 h with h | h
  ·exact ⟨w, List.mem_cons_self .., h⟩
  ·obtain ⟨v, hv, h2⟩ := wN ws h
   exact ⟨v, List.mem_cons_of_mem _ hv, h2⟩
theorem aFF (hL : L.Ok R S N) (hS : S ≤ 65536) {ws : List WI} (hw : ∀ w ∈ ws, fW w R ws.length = none) (hl : ws.length ≤ 30000) : gO (L.out ws) S N = .ok := by
 have hn := hL.n
 have hf := qB L ws
 refine aFQ (by rw [oL]; omega) (by omega) (by omega) fun i hi => ?_
 have hi2 := hi
 unfold LY.out at hi
 obtain ⟨x, hx, rfl⟩ := List.mem_map.1 hi
 obtain ⟨w, hw1, hw2⟩ := wN ws hx
 have := aKn (P := L.place ws) (m := (L.out ws).length) hL (hw w hw1) (aGV L ws) x hw2
 rw [← oL]
 exact this
end
def ix : List Nat → Nat → Nat
 | [], _ => 0
 | x :: o, r => if x = r then 0 else ix o r + 1
theorem aEz (x r : Nat) (o : List Nat) : ix (x :: o) r = if x = r then 0 else ix o r + 1 := rfl
theorem aJk {r : Nat} : ∀ {o : List Nat}, r ∈ o → ix o r < o.length
 | [], h => by cases h
 | x :: o, h => by
  unfold ix
  by_cases e : x = r
  ·rw [if_pos e]; simp
  ·rw [if_neg e]
   have : r ∈ o := by
    rcases List.mem_cons.1 h with h | h
    ·exact absurd h.symm e
    ·exact h
   have := aJk this
   simp only [List.length_cons]; omega
theorem aDI {r t : Nat} : ∀ {o : List Nat}, r ∈ o → t ∈ o → ix o r = ix o t → r = t
 | [], h, _, _ => by cases h
 | x :: o, h, h2, he => by
  unfold ix at he
  by_cases e : x = r
  ·by_cases e2 : x = t
   ·omega
   ·rw [if_pos e, if_neg e2] at he; omega
  ·by_cases e2 : x = t
   ·rw [if_neg e, if_pos e2] at he; omega
   ·rw [if_neg e, if_neg e2] at he
    have h1 : r ∈ o := by
     rcases List.mem_cons.1 h with h | h
     ·exact absurd h.symm e
     ·exact h
    have h3 : t ∈ o := by
     rcases List.mem_cons.1 h2 with h | h
     ·exact absurd h.symm e2
     ·exact h
    exact aDI h1 h3 (by omega)
def kA (S : Nat) : List Nat → Nat → List Nat → List Nat
 | [], _, l => l
 | r :: o, k, l => kA S o (k + 1) (if k + 4 < S then l.set r (4 + k) else l)
def kB (S M : Nat) : List Nat → Nat → List Nat → List Nat
 | [], _, l => l
 | r :: o, k, l => kB S M o (k + 1) (if k + 4 < S then l else l.set r (M + (k + 4 - S)))
theorem aAb (S : Nat) : ∀ (o : List Nat) (k : Nat) (l : List Nat), (kA S o k l).length = l.length
 | [], k, l => rfl
 | r :: o, k, l => by
  show (kA S o (k + 1) _).length = _
  rw [aAb S o]; split <;> simp
theorem aAe (S M : Nat) : ∀ (o : List Nat) (k : Nat) (l : List Nat), (kB S M o k l).length = l.length
 | [], k, l => rfl
 | r :: o, k, l => by
  show (kB S M o (k + 1) _).length = _
  rw [aAe S M o]; split <;> simp
theorem aAa (S : Nat) (r : Nat) : ∀ (o : List Nat) (k : Nat) (l : List Nat), o.Nodup → (∀ x ∈ o, x < l.length) → (kA S o k l).getD r 0 = if r ∈ o ∧ k + ix o r + 4 < S then 4 + (k + ix o r) else l.getD r 0
 | [], k, l, _, _ => by
  rw [if_neg (fun h => by cases h.1)]; rfl
 | x :: o, k, l, hn, hl => by
  have hx := List.nodup_cons.1 hn
  have hxl := hl x (List.mem_cons_self ..)
  have ih := aAa S r o (k + 1) (if k + 4 < S then l.set x (4 + k) else l) hx.2 (fun y hy => by
   have := hl y (List.mem_cons_of_mem _ hy)
   split
   ·rw [List.length_set]; exact this
   ·exact this)
  show (kA S o (k + 1) _).getD r 0 = _
  rw [ih, aEz]
  by_cases e : x = r
  ·subst e
   rw [if_neg (fun h => hx.1 h.1), if_pos rfl]
   by_cases h : k + 4 < S
   ·rw [if_pos h, if_pos ⟨List.mem_cons_self .., by omega⟩, gP _ _ _ _ hxl, if_pos rfl]; rfl
   ·rw [if_neg h, if_neg (fun h2 => by omega)]
  ·rw [if_neg e]
   have hm : r ∈ x :: o ↔ r ∈ o := by
    rw [List.mem_cons]
    exact ⟨fun h => h.resolve_left (fun h => e h.symm), .inr⟩
   have hg : (if k + 4 < S then l.set x (4 + k) else l).getD r 0 = l.getD r 0 := by
    by_cases h : k + 4 < S
    ·rw [if_pos h, gP _ _ _ _ hxl, if_neg e]
    ·rw [if_neg h]
   rw [hg]
   by_cases h : r ∈ o ∧ k + 1 + ix o r + 4 < S
   ·rw [if_pos h, if_pos ⟨hm.2 h.1, by omega⟩]; omega
   ·rw [if_neg h, if_neg (fun h2 => h ⟨hm.1 h2.1, by omega⟩)]
theorem aAd (S M : Nat) (r : Nat) : ∀ (o : List Nat) (k : Nat) (l : List Nat), o.Nodup → (∀ x ∈ o, x < l.length) → (kB S M o k l).getD r 0 = if r ∈ o ∧ ¬ k + ix o r + 4 < S then M + (k + ix o r + 4 - S) else l.getD r 0
 | [], k, l, _, _ => by
  rw [if_neg (fun h => by cases h.1)]; rfl
 | x :: o, k, l, hn, hl => by
  have hx := List.nodup_cons.1 hn
  have hxl := hl x (List.mem_cons_self ..)
  have ih := aAd S M r o (k + 1) (if k + 4 < S then l else l.set x (M + (k + 4 - S))) hx.2 (fun y hy => by
   have := hl y (List.mem_cons_of_mem _ hy)
   split
   ·exact this
   ·rw [List.length_set]; exact this)
  show (kB S M o (k + 1) _).getD r 0 = _
  rw [ih, aEz]
  by_cases e : x = r
  ·subst e
   rw [if_neg (fun h => hx.1 h.1), if_pos rfl]
   by_cases h : k + 4 < S
   ·rw [if_pos h, if_neg (fun h2 => by omega)]
   ·rw [if_neg h, if_pos ⟨List.mem_cons_self .., by omega⟩, gP _ _ _ _ hxl, if_pos rfl]
  ·rw [if_neg e]
   have hm : r ∈ x :: o ↔ r ∈ o := by
    rw [List.mem_cons]
    exact ⟨fun h => h.resolve_left (fun h => e h.symm), .inr⟩
   have hg : (if k + 4 < S then l else l.set x (M + (k + 4 - S))).getD r 0 = l.getD r 0 := by
    by_cases h : k + 4 < S
    ·rw [if_pos h]
    ·rw [if_neg h, gP _ _ _ _ hxl, if_neg e]
   rw [hg]
   by_cases h : r ∈ o ∧ ¬ k + 1 + ix o r + 4 < S
   ·rw [if_pos h, if_pos ⟨hm.2 h.1, by omega⟩]; omega
   ·rw [if_neg h, if_neg (fun h2 => h ⟨hm.1 h2.1, by omega⟩)]
def kR (R S M : Nat) (o : List Nat) : LY := ⟨kA S o 0 (List.replicate R 0), kB S M o 0 (List.replicate R 0), M⟩
theorem aIs {R S M : Nat} {o : List Nat} (ho : o.Perm (List.range R)) (hS : 6 ≤ S) (hR : S ≤ R) (hN : M + (R + 4 - S) ≤ 65536) : (kR R S M o).Ok R S (M + (R + 4 - S)) := by
 have hlen : o.length = R := by rw [ho.length_eq, List.length_range]
 have hnd : o.Nodup := ho.nodup_iff.2 List.nodup_range
 have hmem : ∀ r, r < R → r ∈ o := fun r hr => ho.mem_iff.2 (List.mem_range.2 hr)
 have hlt : ∀ x ∈ o, x < (List.replicate R 0).length := fun x hx => by
  rw [List.length_replicate]; exact List.mem_range.1 (ho.mem_iff.1 hx)
 have gs : ∀ r, r < R → (kR R S M o).slot.getD r 0 = if ix o r + 4 < S then 4 + ix o r else 0 := fun r hr => by
  show (kA S o 0 (List.replicate R 0)).getD r 0 = _
  rw [aAa S r o 0 _ hnd hlt, mL, Nat.zero_add]
  by_cases h : ix o r + 4 < S
  ·rw [if_pos h, if_pos ⟨hmem r hr, h⟩]
  ·rw [if_neg h, if_neg (fun h2 => h h2.2)]
 have gw : ∀ r, r < R → (kR R S M o).word.getD r 0 = if ix o r + 4 < S then 0 else M + (ix o r + 4 - S) := fun r hr => by
  show (kB S M o 0 (List.replicate R 0)).getD r 0 = _
  rw [aAd S M r o 0 _ hnd hlt, mL, Nat.zero_add]
  by_cases h : ix o r + 4 < S
  ·rw [if_pos h, if_neg (fun h2 => h2.2 h)]
  ·rw [if_neg h, if_pos ⟨hmem r hr, h⟩]
 have hix : ∀ r, r < R → ix o r < R := fun r hr => by
  have := aJk (hmem r hr)
  rwa [hlen] at this
 refine ⟨hS, hN, (by show M ≤ M + (R + 4 - S); omega), fun r hr h => ?_, fun r hr h => ?_, fun r t hr ht hne h => ?_, fun r t hr ht hne h h2 => ?_⟩
 ·rw [gs r hr] at h ⊢
  by_cases e : ix o r + 4 < S
  ·rw [if_pos e] at h ⊢; omega
  ·rw [if_neg e] at h; exact absurd rfl h
 ·rw [gs r hr] at h
  rw [gw r hr]
  have := hix r hr
  by_cases e : ix o r + 4 < S
  ·rw [if_pos e] at h; omega
  ·rw [if_neg e]
   show M ≤ _ ∧ _
   omega
 ·rw [gs r hr] at h ⊢
  rw [gs t ht]
  by_cases e : ix o r + 4 < S
  ·rw [if_pos e] at h ⊢
   by_cases e2 : ix o t + 4 < S
   ·rw [if_pos e2]
    intro he
    exact hne (aDI (hmem r hr) (hmem t ht) (by omega))
   ·rw [if_neg e2]; omega
  ·rw [if_neg e] at h; exact absurd rfl h
 ·rw [gs r hr] at h
  rw [gs t ht] at h2
  rw [gw r hr, gw t ht]
  by_cases e : ix o r + 4 < S
  ·rw [if_pos e] at h; omega
  ·by_cases e2 : ix o t + 4 < S
   ·rw [if_pos e2] at h2; omega
   ·rw [if_neg e, if_neg e2]
    intro he
    exact hne (aDI (hmem r hr) (hmem t ht) (by omega))
def jM (us : List Int) : List AV := us.map fun u => I6 u
theorem zH (us : List Int) : (jM us).length = us.length := by simp [jM]
theorem sD (n : Nat) (l : List Int) : cJ n (jM l) = true := jR n _ (fun _ => rfl) l
theorem aFt (us : List Int) (j : Nat) (x : Int) : (jM us).set j (I6 x) = jM (us.set j x) := by unfold jM; rw [List.map_set]
theorem zG (us : List Int) (j : Nat) (h : j < us.length) : (jM us)[j]? = some (I6 (us.getD j 0)) := by
 unfold jM
 rw [List.getElem?_map, List.getElem?_eq_getElem h, List.getD_eq_getElem?_getD, List.getElem?_eq_getElem h]; rfl
section
variable (bor : Bool) (ws : List WI) (R M S : Nat)
abbrev k0 : ABlk := ⟨27, 3, [cV bor ws R M]⟩
abbrev k1 : ABlk := ⟨27, 3, [.agg [.nils, .int .i64 0, .int .i64 0]]⟩
abbrev k2 : ABlk := ⟨86, 7, [.agg [.ro bor (cL ws), Nn R, Nn M, .nils, .nils, .nils, .nils]]⟩
abbrev k4 : ABlk := ⟨49, 1, [.sl 3 R 0 R 1]⟩
def hpK : aB := [k0 bor ws R M, k1, k2 bor ws R M]
def nJ (us : List Int) (T : aB) : aB := k0 bor ws R M :: k1 :: k2 bor ws R M :: ⟨3, 1, jM us⟩ :: k4 R :: T
theorem tM (us : List Int) (T : aB) (hT : Pl T) (n : Nat) (hn : 5 ≤ n) : dQ n (nJ bor ws R M us T) = true := by
 have h3 : decide (3 < n) = true := decide_eq_true (by omega)
 simp only [nJ, cV, dQ, cJ, cE, gD, sD, hT n, h3, Bool.and_self]
theorem vM (us : List Int) (T X : aB) (hT : Pl T) (xs : List AV) (hx : cJ (T.length + 5) xs = true) : fU (T.length + 5) xs (nJ bor ws R M us (T ++ X)) = some (nJ bor ws R M us T) := by
 have e : (nJ bor ws R M us (T ++ X)).take (T.length + 5) = nJ bor ws R M us T := by
  unfold nJ
  simp only [List.take_succ_cons]
  rw [List.take_append_of_le_length (Nat.le_refl _), List.take_length]
 unfold fU
 rw [e, hx, tM bor ws R M us T hT _ (by omega)]; rfl
variable (G : aF) (k : Nat) (self : cC)
theorem aLd (us : List Int) (T : aB) : aD G false 1 (.ptr 4 1 0 0) (nJ bor ws R M us T) = some (.sl 3 R 0 R 1) := rfl
theorem ldU (us : List Int) (T : aB) (hu : us.length = R) (r : Nat) (hr : r < R) : aD G false 1 (.ptr 3 R r 0) (nJ bor ws R M us T) = some (I6 (us.getD r 0)) := by
 have e : (nJ bor ws R M us T)[3]? = some ⟨3, 1, jM us⟩ := rfl
 unfold aD
 simp only [e, zH, hu, if_true, zG us r (by omega)]
 rfl
theorem stU (us : List Int) (T : aB) (hu : us.length = R) (r : Nat) (hr : r < R) (x : Int) : fP (aT 1 (.ptr 3 R r 0) (I6 x) (nJ bor ws R M us T)) = some (.tup [], nJ bor ws R M (us.set r x) T) := by
 have e : (nJ bor ws R M us T)[3]? = some ⟨3, 1, jM us⟩ := rfl
 have e1 : aT 1 (.ptr 3 R r 0) (I6 x) (nJ bor ws R M us T) = some (nJ bor ws R M (us.set r x) T) := by
  unfold aT
  simp only [e, zH, hu]
  rw [if_pos ⟨trivial, rfl, rfl⟩]
  simp only [zG us r (by omega)]
  rw [if_pos (by show 0 + 1 ≤ 1; omega)]
  have : lR (I6 (us.getD r 0)) (kD (I6 (us.getD r 0)).cells 0 (I6 x).cells) = I6 x := rfl
  rw [this, aFt]; rfl
 rw [e1]; rfl
theorem zO (b n : Nat) {r : Nat} (h : r < n) : aM 1 (.sl b n 0 n 1) (Nn r) = some (.ptr b n r 0) := by
 rw [sR (by omega) (by omega), Nat.zero_add, Int.toNat_natCast]
theorem aKv (L : List Nat) (j : Nat) (hj : j < L.length) : aM 1 (.ro false (eP L)) (Nn j) = some (.rp false (Nn (L.getD j 0)) 0) := qX (jH L j hj) rfl
theorem aKc (n : Nat) (H : aB) : aD G false 1 (.rp false (Nn n) 0) H = some (Nn n) := rfl
def aDl (w : WI) (L : List Nat) (j t : Nat) : List AV := [BX, Nn S, .ptr 4 1 0 0, .ptr 5 1 0 0, .ro bor (cL ws), Nn ws.length, Nn j, .ro false (eP L), Nn L.length, Nn t]
theorem xT (w : WI) (L : List Nat) (j t : Nat) : cJ 6 (aDl bor ws S w L j t) = true := by simp [aDl, BX, cJ, cE, gD, jY]
theorem l6K (w : WI) (L : List Nat) (hL : ∀ x ∈ L, x < R) (hl : L.length ≤ 1000) (j : Nat) : ∀ (d t f : Nat) (us : List Int), t + d = L.length → us.length = R → d < f →
  ∃ us' : List Int, dP (aQ.l6 G k 6 self) f (aDl bor ws S w L j t) (nJ bor ws R M us [⟨29, 6, [w.v]⟩]) = some (.exit 2, aDl bor ws S w L j L.length, nJ bor ws R M us' [⟨29, 6, [w.v]⟩]) ∧ us'.length = R
 | d, t, 0, us, _, _, h => by omega
 | 0, t, f + 1, us, hd, hu, hf => by
  have ht : t = L.length := by omega
  subst ht
  have hc : fU 6 (aDl bor ws S w L j L.length) (nJ bor ws R M us [⟨29, 6, [w.v]⟩]) = some (nJ bor ws R M us [⟨29, 6, [w.v]⟩]) := vM bor ws R M us [⟨29, 6, [w.v]⟩] [] (yK w) _ (xT bor ws S w L j _)
  have g1 : aW Tryd.prog .lss 3 false (Nn L.length) (Nn L.length) = some (.bool false) := gF (by omega)
  refine ⟨us, ?_, hu⟩
  rw [bE, aQ.l6]
  refine gE ?_
  refine eC hc ?_
  unfold aDl
  have fx := g1
  refine gV ?_
  refine gJ ?_; rfl
 | d + 1, t, f + 1, us, hd, hu, hf => by
  have hc : fU 6 (aDl bor ws S w L j t) (nJ bor ws R M us [⟨29, 6, [w.v]⟩]) = some (nJ bor ws R M us [⟨29, 6, [w.v]⟩]) := vM bor ws R M us [⟨29, 6, [w.v]⟩] [] (yK w) _ (xT bor ws S w L j _)
  have g1 : aW Tryd.prog .lss 3 false (Nn t) (Nn L.length) = some (.bool true) := gN (by omega)
  have q2 : aW Tryd.prog .add 3 true (Nn t) (.int .i64 1) = some (Nn (t + 1 : Nat)) := mP (by omega)
  have hr : L.getD t 0 < R := lA hL (by omega)
  have d1 := aKv L t (by omega)
  have l1 := aKc G (L.getD t 0)
  have l0 := aLd bor ws R M G us [⟨29, 6, [w.v]⟩]
  have d2 := zO 3 R hr
  have l2 := ldU bor ws R M G us [⟨29, 6, [w.v]⟩] hu (L.getD t 0) hr
  have q3 : aW Tryd.prog .add 3 true (I6 (us.getD (L.getD t 0) 0)) (.int .i64 1) = some (I6 (IntKind.i64.wrap (us.getD (L.getD t 0) 0 + 1))) := gZ _ _ _ _ _ _
  have s1 := stU bor ws R M us [⟨29, 6, [w.v]⟩] hu (L.getD t 0) hr (IntKind.i64.wrap (us.getD (L.getD t 0) 0 + 1))
  obtain ⟨us', w', hu'⟩ := l6K w L hL hl j d (t + 1) f (us.set (L.getD t 0) (IntKind.i64.wrap (us.getD (L.getD t 0) 0 + 1))) (by omega) (by rw [List.length_set]; exact hu) (by omega)
  refine ⟨us', ?_, hu'⟩
  rw [bE, aQ.l6]
  refine gE ?_
  refine eC hc ?_
  clear hr hL
  unfold aDl at w' ⊢
  generalize us.set (L.getD t 0) (IntKind.i64.wrap (us.getD (L.getD t 0) 0 + 1)) = us1 at *
  generalize IntKind.i64.wrap (us.getD (L.getD t 0) 0 + 1) = z1 at *
  generalize us.getD (L.getD t 0) 0 = z0 at *
  generalize L.getD t 0 = r at *
  have fx := aMC g1 <| aMC q2 <| aMC d1 <| aMC l1 <| aMC l0 <| aMC d2 <| aMC l2 <| aMC q3 <| s1
  refine gV ?_
  exact w'
def aBJ (j : Nat) : List AV := [BX, Nn S, .ptr 4 1 0 0, .ro bor (cL ws), Nn ws.length, Nn j]
theorem xR (j : Nat) : cJ 5 (aBJ bor ws S j) = true := by simp [aBJ, BX, cJ, cE, gD]
theorem l3K (hw : ∀ w ∈ ws, w.Good R ws.length) (hn : ws.length ≤ 10000) (hk : 10 ≤ k) : ∀ (d j f : Nat) (us : List Int) (X : aB), j + d = ws.length → us.length = R → d < f →
  ∃ us' : List Int, dP (aQ.l3 G (k + 29) 5 self) f (aBJ bor ws S j) (nJ bor ws R M us X) = some (.exit 0, aBJ bor ws S ws.length, nJ bor ws R M us' []) ∧ us'.length = R
 | d, j, 0, us, X, _, _, h => by omega
 | 0, j, f + 1, us, X, hd, hu, hf => by
  have hj : j = ws.length := by omega
  subst hj
  have hc : fU 5 (aBJ bor ws S ws.length) (nJ bor ws R M us X) = some (nJ bor ws R M us []) := vM bor ws R M us [] X (fun _ => rfl) _ (xR bor ws S _)
  have g1 : aW Tryd.prog .lss 3 false (Nn ws.length) (Nn ws.length) = some (.bool false) := gF (by omega)
  refine ⟨us, ?_, hu⟩
  rw [bE, aQ.l3]
  refine gE ?_
  refine eC hc ?_
  unfold aBJ
  have fx := g1
  refine gV ?_
  refine gJ ?_; rfl
 | d + 1, j, f + 1, us, X, hd, hu, hf => by
  have hc : fU 5 (aBJ bor ws S j) (nJ bor ws R M us X) = some (nJ bor ws R M us []) := vM bor ws R M us [] X (fun _ => rfl) _ (xR bor ws S _)
  have g1 : aW Tryd.prog .lss 3 false (Nn j) (Nn ws.length) = some (.bool true) := gN (by omega)
  have q2 : aW Tryd.prog .add 3 true (Nn j) (.int .i64 1) = some (Nn (j + 1 : Nat)) := mP (by omega)
  obtain ⟨w, hwj⟩ : ∃ w, ws.getD j default = w := ⟨_, rfl⟩
  have hmem : w ∈ ws := by
   rw [← hwj, List.getD_eq_getElem?_getD, List.getElem?_eq_getElem (by omega)]; exact List.getElem_mem _
  have hg := hw w hmem
  have d1 := aCx bor ws j (by omega)
  rw [hwj] at d1
  have d2 : ∀ H, aD G true 6 (.rp bor w.v 0) H = some w.v := fun H => rfl
  have b1 : fV 29 (.agg [(.int .i64 0), (.int .i64 0), (.int .i64 0), (.int .i64 0), (.int .i64 0), (.int .i64 0)]) (nJ bor ws R M us []) = some (.ptr 5 1 0 0, nJ bor ws R M us [⟨29, 6, [.agg [(.int .i64 0), (.int .i64 0), (.int .i64 0), (.int .i64 0), (.int .i64 0), (.int .i64 0)]]⟩]) := rfl
  have b2 : fP (aT 6 (.ptr 5 1 0 0) w.v (nJ bor ws R M us [⟨29, 6, [.agg [(.int .i64 0), (.int .i64 0), (.int .i64 0), (.int .i64 0), (.int .i64 0), (.int .i64 0)]]⟩])) = some (.tup [], nJ bor ws R M us [⟨29, 6, [w.v]⟩]) := rfl
  have l6 : ∀ us, aD G true 6 (.ptr 5 1 0 0) (nJ bor ws R M us [⟨29, 6, [w.v]⟩]) = some w.v := fun us => rfl
  obtain ⟨L, hL1, hL2, hL3⟩ := aDp G (k + 9) w hg (by omega)
  have r1 : ∀ H, aU (dC.f G (k + 29)) [w.v] H = _ := fun H => cD (H := H) hL1 rfl (by simp only [gU, aCH]; rfl)
  have ln : dN (.ro false (eP L)) = some (Nn L.length) := by simp [dN, gK]
  obtain ⟨us1, lp, hu1⟩ := l6K bor ws R M S G (k + 29) self w L hL2 (by omega) j L.length 0 (k + 29) us (by omega) hu (by omega)
  have r2 : ∀ H, aU (eO.f G (k + 29)) [w.v] H = some (.tup [I6 (if (dO w.op).d = true then w.d else 0), .bool (dO w.op).d], H) := fun H => cD (H := H) (aBP G (k + 23) w.op w.d w.a w.b w.c w.k []) rfl rfl
  have hd' : (dO w.op).d = true → 0 ≤ w.d ∧ w.d < R := fun e => by
   refine hg.ok2.ok.d ?_
   rcases yJ hg.ok2.ok.op with h | h | h | h | h | h | h | h | h | h | h | h | h | h | h | h | h | h | h | h <;> rw [h] at e ⊢ <;> first | decide | (exact absurd e (by decide))
  have l6a := l6 us
  have l6b := l6 us1
  replace lp : dP (aQ.l6 G (k + 29) (nJ bor ws R M us [⟨29, 6, [w.v]⟩]).length self) (k + 29) [BX, Nn S, .ptr 4 1 0 0, .ptr 5 1 0 0, .ro bor (cL ws), Nn ws.length, Nn j, .ro false (eP L), Nn L.length, .int .i64 0] (nJ bor ws R M us [⟨29, 6, [w.v]⟩]) = some (.exit 2, [BX, Nn S, .ptr 4 1 0 0, .ptr 5 1 0 0, .ro bor (cL ws), Nn ws.length, Nn j, .ro false (eP L), Nn L.length, Nn L.length], nJ bor ws R M us1 [⟨29, 6, [w.v]⟩]) := lp
  cases hfd : (dO w.op).d with
  | true =>
   have hdr := hd' hfd
   rw [hfd] at r2
   simp only [if_true] at r2
   have en : I6 w.d = Nn w.d.toNat := by
    show AV.int .i64 w.d = .int .i64 (w.d.toNat : Int)
    rw [Int.toNat_of_nonneg hdr.1]
   rw [en] at r2
   have hr : w.d.toNat < R := by omega
   have l0 := aLd bor ws R M G us1 [⟨29, 6, [w.v]⟩]
   have d3 := zO 3 R hr
   have l2 := ldU bor ws R M G us1 [⟨29, 6, [w.v]⟩] hu1 w.d.toNat hr
   have q3 : aW Tryd.prog .add 3 true (I6 (us1.getD w.d.toNat 0)) (.int .i64 1) = some (I6 (IntKind.i64.wrap (us1.getD w.d.toNat 0 + 1))) := gZ _ _ _ _ _ _
   have s1 := stU bor ws R M us1 [⟨29, 6, [w.v]⟩] hu1 w.d.toNat hr (IntKind.i64.wrap (us1.getD w.d.toNat 0 + 1))
   obtain ⟨us', w', hu'⟩ := l3K hw hn hk d (j + 1) f (us1.set w.d.toNat (IntKind.i64.wrap (us1.getD w.d.toNat 0 + 1))) [⟨29, 6, [w.v]⟩] (by omega) (by rw [List.length_set]; exact hu1) (by omega)
   refine ⟨us', ?_, hu'⟩
   rw [bE, aQ.l3]
   refine gE ?_
   refine eC hc ?_
   clear hdr en hd' hr hg hmem hwj hL1 hL2 hL3 l6
   unfold aBJ at w' ⊢
   generalize us1.set w.d.toNat (IntKind.i64.wrap (us1.getD w.d.toNat 0 + 1)) = us2 at *
   generalize IntKind.i64.wrap (us1.getD w.d.toNat 0 + 1) = z1 at *
   generalize us1.getD w.d.toNat 0 = z0 at *
   generalize w.v = wv at *
   generalize w.d.toNat = r at *
   have fx := aMC g1 <| aMC q2 <| aMC d1 <| aMC d2 <| aMC b1 <| aMC b2 <| aMC l6a <| aMC l6b <| aMC r1 <| aMC ln <| aMC r2 <| aMC l0 <| aMC d3 <| aMC l2 <| aMC q3 <| s1
   have lx1 := lp
   refine gV ?_
   exact w'
  | false =>
   rw [hfd] at r2
   simp only [Bool.false_eq_true, if_false] at r2
   obtain ⟨us', w', hu'⟩ := l3K hw hn hk d (j + 1) f us1 [⟨29, 6, [w.v]⟩] (by omega) hu1 (by omega)
   refine ⟨us', ?_, hu'⟩
   rw [bE, aQ.l3]
   refine gE ?_
   refine eC hc ?_
   clear hd' hg hmem hwj hL1 hL2 hL3 l6
   unfold aBJ at w' ⊢
   generalize w.v = wv at *
   have fx := aMC g1 <| aMC q2 <| aMC d1 <| aMC d2 <| aMC b1 <| aMC b2 <| aMC l6a <| aMC l6b <| aMC r1 <| aMC ln <| r2
   have lx1 := lp
   refine gV ?_
   exact w'
end
section
variable (bor : Bool) (ws : List WI) (R M S : Nat) (us : List Int)
def H5 : aB := nJ bor ws R M us [⟨3, 1, []⟩]
theorem aLl (l : List Nat) : Pl [⟨3, 1, eP l⟩] := fun n => by simp [dQ, jY]
theorem aKM (hu : us.length = R) : SH (H5 bor ws R M us) 5 4 3 R us :=
 ⟨by show 5 < 6; decide, by decide, by decide, rfl, rfl, hu, tM bor ws R M us [⟨3, 1, []⟩] (aLl []) 6 (by decide)⟩
theorem aFY : SB (H5 bor ws R M us) 5 := ⟨by show 5 < 6; decide, tM bor ws R M us [⟨3, 1, []⟩] (aLl []) 6 (by decide)⟩
variable (G : aF) (k : Nat) (self : cC)
def uX (j : Nat) : List AV := [BX, Nn S, .ptr 4 1 0 0, .sl 5 R 0 R 1, Nn R, Nn j]
theorem uY (j : Nat) : cJ 6 (uX R S j) = true := by simp [uX, BX, cJ, cE]
theorem aLc (hR : R ≤ 10000) : ∀ (d j f : Nat) (l : List Nat), j + d = R → l.length = R → (∀ i, i < j → l.getD i 0 = i) → d < f →
  dP (aQ.l16 G k 6 self) f (uX R S j) (SO (H5 bor ws R M us) 5 l) = some (.exit 4, uX R S R, SO (H5 bor ws R M us) 5 (List.range R))
 | d, j, 0, l, _, _, _, h => by omega
 | 0, j, f + 1, l, hd, hl, hi, hf => by
  have hj : j = R := by omega
  subst hj
  have hc : fU 6 (uX j S j) (SO (H5 bor ws j M us) 5 l) = some (SO (H5 bor ws j M us) 5 l) := gQ (aFY bor ws j M us).hb l _ (uY j S _)
  have g1 : aW Tryd.prog .lss 3 false (Nn j) (Nn j) = some (.bool false) := gF (by omega)
  have el : l = List.range j := by
   refine List.ext_getElem (by rw [hl, List.length_range]) fun i h1 h2 => ?_
   have := hi i (by omega)
   rw [List.getD_eq_getElem?_getD, List.getElem?_eq_getElem h1] at this
   rw [List.getElem_range]; exact this
  rw [← el]
  rw [bE, aQ.l16]
  refine gE ?_
  refine eC hc ?_
  unfold uX
  clear hi el
  have fx := g1
  refine gV ?_
  refine gJ ?_; rfl
 | d + 1, j, f + 1, l, hd, hl, hi, hf => by
  have hc : fU 6 (uX R S j) (SO (H5 bor ws R M us) 5 l) = some (SO (H5 bor ws R M us) 5 l) := gQ (aFY bor ws R M us).hb l _ (uY R S _)
  have g1 : aW Tryd.prog .lss 3 false (Nn j) (Nn R) = some (.bool true) := gN (by omega)
  have q2 : aW Tryd.prog .add 3 true (Nn j) (.int .i64 1) = some (Nn (j + 1 : Nat)) := mP (by omega)
  have d1 := zO 5 R (show j < R by omega)
  have s1 := vG (aFY bor ws R M us) hl (i := j) (by omega) j
  have ih := aLc hR d (j + 1) f (l.set j j) (by omega) (by rw [List.length_set]; exact hl) (fun i h => by
   rw [gP _ _ _ _ (by omega)]
   by_cases e : j = i
   ·rw [if_pos e]; exact e
   ·rw [if_neg e]; exact hi i (by omega)) (by omega)
  rw [bE, aQ.l16]
  refine gE ?_
  refine eC hc ?_
  clear hi
  unfold uX at ih ⊢
  have fx := aMC g1 <| aMC q2 <| aMC d1 <| s1
  refine gV ?_
  exact ih
def tL (o sl wd : List Nat) : aB := [k0 bor ws R M, k1, ⟨86, 7, [.agg [.ro bor (cL ws), Nn R, Nn M, .sl 6 R 0 R 1, .sl 7 R 0 R 1, .nils, .nils]]⟩, ⟨3, 1, jM us⟩, k4 R, ⟨3, 1, eP o⟩, ⟨3, 1, eP sl⟩, ⟨3, 1, eP wd⟩]
theorem aEy (o sl wd : List Nat) (xs : List AV) (hx : cJ 8 xs = true) : fU 8 xs (tL bor ws R M us o sl wd) = some (tL bor ws R M us o sl wd) := by
 have hb : dQ 8 (tL bor ws R M us o sl wd) = true := by simp [tL, cV, dQ, cJ, cE, gD, sD, jY]
 unfold fU
 have e : (tL bor ws R M us o sl wd).take 8 = tL bor ws R M us o sl wd := rfl
 rw [e, hx, hb]; rfl
theorem aEC {H : aB} {b n : Nat} {l : List Nat} (hb : H[b]? = some ⟨3, 1, eP l⟩) (hl : l.length = n) {i : Nat} (h : i < n) : aD G false 1 (.ptr b n i 0) H = some (Nn (l.getD i 0)) := by
 unfold aD
 simp only [hb, gK, hl, if_true, jH l i (by omega)]
 rfl
theorem aED {H : aB} {b n : Nat} {l : List Nat} (hb : H[b]? = some ⟨3, 1, eP l⟩) (hl : l.length = n) {i : Nat} (h : i < n) (x : Nat) : fP (aT 1 (.ptr b n i 0) (Nn x) H) = some (.tup [], H.set b ⟨3, 1, eP (l.set i x)⟩) := by
 have e : aT 1 (.ptr b n i 0) (Nn x) H = some (H.set b ⟨3, 1, eP (l.set i x)⟩) := by
  unfold aT
  simp only [hb, gK, hl]
  rw [if_pos ⟨trivial, rfl, rfl⟩]
  simp only [jH l i (by omega)]
  rw [if_pos (by show 0 + 1 ≤ 1; omega)]
  have : lR (Nn (l.getD i 0)) (kD (Nn (l.getD i 0)).cells 0 (Nn x).cells) = Nn x := rfl
  rw [this, tS]
 rw [e]; rfl
def oU (j : Nat) : List AV := [BX, Nn S, Nn (j + 4 - S), .sl 5 R 0 R 1, Nn R, Nn j]
theorem uZ (j : Nat) : cJ 8 (oU R S j) = true := by simp [oU, BX, cJ, cE]
theorem aJZ (hR : R ≤ 10000) (hM : M ≤ 70000) (hS : 6 ≤ S) (hSR : S ≤ R) (o : List Nat) (ho : o.length = R) (hx : ∀ x ∈ o, x < R) : ∀ (d j f : Nat) (sl wd : List Nat), j + d = R → sl.length = R → wd.length = R → d < f →
  dP (aQ.l24 G k 8 self) f (oU R S j) (tL bor ws R M us o sl wd) = some (.exit 6, oU R S R, tL bor ws R M us o (kA S (o.drop j) j sl) (kB S M (o.drop j) j wd))
 | d, j, 0, sl, wd, _, _, _, h => by omega
 | 0, j, f + 1, sl, wd, hd, hs, hw, hf => by
  have hj : j = R := by omega
  subst hj
  have hc := aEy bor ws j M us o sl wd _ (uZ j S j)
  have g1 : aW Tryd.prog .lss 3 false (Nn j) (Nn j) = some (.bool false) := gF (by omega)
  have e : o.drop j = [] := List.drop_of_length_le (by omega)
  rw [e]
  show _ = some (_, _, tL bor ws j M us o sl wd)
  rw [bE, aQ.l24]
  refine gE ?_
  refine eC hc ?_
  unfold oU
  clear hx
  have fx := g1
  refine gV ?_
  refine gJ ?_; rfl
 | d + 1, j, f + 1, sl, wd, hd, hs, hw, hf => by
  have hc := aEy bor ws R M us o sl wd _ (uZ R S j)
  have g1 : aW Tryd.prog .lss 3 false (Nn j) (Nn R) = some (.bool true) := gN (by omega)
  have q2 : aW Tryd.prog .add 3 true (Nn j) (.int .i64 1) = some (Nn (j + 1 : Nat)) := mP (by omega)
  have d1 := zO 5 R (show j < R by omega)
  have l1 : aD G false 1 (.ptr 5 R j 0) (tL bor ws R M us o sl wd) = some (Nn (o.getD j 0)) := aEC G rfl ho (by omega)
  have hr : o.getD j 0 < R := lA hx (by omega)
  have hdrop : o.drop j = o.getD j 0 :: o.drop (j + 1) := by
   rw [List.getD_eq_getElem?_getD, List.getElem?_eq_getElem (by omega)]
   exact List.drop_eq_getElem_cons (by omega)
  rw [hdrop]
  have d2 := zO 6 R hr
  have d3 := zO 7 R hr
  have q3 : aW Tryd.prog .sub 3 true (Nn S) (.int .i64 4) = some (Nn (S - 4 : Nat)) := kJ (b := 4) (by omega) (by omega)
  have ld3 : aD G false 1 (.ptr 2 1 0 3) (tL bor ws R M us o sl wd) = some (.sl 6 R 0 R 1) := rfl
  have ld4 : aD G false 1 (.ptr 2 1 0 4) (tL bor ws R M us o sl wd) = some (.sl 7 R 0 R 1) := rfl
  have ldM : aD G false 1 (.ptr 2 1 0 2) (tL bor ws R M us o sl wd) = some (Nn M) := rfl
  by_cases hjs : j + 4 < S
  ·have g2 : aW Tryd.prog .lss 3 false (Nn j) (Nn (S - 4 : Nat)) = some (.bool true) := gN (by omega)
   have q4 : aW Tryd.prog .add 3 true (.int .i64 4) (Nn j) = some (Nn (4 + j : Nat)) := nC (a := 4) (by omega)
   have s1 : fP (aT 1 (.ptr 6 R (o.getD j 0) 0) (Nn (4 + j)) (tL bor ws R M us o sl wd)) = some (.tup [], tL bor ws R M us o (sl.set (o.getD j 0) (4 + j)) wd) := aED (b := 6) (H := tL bor ws R M us o sl wd) rfl hs hr (4 + j)
   have ih := aJZ hR hM hS hSR o ho hx d (j + 1) f (sl.set (o.getD j 0) (4 + j)) wd (by omega) (by rw [List.length_set]; exact hs) hw (by omega)
   have e1 : kA S (o.getD j 0 :: o.drop (j + 1)) j sl = kA S (o.drop (j + 1)) (j + 1) (sl.set (o.getD j 0) (4 + j)) := by
    show kA S (o.drop (j + 1)) (j + 1) (if j + 4 < S then _ else _) = _
    rw [if_pos hjs]
   have e2 : kB S M (o.getD j 0 :: o.drop (j + 1)) j wd = kB S M (o.drop (j + 1)) (j + 1) wd := by
    show kB S M (o.drop (j + 1)) (j + 1) (if j + 4 < S then _ else _) = _
    rw [if_pos hjs]
   rw [e1, e2]
   have em : oU R S (j + 1) = [BX, Nn S, Nn (j + 4 - S), .sl 5 R 0 R 1, Nn R, Nn (j + 1)] := by
    unfold oU
    rw [show j + 1 + 4 - S = j + 4 - S by omega]
   rw [em] at ih
   rw [bE, aQ.l24]
   refine gE ?_
   refine eC hc ?_
   clear hx hr hdrop e1 e2 em hjs d3
   generalize kA S (o.drop (j + 1)) (j + 1) (sl.set (o.getD j 0) (4 + j)) = slE at *
   generalize sl.set (o.getD j 0) (4 + j) = sl1 at *
   generalize o.getD j 0 = r at *
   unfold oU at ih ⊢
   have fx := aMC iS <| aMC af0 <| aMC af2 <| aMC af3 <| aMC af4 <| aMC g1 <| aMC q2 <| aMC d1 <| aMC l1 <| aMC d2 <| aMC q3 <| aMC ld3 <| aMC ld4 <| aMC ldM <| aMC g2 <| aMC q4 <| s1
   refine gV ?_
   exact ih
  ·have g2 : aW Tryd.prog .lss 3 false (Nn j) (Nn (S - 4 : Nat)) = some (.bool false) := gF (by omega)
   have q4 : aW Tryd.prog .add 3 false (Nn M) (Nn (j + 4 - S)) = some (Nn (M + (j + 4 - S) : Nat)) := nC (by omega)
   have q5 : aW Tryd.prog .add 3 true (Nn (j + 4 - S)) (.int .i64 1) = some (Nn (j + 4 - S + 1 : Nat)) := mP (by omega)
   have s1 : fP (aT 1 (.ptr 7 R (o.getD j 0) 0) (Nn (M + (j + 4 - S))) (tL bor ws R M us o sl wd)) = some (.tup [], tL bor ws R M us o sl (wd.set (o.getD j 0) (M + (j + 4 - S)))) := aED (b := 7) (H := tL bor ws R M us o sl wd) rfl hw hr (M + (j + 4 - S))
   have ih := aJZ hR hM hS hSR o ho hx d (j + 1) f sl (wd.set (o.getD j 0) (M + (j + 4 - S))) (by omega) hs (by rw [List.length_set]; exact hw) (by omega)
   have e1 : kA S (o.getD j 0 :: o.drop (j + 1)) j sl = kA S (o.drop (j + 1)) (j + 1) sl := by
    show kA S (o.drop (j + 1)) (j + 1) (if j + 4 < S then _ else _) = _
    rw [if_neg hjs]
   have e2 : kB S M (o.getD j 0 :: o.drop (j + 1)) j wd = kB S M (o.drop (j + 1)) (j + 1) (wd.set (o.getD j 0) (M + (j + 4 - S))) := by
    show kB S M (o.drop (j + 1)) (j + 1) (if j + 4 < S then _ else _) = _
    rw [if_neg hjs]
   rw [e1, e2]
   have em : oU R S (j + 1) = [BX, Nn S, Nn (j + 4 - S + 1 : Nat), .sl 5 R 0 R 1, Nn R, Nn (j + 1)] := by
    unfold oU
    rw [show j + 1 + 4 - S = j + 4 - S + 1 by omega]
   rw [em] at ih
   rw [bE, aQ.l24]
   refine gE ?_
   refine eC hc ?_
   clear hx hr hdrop e1 e2 em hjs d2
   generalize kB S M (o.drop (j + 1)) (j + 1) (wd.set (o.getD j 0) (M + (j + 4 - S))) = wdE at *
   generalize wd.set (o.getD j 0) (M + (j + 4 - S)) = wd1 at *
   generalize o.getD j 0 = r at *
   unfold oU at ih ⊢
   generalize M + (j + 4 - S) = z at *
   have fx := aMC iS <| aMC af0 <| aMC af2 <| aMC af3 <| aMC af4 <| aMC g1 <| aMC q2 <| aMC d1 <| aMC l1 <| aMC d3 <| aMC q3 <| aMC ld3 <| aMC ld4 <| aMC ldM <| aMC g2 <| aMC q4 <| aMC q5 <| s1
   refine gV ?_
   exact ih
end
section
variable (bor : Bool) (ws : List WI) (R M S : Nat) (G : aF) (k : Nat)
theorem aIw (H : aB) (hR : R ≤ 10000) : fA 3 1 (.int .i64 0) (Nn R) (Nn R) H = some (.sl H.length R 0 R 1, H ++ [⟨3, 1, List.replicate R (.int .i64 0)⟩]) := by
 unfold fA
 simp only [Int.toNat_natCast]
 rw [if_pos (by omega)]
theorem aHx : (List.replicate R (AV.int .i64 0)) = eP (List.replicate R 0) := by unfold eP; rw [List.map_replicate]; rfl
theorem aLr : (List.replicate R (AV.int .i64 0)) = jM (List.replicate R 0) := by unfold jM; rw [List.map_replicate]
theorem aFw (hw : ∀ w ∈ ws, w.Good R ws.length) (hn : ws.length ≤ 10000) (hR : R ≤ 1000) (hM : M ≤ 70000) (hS : 6 ≤ S) (hSR : S ≤ R) (hk : 10 ≤ k) (hkn : ws.length < k) (hkR : 2 * R < k) :
  ∃ (us : List Int) (o : List Nat), bC (aQ.f G (k + 30)) [BX, Nn S] (hpK bor ws R M) = some (Nn (R + 4 - S), tL bor ws R M us o (kA S o 0 (List.replicate R 0)) (kB S M o 0 (List.replicate R 0))) ∧ us.length = R ∧ o.Perm (List.range R) := by
 obtain ⟨us, lp3, hu⟩ := l3K bor ws R M S G k (aQ.f G (k + 29)) hw hn hk ws.length 0 (k + 29) (List.replicate R 0) [] (by omega) (by simp) (by omega)
 have lp16 := aLc bor ws R M S us G (k + 29) (aQ.f G (k + 29)) (by omega) R 0 (k + 29) (List.replicate R 0) (by omega) (by simp) (fun i h => by omega) (by omega)
 obtain ⟨o, so, pm⟩ := aFL G (k + 24) (aKM bor ws R M us hu) hR (by omega) (List.range R) (by simp) (fun x hx => List.mem_range.1 hx)
 have ho : o.length = R := by rw [pm.length_eq, List.length_range]
 have hox : ∀ x ∈ o, x < R := fun x hx => List.mem_range.1 (pm.subset hx)
 have lp24 := aJZ bor ws R M S us G (k + 29) (aQ.f G (k + 29)) (by omega) hM hS hSR o ho hox R 0 (k + 29) (List.replicate R 0) (List.replicate R 0) (by omega) (by simp) (by simp) (by omega)
 refine ⟨us, o, ?_, hu, pm⟩
 rw [List.drop_zero] at lp24
 refine pG ?_ (by show 3 ≤ 8; decide)
 rw [aQ.step]
 unfold aQ.c
 have af1 : aA 1 BX = some (.ptr 2 1 0 1) := rfl
 have ldR : aD G false 1 (.ptr 2 1 0 1) (hpK bor ws R M) = some (Nn R) := rfl
 have m1 : fA 3 1 (.int .i64 0) (Nn R) (Nn R) (hpK bor ws R M) = some (.sl 3 R 0 R 1, hpK bor ws R M ++ [⟨3, 1, jM (List.replicate R 0)⟩]) := by rw [aIw R _ (by omega), aLr]; rfl
 have b1 : fV 49 .nils (hpK bor ws R M ++ [⟨3, 1, jM (List.replicate R 0)⟩]) = some (.ptr 4 1 0 0, hpK bor ws R M ++ [⟨3, 1, jM (List.replicate R 0)⟩] ++ [⟨49, 1, [.nils]⟩]) := rfl
 have s1 : fP (aT 1 (.ptr 4 1 0 0) (.sl 3 R 0 R 1) (hpK bor ws R M ++ [⟨3, 1, jM (List.replicate R 0)⟩] ++ [⟨49, 1, [.nils]⟩])) = some (.tup [], nJ bor ws R M (List.replicate R 0) []) := rfl
 have ldW : aD G false 1 BX (nJ bor ws R M (List.replicate R 0) []) = some (.ro bor (cL ws)) := rfl
 have lnW : dN (.ro bor (cL ws)) = some (Nn ws.length) := by simp [dN, fR]
 replace lp3 : dP (aQ.l3 G (k + 29) (nJ bor ws R M (List.replicate R 0) []).length (aQ.f G (k + 29))) (k + 29) [BX, Nn S, .ptr 4 1 0 0, .ro bor (cL ws), Nn ws.length, .int .i64 0] (nJ bor ws R M (List.replicate R 0) []) = some (.exit 0, [BX, Nn S, .ptr 4 1 0 0, .ro bor (cL ws), Nn ws.length, Nn ws.length], nJ bor ws R M us []) := lp3
 have ldR2 : aD G false 1 (.ptr 2 1 0 1) (nJ bor ws R M us []) = some (Nn R) := rfl
 have m2 : fA 3 1 (.int .i64 0) (Nn R) (Nn R) (nJ bor ws R M us []) = some (.sl 5 R 0 R 1, SO (H5 bor ws R M us) 5 (List.replicate R 0)) := by rw [aIw R _ (by omega), aHx]; rfl
 have lnO : dN (.sl 5 R 0 R 1) = some (Nn R) := rfl
 replace lp16 : dP (aQ.l16 G (k + 29) (SO (H5 bor ws R M us) 5 (List.replicate R 0)).length (aQ.f G (k + 29))) (k + 29) [BX, Nn S, .ptr 4 1 0 0, .sl 5 R 0 R 1, Nn R, .int .i64 0] (SO (H5 bor ws R M us) 5 (List.replicate R 0)) = some (.exit 4, [BX, Nn S, .ptr 4 1 0 0, .sl 5 R 0 R 1, Nn R, Nn R], SO (H5 bor ws R M us) 5 (List.range R)) := lp16
 replace so : bC (aP.f G (k + 29)) [.sl 5 R 0 R 1, .fn 74 [.ptr 4 1 0 0]] (SO (H5 bor ws R M us) 5 (List.range R)) = some (.tup [], SO (H5 bor ws R M us) 5 o) := so
 have ldR3 : aD G false 1 (.ptr 2 1 0 1) (SO (H5 bor ws R M us) 5 o) = some (Nn R) := rfl
 have m3 : fA 3 1 (.int .i64 0) (Nn R) (Nn R) (SO (H5 bor ws R M us) 5 o) = some (.sl 6 R 0 R 1, SO (H5 bor ws R M us) 5 o ++ [⟨3, 1, eP (List.replicate R 0)⟩]) := by rw [aIw R _ (by omega), aHx]; rfl
 have ldR4 : aD G false 1 (.ptr 2 1 0 1) (SO (H5 bor ws R M us) 5 o ++ [⟨3, 1, eP (List.replicate R 0)⟩]) = some (Nn R) := rfl
 have m4 : fA 3 1 (.int .i64 0) (Nn R) (Nn R) (SO (H5 bor ws R M us) 5 o ++ [⟨3, 1, eP (List.replicate R 0)⟩]) = some (.sl 7 R 0 R 1, SO (H5 bor ws R M us) 5 o ++ [⟨3, 1, eP (List.replicate R 0)⟩] ++ [⟨3, 1, eP (List.replicate R 0)⟩]) := by rw [aIw R _ (by omega), aHx]; rfl
 have s2 : fP (aT 1 (.ptr 2 1 0 3) (.sl 6 R 0 R 1) (SO (H5 bor ws R M us) 5 o ++ [⟨3, 1, eP (List.replicate R 0)⟩] ++ [⟨3, 1, eP (List.replicate R 0)⟩])) = some (.tup [], (SO (H5 bor ws R M us) 5 o ++ ([⟨3, 1, eP (List.replicate R 0)⟩] : aB) ++ ([⟨3, 1, eP (List.replicate R 0)⟩] : aB)).set 2 ⟨86, 7, [.agg [.ro bor (cL ws), Nn R, Nn M, .sl 6 R 0 R 1, .nils, .nils, .nils]]⟩) := rfl
 have s3 : fP (aT 1 (.ptr 2 1 0 4) (.sl 7 R 0 R 1) ((SO (H5 bor ws R M us) 5 o ++ ([⟨3, 1, eP (List.replicate R 0)⟩] : aB) ++ ([⟨3, 1, eP (List.replicate R 0)⟩] : aB)).set 2 ⟨86, 7, [.agg [.ro bor (cL ws), Nn R, Nn M, .sl 6 R 0 R 1, .nils, .nils, .nils]]⟩)) = some (.tup [], tL bor ws R M us o (List.replicate R 0) (List.replicate R 0)) := rfl
 replace lp24 : dP (aQ.l24 G (k + 29) (tL bor ws R M us o (List.replicate R 0) (List.replicate R 0)).length (aQ.f G (k + 29))) (k + 29) [BX, Nn S, .int .i64 0, .sl 5 R 0 R 1, Nn R, .int .i64 0] (tL bor ws R M us o (List.replicate R 0) (List.replicate R 0)) = some (.exit 6, [BX, Nn S, Nn (R + 4 - S), .sl 5 R 0 R 1, Nn R, Nn R], tL bor ws R M us o (kA S o 0 (List.replicate R 0)) (kB S M o 0 (List.replicate R 0))) := by
  have e0 : Nn (0 + 4 - S) = .int .i64 0 := by rw [show 0 + 4 - S = 0 by omega]; rfl
  unfold oU at lp24
  rw [e0] at lp24
  exact lp24
 generalize kA S o 0 (List.replicate R 0) = slE at *
 generalize kB S M o 0 (List.replicate R 0) = wdE at *
 clear hox
 generalize (SO (H5 bor ws R M us) 5 o ++ ([⟨3, 1, eP (List.replicate R 0)⟩] : aB) ++ ([⟨3, 1, eP (List.replicate R 0)⟩] : aB)).set 2 ⟨86, 7, [.agg [.ro bor (cL ws), Nn R, Nn M, .sl 6 R 0 R 1, .nils, .nils, .nils]]⟩ = hm3 at *
 generalize SO (H5 bor ws R M us) 5 o ++ ([⟨3, 1, eP (List.replicate R 0)⟩] : aB) ++ ([⟨3, 1, eP (List.replicate R 0)⟩] : aB) = hm2 at *
 generalize SO (H5 bor ws R M us) 5 o ++ ([⟨3, 1, eP (List.replicate R 0)⟩] : aB) = hm1 at *
 generalize hpK bor ws R M ++ ([⟨3, 1, jM (List.replicate R 0)⟩] : aB) ++ ([⟨49, 1, [.nils]⟩] : aB) = hn2 at *
 generalize hpK bor ws R M ++ ([⟨3, 1, jM (List.replicate R 0)⟩] : aB) = hn1 at *
 refine gS ?_
 have fx := aMC iS <| aMC af0 <| aMC af1 <| aMC af2 <| aMC af3 <| aMC af4 <| aMC ldR <| aMC m1 <| aMC b1 <| aMC s1 <| aMC ldW <| aMC lnW <| aMC ldR2 <| aMC m2 <| aMC lnO <| aMC so <| aMC ldR3 <| aMC m3 <| aMC ldR4 <| aMC m4 <| aMC s2 <| s3
 have lx1 := lp3
 have lx2 := lp16
 have lx3 := lp24
 refine gV ?_
 refine gJ ?_; rfl
end
def LS.mark (s : LS) : LS := { s with place := s.place ++ [s.out.length] }
def LS.run (L : LY) : List WI → LS → LS
 | [], s => s
 | w :: ws, s => LS.run L ws (s.mark.put (L.one w))
theorem aBm (L : LY) : ∀ (ws : List WI) (s : LS), LS.run L ws s = ⟨s.out ++ L.flat ws, s.place ++ L.pos s.out.length ws⟩
 | [], s => by simp [LS.run, LY.flat, LY.pos]
 | w :: ws, s => by
  show LS.run L ws (s.mark.put (L.one w)) = _
  rw [aBm L ws]
  simp [LY.flat, LY.pos, LS.mark, LS.put]
theorem aII (L : LY) (ws : List WI) : (LS.run L ws ⟨[], []⟩).mark = ⟨L.flat ws, L.place ws⟩ := by
 rw [aBm]
 simp [LS.mark, LY.place]
theorem aEY (i x : WI) : ∀ (pre suf : List WI), (pre ++ i :: suf).set pre.length x = pre ++ x :: suf
 | [], suf => rfl
 | y :: pre, suf => by
  show y :: (pre ++ i :: suf).set pre.length x = _
  rw [aEY i x pre suf]; rfl
section
variable (A : AX) (G : aF) (k : Nat) (self : cC)
theorem aDM (i : WI) (pre suf : List WI) : (cL (pre ++ i :: suf))[pre.length]? = some i.v := by
 unfold cL
 rw [List.getElem?_map, List.getElem?_append_right (Nat.le_refl _)]; simp
theorem aLe (i : WI) (pre suf : List WI) (pl : List Nat) (T : aB) (N : Nat) (hN : (pre ++ i :: suf).length = N) : aD G false 1 (.ptr 8 N pre.length 0) (A.hp ⟨pre ++ i :: suf, pl⟩ T) = some (I6 i.op) := by
 have e : (A.hp ⟨pre ++ i :: suf, pl⟩ T)[8]? = some ⟨29, 6, cL (pre ++ i :: suf)⟩ := rfl
 unfold aD
 simp only [e, fR, hN, if_true, aDM]
 rfl
theorem aLP (i : WI) (pre suf : List WI) (pl : List Nat) (T : aB) (N : Nat) (hN : (pre ++ i :: suf).length = N) : aD G false 1 (.ptr 8 N pre.length 5) (A.hp ⟨pre ++ i :: suf, pl⟩ T) = some (I6 i.k) := by
 have e : (A.hp ⟨pre ++ i :: suf, pl⟩ T)[8]? = some ⟨29, 6, cL (pre ++ i :: suf)⟩ := rfl
 unfold aD
 simp only [e, fR, hN, if_true, aDM]
 rfl
theorem aLv (i : WI) (pre suf : List WI) (pl : List Nat) (T : aB) (N : Nat) (hN : (pre ++ i :: suf).length = N) (x : Int) : fP (aT 1 (.ptr 8 N pre.length 5) (I6 x) (A.hp ⟨pre ++ i :: suf, pl⟩ T)) = some (.tup [], A.hp ⟨pre ++ { i with k := x } :: suf, pl⟩ T) := by
 have e : (A.hp ⟨pre ++ i :: suf, pl⟩ T)[8]? = some ⟨29, 6, cL (pre ++ i :: suf)⟩ := rfl
 have e3 : (cL (pre ++ i :: suf)).set pre.length (WI.v { i with k := x }) = cL (pre ++ { i with k := x } :: suf) := by
  unfold cL
  rw [← List.map_set, aEY]
 have e4 : (pre ++ { i with k := x } :: suf).length = (pre ++ i :: suf).length := by simp
 have e5 : (A.hp ⟨pre ++ i :: suf, pl⟩ T).set 8 ⟨29, 6, cL (pre ++ { i with k := x } :: suf)⟩ = A.hp ⟨pre ++ { i with k := x } :: suf, pl⟩ T := by
  unfold AX.hp AX.box
  simp only [e4]; rfl
 have e6 : aT 1 (.ptr 8 N pre.length 5) (I6 x) (A.hp ⟨pre ++ i :: suf, pl⟩ T) = some (A.hp ⟨pre ++ { i with k := x } :: suf, pl⟩ T) := by
  unfold aT
  simp only [e, fR, hN, aDM]
  rw [if_pos ⟨trivial, rfl, rfl⟩, if_pos (by show 5 + 1 ≤ 6; decide)]
  rw [← e5, ← e3]
  rfl
 rw [e6]; rfl
theorem aLf (s : LS) (T : aB) (r : Int) (h : 0 ≤ r ∧ r < s.place.length) : aD G false 1 (.ptr 9 s.place.length r.toNat 0) (A.hp s T) = some (Nn (s.place.getD r.toNat 0)) := aEC G (H := A.hp s T) rfl rfl (by omega)
theorem aLa (b n : Nat) {r : Nat} (h : r < n) : aM 6 (.sl b n 0 n 6) (Nn r) = some (.ptr b n r 0) := by
 rw [sR (by omega) (by omega), Nat.zero_add, Int.toNat_natCast]
theorem aAG (op : Int) : brB op = true ↔ op = 17 ∨ op = 18 ∨ op = 19 := by unfold brB; simp [or_assoc]
def yM (N j : Nat) : List AV := [BX, Nn N, Nn j]
theorem xQ (N j : Nat) : cJ 10 (yM N j) = true := by simp [yM, BX, cJ, cE]
theorem l2P (P : List Nat) (N : Nat) (hN : N ≤ 90000) : ∀ (suf pre : List WI) (f : Nat) (X : aB), pre.length + suf.length = N → (∀ i ∈ suf, brB i.op = true → i.k = -1 ∨ (0 ≤ i.k ∧ i.k < P.length)) → suf.length < f →
  dP (bB.l2 G (k + 1) 10 self) f (yM N pre.length) (A.hp ⟨pre ++ suf, P⟩ X) = some (.exit 0, yM N N, A.hp ⟨pre ++ suf.map (jU P N), P⟩ [])
 | suf, pre, 0, X, _, _, h => by omega
 | [], pre, f + 1, X, hl, hb, hf => by
  have hj : pre.length = N := by simpa using hl
  rw [hj]
  have hc : fU 10 (yM N N) (A.hp ⟨pre ++ [], P⟩ X) = some (A.hp ⟨pre ++ [], P⟩ []) := tN A _ [] X (fun _ => rfl) _ (xQ N N)
  have g1 : aW Tryd.prog .lss 3 false (Nn N) (Nn N) = some (.bool false) := gF (by omega)
  rw [bE, bB.l2]
  refine gE ?_
  refine eC hc ?_
  unfold yM
  have fx := g1
  refine gV ?_
  refine gJ ?_; rfl
 | i :: suf, pre, f + 1, X, hl, hb, hf => by
  simp only [List.length_cons] at hl hf
  have hN' : (pre ++ i :: suf).length = N := by rw [List.length_append, List.length_cons]; exact hl
  have hc : fU 10 (yM N pre.length) (A.hp ⟨pre ++ i :: suf, P⟩ X) = some (A.hp ⟨pre ++ i :: suf, P⟩ []) := tN A _ [] X (fun _ => rfl) _ (xQ N _)
  have g1 : aW Tryd.prog .lss 3 false (Nn pre.length) (Nn N) = some (.bool true) := gN (by omega)
  have q2 : aW Tryd.prog .add 3 true (Nn pre.length) (.int .i64 1) = some (Nn (pre.length + 1 : Nat)) := mP (by omega)
  have l5 := al5 A ⟨pre ++ i :: suf, P⟩ [] G
  simp only [hN'] at l5
  have d1 := aLa 8 N (show pre.length < N by omega)
  have nl : fT (.ptr 8 N pre.length 0) = some (.ptr 8 N pre.length 0) := rfl
  have f0 : aA 0 (.ptr 8 N pre.length 0) = some (.ptr 8 N pre.length 0) := rfl
  have f5 : aA 5 (.ptr 8 N pre.length 0) = some (.ptr 8 N pre.length 5) := rfl
  have lo := aLe A G i pre suf P [] N hN'
  have lk := aLP A G i pre suf P [] N hN'
  have rb : ∀ H, aU (dD.f G (k + 1)) [I6 i.op] H = _ := fun H => cD (H := H) (xY G k i.op) rfl rfl
  have ih := l2P P N hN suf (pre ++ [jU P N i]) f [] (by simp; omega) (fun x hx => hb x (List.mem_cons_of_mem _ hx)) (by omega)
  have ea : pre ++ [jU P N i] ++ suf = pre ++ jU P N i :: suf := by simp
  have eb : (pre ++ [jU P N i]).length = pre.length + 1 := by simp
  have ec : pre ++ [jU P N i] ++ suf.map (jU P N) = pre ++ (i :: suf).map (jU P N) := by simp
  rw [ea, eb, ec] at ih
  generalize pre ++ (i :: suf).map (jU P N) = oE at *
  clear ea eb ec
  cases hbr : brB i.op with
  | false =>
   have hnb : ¬ (i.op = 17 ∨ i.op = 18 ∨ i.op = 19) := fun h => by rw [(aAG _).2 h] at hbr; cases hbr
   have ef : jU P N i = i := by unfold jU; rw [if_neg hnb]
   rw [ef] at ih
   rw [hbr] at rb
   rw [bE, bB.l2]
   refine gE ?_
   refine eC hc ?_
   clear hb hnb hbr
   unfold yM at ih ⊢
   generalize i.op = op at *
   have fx := aMC iS <| aMC af5 <| aMC g1 <| aMC q2 <| aMC l5 <| aMC d1 <| aMC nl <| aMC f0 <| aMC lo <| rb
   refine gV ?_
   exact ih
  | true =>
   have hbb := (aAG _).1 hbr
   have hkk := hb i (List.mem_cons_self ..) hbr
   rw [hbr] at rb
   by_cases hf1 : i.k = -1
   ·have ef : jU P N i = { i with k := N } := by unfold jU; rw [if_pos hbb, if_pos hf1]
    rw [ef] at ih
    have g2 : aW Tryd.prog .eql 2 true (I6 i.k) (.int .i64 (-1)) = some (.bool true) := kM hf1
    have ln : dN (.sl 8 N 0 N 6) = some (Nn N) := rfl
    have s1 := aLv A i pre suf P [] N hN' N
    rw [bE, bB.l2]
    refine gE ?_
    refine eC hc ?_
    clear hb hbb hbr hkk hf1
    unfold yM at ih ⊢
    generalize i.op = op at *
    generalize i.k = ik at *
    have fx := aMC iS <| aMC af5 <| aMC g1 <| aMC q2 <| aMC l5 <| aMC d1 <| aMC nl <| aMC f0 <| aMC f5 <| aMC lo <| aMC lk <| aMC rb <| aMC g2 <| aMC ln <| s1
    refine gV ?_
    exact ih
   ·have hk2 : 0 ≤ i.k ∧ i.k < P.length := by omega
    have ef : jU P N i = { i with k := (P.getD i.k.toNat 0 : Nat) } := by unfold jU; rw [if_pos hbb, if_neg hf1]
    rw [ef] at ih
    have g2 : aW Tryd.prog .eql 2 true (I6 i.k) (.int .i64 (-1)) = some (.bool false) := gW hf1
    have l6 := al6 A ⟨pre ++ i :: suf, P⟩ [] G
    have d2 := yO 9 P.length hk2
    have lp := aLf A G ⟨pre ++ i :: suf, P⟩ [] i.k hk2
    simp only at l6 lp
    have s1 := aLv A i pre suf P [] N hN' (P.getD i.k.toNat 0 : Nat)
    rw [bE, bB.l2]
    refine gE ?_
    refine eC hc ?_
    clear hb hbb hbr hkk hf1 hk2
    unfold yM at ih ⊢
    generalize i.op = op at *
    generalize P.getD i.k.toNat 0 = y at *
    generalize i.k.toNat = kn at *
    generalize i.k = ik at *
    have fx := aMC iS <| aMC af5 <| aMC af6 <| aMC g1 <| aMC q2 <| aMC l5 <| aMC d1 <| aMC nl <| aMC f0 <| aMC f5 <| aMC lo <| aMC lk <| aMC rb <| aMC g2 <| aMC l6 <| aMC d2 <| aMC lp <| s1
    refine gV ?_
    exact ih
theorem aGU (s : LS) (T : aB) (x : Nat) (hs : s.place.length ≤ 1000000) : fY 3 1 (.sl 9 s.place.length 0 s.place.length 1) (.ro false [Nn x]) (A.hp s T) = some (.sl 9 (s.place ++ [x]).length 0 (s.place ++ [x]).length 1, (A.hp s T).set 9 ⟨3, 1, eP (s.place ++ [x])⟩) := by
 have e : (A.hp s T)[9]? = some ⟨3, 1, eP s.place⟩ := rfl
 have e1 : iF (.ro false [Nn x]) (A.hp s T) = some [Nn x] := rfl
 unfold fY
 simp only [e, e1, gK]
 rw [if_pos (by refine ⟨?_, ?_, ?_, ?_, ?_⟩ <;> first | trivial | rfl | (show s.place.length + 1 ≤ _; omega))]
 have e2 : (eP s.place).take s.place.length = eP s.place := List.take_of_length_le (by rw [gK]; exact Nat.le_refl _)
 have e3 : (eP s.place).drop (s.place.length + [Nn x].length) = [] := List.drop_of_length_le (by rw [gK]; exact Nat.le_add_right _ _)
 have e4 : eP s.place ++ [Nn x] = eP (s.place ++ [x]) := by simp [eP]
 rw [e2, e3, List.append_nil, e4, gK]
 simp
theorem aCP (s : LS) (hs : s.out.length ≤ 80000) (hp : s.place.length ≤ 80000) (hk : s.out.length < k) (hb : ∀ i ∈ s.out, brB i.op = true → i.k = -1 ∨ (0 ≤ i.k ∧ i.k < s.mark.place.length)) :
  bC (bB.f G (k + 2)) [BX] (A.hp s []) = some (.tup [], A.hp ⟨s.out.map (jU s.mark.place s.out.length), s.mark.place⟩ []) := by
 apply kH
 rw [bB.step]
 unfold bB.c
 have l6 := al6 A s [] G
 have l5 := al5 A s [] G
 have ln : dN (.sl 8 s.out.length 0 s.out.length 6) = some (Nn s.out.length) := rfl
 have br : ∀ H, fS 1 1 (.int .i64 0) [(0, Nn s.out.length)] H = some (.ro false [Nn s.out.length], H) := fun H => rfl
 have a1 := aGU A s [] s.out.length (by omega)
 have s1 : fP (aT 1 (.ptr 2 1 0 6) (.sl 9 (s.place ++ [s.out.length]).length 0 (s.place ++ [s.out.length]).length 1) ((A.hp s []).set 9 ⟨3, 1, eP (s.place ++ [s.out.length])⟩)) = some (.tup [], A.hp s.mark []) := rfl
 have l5' := al5 A s.mark [] G
 have lp := l2P A G k (bB.f G (k + 1)) s.mark.place s.out.length (by omega) s.out [] (k + 1) [] (by simp) hb (by omega)
 replace lp : dP (bB.l2 G (k + 1) (A.hp s.mark []).length (bB.f G (k + 1))) (k + 1) [BX, Nn s.out.length, .int .i64 0] (A.hp s.mark []) = some (.exit 0, [BX, Nn s.out.length, Nn s.out.length], A.hp ⟨s.out.map (jU s.mark.place s.out.length), s.mark.place⟩ []) := lp
 have fin := aCn A ⟨s.out.map (jU s.mark.place s.out.length), s.mark.place⟩ [] (fun _ => rfl)
 clear hb
 have em : s.mark.out = s.out := rfl
 rw [em] at l5'
 generalize (A.hp s []).set 9 ⟨3, 1, eP (s.place ++ [s.out.length])⟩ = hm at *
 generalize s.place ++ [s.out.length] = pl1 at *
 refine gS ?_
 have fx := aMC iS <| aMC af5 <| aMC af6 <| aMC l6 <| aMC l5 <| aMC l5' <| aMC ln <| aMC br <| aMC a1 <| s1
 have lx1 := lp
 refine gV ?_
 exact oF fin
def aBI (S more j : Nat) : List AV := [Nn S, .ptr 0 1 0 0, .ptr 1 1 0 0, BX, Nn more, .ro A.bor (cL A.ws), Nn A.ws.length, Nn j]
theorem xP (S more j : Nat) : cJ 10 (aBI A S more j) = true := by simp [aBI, BX, cJ, cE, gD]
theorem aCB (hW : A.W) (hg : ∀ w ∈ A.ws, w.Good A.R A.ws.length) (hl : A.ws.length ≤ 10000) (S more : Nat) : ∀ (d j n : Nat) (s : LS) (X : aB), j + d = A.ws.length → d < n → s.out.length + 8 * d ≤ 100000 → s.place.length + d ≤ 100000 →
  dP (bX.l14 G (k + 10) 10 self) n (aBI A S more j) (A.hp s X) = some (.exit 0, aBI A S more A.ws.length, A.hp (LS.run A.L (A.ws.drop j) s) [])
 | d, j, 0, s, X, h, hf, _, _ => by omega
 | 0, j, n + 1, s, X, h, hf, _, _ => by
  have hj : j = A.ws.length := by omega
  subst hj
  have hc : fU 10 (aBI A S more A.ws.length) (A.hp s X) = some (A.hp s []) := tN A s [] X (fun _ => rfl) _ (xP A S more _)
  have g1 : aW Tryd.prog .lss 3 false (Nn A.ws.length) (Nn A.ws.length) = some (.bool false) := gF (by omega)
  rw [bE, bX.l14, List.drop_length]
  refine gE ?_
  refine eC hc ?_
  unfold aBI LS.run
  clear hg
  have fx := g1
  refine gV ?_
  refine gJ ?_; rfl
 | d + 1, j, n + 1, s, X, h, hf, h1, h3 => by
  obtain ⟨w, hwj⟩ : ∃ w, A.ws.getD j default = w := ⟨_, rfl⟩
  have hmem : w ∈ A.ws := by
   rw [← hwj, List.getD_eq_getElem?_getD, List.getElem?_eq_getElem (by omega)]; exact List.getElem_mem _
  have hdrop : A.ws.drop j = w :: A.ws.drop (j + 1) := by
   rw [← hwj, List.getD_eq_getElem?_getD, List.getElem?_eq_getElem (by omega)]
   exact List.drop_eq_getElem_cons (by omega)
  have d1 := aCx A.bor A.ws j (by omega)
  rw [hwj] at d1
  have hln := aCL A.L w
  have hm1 : s.mark.out = s.out := rfl
  have hm3 : s.mark.place.length = s.place.length + 1 := by simp [LS.mark]
  have ih := aCB hW hg hl S more d (j + 1) n (s.mark.put (A.L.one w)) [⟨29, 6, [w.v]⟩] (by omega) (by omega) (by rw [iP, hm1]; omega) (by show s.mark.place.length + d ≤ _; rw [hm3]; omega)
  rw [hdrop]
  have er : LS.run A.L (w :: A.ws.drop (j + 1)) s = LS.run A.L (A.ws.drop (j + 1)) (s.mark.put (A.L.one w)) := rfl
  rw [er]
  generalize LS.run A.L (A.ws.drop (j + 1)) (s.mark.put (A.L.one w)) = sE at *
  have hc : fU 10 (aBI A S more j) (A.hp s X) = some (A.hp s []) := tN A s [] X (fun _ => rfl) _ (xP A S more _)
  have g1 : aW Tryd.prog .lss 3 false (Nn j) (Nn A.ws.length) = some (.bool true) := gN (by omega)
  have q2 : aW Tryd.prog .add 3 true (Nn j) (.int .i64 1) = some (Nn (j + 1 : Nat)) := mP (by omega)
  have d2 : ∀ H, aD G true 6 (.rp A.bor w.v 0) H = some w.v := fun H => rfl
  have b1 : fV 29 (.agg [(.int .i64 0), (.int .i64 0), (.int .i64 0), (.int .i64 0), (.int .i64 0), (.int .i64 0)]) (A.hp s []) = some (.ptr 10 1 0 0, A.hp s [⟨29, 6, [.agg [(.int .i64 0), (.int .i64 0), (.int .i64 0), (.int .i64 0), (.int .i64 0), (.int .i64 0)]]⟩]) := rfl
  have b2 : fP (aT 6 (.ptr 10 1 0 0) w.v (A.hp s [⟨29, 6, [.agg [(.int .i64 0), (.int .i64 0), (.int .i64 0), (.int .i64 0), (.int .i64 0), (.int .i64 0)]]⟩])) = some (.tup [], A.hp s [⟨29, 6, [w.v]⟩]) := rfl
  have l5 := al5 A s [⟨29, 6, [w.v]⟩] G
  have l6 := al6 A s [⟨29, 6, [w.v]⟩] G
  have ln : dN (.sl 8 s.out.length 0 s.out.length 6) = some (Nn s.out.length) := rfl
  have br : ∀ H, fS 1 1 (.int .i64 0) [(0, Nn s.out.length)] H = some (.ro false [Nn s.out.length], H) := fun H => rfl
  have a1 := aGU A s [⟨29, 6, [w.v]⟩] s.out.length (by omega)
  have s1 : fP (aT 1 (.ptr 2 1 0 6) (.sl 9 (s.place ++ [s.out.length]).length 0 (s.place ++ [s.out.length]).length 1) ((A.hp s [⟨29, 6, [w.v]⟩]).set 9 ⟨3, 1, eP (s.place ++ [s.out.length])⟩)) = some (.tup [], A.hp s.mark [⟨29, 6, [w.v]⟩]) := rfl
  have lv : aD G true 6 (.ptr 10 1 0 0) (A.hp s.mark [⟨29, 6, [w.v]⟩]) = some w.v := rfl
  have o1 := aFE A s.mark G k hW w (hg w hmem) (by rw [hm1]; omega)
  rw [bE, bX.l14]
  refine gE ?_
  refine eC hc ?_
  clear hg hmem hdrop hwj er hm1 hm3
  unfold aBI at ih ⊢
  generalize (A.hp s [⟨29, 6, [w.v]⟩]).set 9 ⟨3, 1, eP (s.place ++ [s.out.length])⟩ = hm_ at *
  generalize s.place ++ [s.out.length] = pl1 at *
  generalize w.v = wv at *
  have fx := aMC iS <| aMC af5 <| aMC af6 <| aMC g1 <| aMC q2 <| aMC d1 <| aMC d2 <| aMC b1 <| aMC b2 <| aMC l5 <| aMC l6 <| aMC ln <| aMC br <| aMC a1 <| aMC s1 <| aMC lv <| o1
  refine gV ?_
  exact ih
end
theorem aIy {v : VE} (h : v ≠ .ok) : aW Tryd.prog .neq 33 true (tC v) .nili = some (.bool true) := by
 cases v with
 | ok => exact absurd rfl h
 | bare e => kernel_rfl
 | at_ j e => kernel_rfl
abbrev zC : AV := .agg [.nils, .int .i64 0, .int .i64 0]
theorem aEw {x y z : AV} {H : aB} (h : rG H 0 6 (.tup [x, y]) = some z) : hJ [some x, some y] 0 H = some (.ret, [z], []) := by
 have hc : fU 0 [] H = some [] := by
  unfold fU
  rw [List.take_zero]; rfl
 unfold hJ pV cF oQ
 simp only [pV, h, hc]
theorem aBZ {L : LY} {f : Bool} {v into : Int} {x : WI} (h : x ∈ L.rC f v into) : ¬ (x.op = 17 ∨ x.op = 18 ∨ x.op = 19) := by
 unfold LY.rC LY.rdC at h
 split at h
 ·split at h
  ·rw [List.mem_singleton.1 h]; simp
  ·cases h
 ·cases h
theorem aJf {L : LY} {v : Int} {x : WI} (h : x ∈ L.wrC v) : ¬ (x.op = 17 ∨ x.op = 18 ∨ x.op = 19) := by
 unfold LY.wrC at h
 split at h
 ·rw [List.mem_singleton.1 h]; simp
 ·cases h
theorem aJR {L : LY} {w x : WI} {R n : Nat} (hg : w.Good R n) (hx : x ∈ L.one w) (hb : x.op = 17 ∨ x.op = 18 ∨ x.op = 19) : x.k = -1 ∨ (0 ≤ x.k ∧ x.k ≤ n) := by
 have had : x ∈ L.adC w → x.k = -1 := fun h => by
  unfold LY.adC at h
  rcases List.mem_append.1 h with h | h
  ·exact absurd hb (aBZ (f := true) (show x ∈ L.rC true w.a 1 from h))
  ·simp only [List.mem_cons, List.not_mem_nil, or_false] at h
   rcases h with rfl | rfl | rfl | rfl | rfl
   ·simp at hb
   ·simp at hb
   ·simp at hb
   ·simp at hb
   ·rfl
 unfold LY.one at hx
 split at hx
 ·rcases List.mem_append.1 hx with h | h
  ·exact .inl (had h)
  ·rcases List.mem_append.1 h with h | h
   ·rw [List.mem_singleton.1 h] at hb; simp at hb
   ·exact absurd hb (aJf h)
 ·split at hx
  ·rcases List.mem_append.1 hx with h | h
   ·exact .inl (had h)
   ·rcases List.mem_append.1 h with h | h
    ·exact absurd hb (aBZ (f := true) (show x ∈ L.rC true w.b 1 from h))
    ·rw [List.mem_singleton.1 h] at hb; simp at hb
  ·rcases List.mem_append.1 hx with h | h
   ·unfold LY.rds at h
    rcases List.mem_append.1 h with h | h
    ·exact absurd hb (aBZ h)
    ·rcases List.mem_append.1 h with h | h
     ·exact absurd hb (aBZ h)
     ·exact absurd hb (aBZ h)
   ·rcases List.mem_append.1 h with h | h
    ·rw [List.mem_singleton.1 h] at hb ⊢
     have hb' : w.op = 17 ∨ w.op = 18 ∨ w.op = 19 := hb
     exact .inr (hg.ok2.ok.k (by omega) (by omega))
    ·unfold LY.wrs at h
     split at h
     ·exact absurd hb (aJf h)
     ·cases h
section
variable (G : aF) (hg : GOk G) (k : Nat) (bor : Bool) (ws : List WI) (R M S : Nat)
theorem lH (r m : Int) : bR (cV bor ws r m) = true := by simp [bR, gC, aGW, cV]
include hg in
theorem aFf (r m s : Int) (hk : ws.length < k + 7) (hl : ws.length ≤ 1000000) (h : gO ws r m ≠ .ok) : bX.f G (k + 9) [cV bor ws r m, I6 s] [] = some (.tup [zC, tC (gO ws r m)], []) := by
 rw [bX.step]
 unfold bX.c
 have b0 : fV 27 (cV bor ws r m) [] = some (.ptr 0 1 0 0, [⟨27, 3, [cV bor ws r m]⟩]) := rfl
 have b1 : fV 27 zC [⟨27, 3, [cV bor ws r m]⟩] = some (.ptr 1 1 0 0, [⟨27, 3, [cV bor ws r m]⟩, ⟨27, 3, [zC]⟩]) := rfl
 have c1 : aD G true 3 (.ptr 0 1 0 0) [⟨27, 3, [cV bor ws r m]⟩, ⟨27, 3, [zC]⟩] = some (cV bor ws r m) := rfl
 have r1 : ∀ H, aU (cI.f G (k + 8)) [cV bor ws r m] H = _ := fun H => cD (H := H) (mJ G hg k ws r m hk hl) (by simp [gC, lH]) (mI _)
 have q := aIy h
 have bs : cX [(0, 1), (1, 1), (2, 1)] [.nils, (.int .i64 0), (.int .i64 0)] [] = some zC := rfl
 have st : fP (aT 3 (.ptr 1 1 0 0) zC [⟨27, 3, [cV bor ws r m]⟩, ⟨27, 3, [zC]⟩]) = some (.tup [], [⟨27, 3, [cV bor ws r m]⟩, ⟨27, 3, [zC]⟩]) := rfl
 have fin : hJ [aD G true 3 (.ptr 1 1 0 0) [⟨27, 3, [cV bor ws r m]⟩, ⟨27, 3, [zC]⟩], some (tC (gO ws r m))] 0 [⟨27, 3, [cV bor ws r m]⟩, ⟨27, 3, [zC]⟩] = some (.ret, [.tup [zC, tC (gO ws r m)]], []) := by
  show hJ [some zC, some (tC (gO ws r m))] 0 _ = _
  refine aEw ?_
  exact mA (by simp [cE, cJ, aIT]) 6
 generalize gO ws r m = v at *
 generalize cV bor ws r m = C at *
 refine gS ?_
 have fx := aMC b0 <| aMC b1 <| aMC c1 <| aMC r1 <| aMC q <| aMC bs <| st
 refine gV ?_
 exact oF fin
include hg in
theorem aBL (r m s : Int) (hk : ws.length < k + 7) (hl : ws.length ≤ 1000000) (h : gO ws r m = .ok) (hs : s < 6 ∨ 28 < s) : bX.f G (k + 9) [cV bor ws r m, I6 s] [] = some (.tup [zC, eV 2], []) := by
 rw [bX.step]
 unfold bX.c
 have b0 : fV 27 (cV bor ws r m) [] = some (.ptr 0 1 0 0, [⟨27, 3, [cV bor ws r m]⟩]) := rfl
 have b1 : fV 27 zC [⟨27, 3, [cV bor ws r m]⟩] = some (.ptr 1 1 0 0, [⟨27, 3, [cV bor ws r m]⟩, ⟨27, 3, [zC]⟩]) := rfl
 have c1 : aD G true 3 (.ptr 0 1 0 0) [⟨27, 3, [cV bor ws r m]⟩, ⟨27, 3, [zC]⟩] = some (cV bor ws r m) := rfl
 have r1 : ∀ H, aU (cI.f G (k + 8)) [cV bor ws r m] H = _ := fun H => cD (H := H) (mJ G hg k ws r m hk hl) (by simp [gC, lH]) (mI _)
 rw [h] at r1
 have q : aW Tryd.prog .neq 33 true (tC .ok) .nili = some (.bool false) := by kernel_rfl
 have bs : cX [(0, 1), (1, 1), (2, 1)] [.nils, (.int .i64 0), (.int .i64 0)] [] = some zC := rfl
 have st : fP (aT 3 (.ptr 1 1 0 0) zC [⟨27, 3, [cV bor ws r m]⟩, ⟨27, 3, [zC]⟩]) = some (.tup [], [⟨27, 3, [cV bor ws r m]⟩, ⟨27, 3, [zC]⟩]) := rfl
 have e0 : ∀ H, aD G false 1 (.gl 0) H = some (eV 2) := fun H => hg.g2
 have fin : hJ [aD G true 3 (.ptr 1 1 0 0) [⟨27, 3, [cV bor ws r m]⟩, ⟨27, 3, [zC]⟩], some (eV 2)] 0 [⟨27, 3, [cV bor ws r m]⟩, ⟨27, 3, [zC]⟩] = some (.ret, [.tup [zC, eV 2]], []) := by
  show hJ [some zC, some (eV 2)] 0 _ = _
  refine aEw ?_
  exact mA (by rfl) 6
 clear h
 generalize cV bor ws r m = C at *
 generalize eV 2 = E2 at *
 generalize tC .ok = E1 at *
 by_cases h6 : s < 6
 ·have g1 : aW Tryd.prog .lss 3 true (I6 s) (.int .i64 6) = some (.bool true) := gN (by omega)
  refine gS ?_
  have fx := aMC b0 <| aMC b1 <| aMC c1 <| aMC r1 <| aMC q <| aMC bs <| aMC st <| aMC g1 <| e0
  refine gV ?_
  exact oF fin
 ·have g1 : aW Tryd.prog .lss 3 true (I6 s) (.int .i64 6) = some (.bool false) := gF (by omega)
  have g2 : aW Tryd.prog .gtr 3 true (I6 s) (.int .i64 28) = some (.bool true) := mC (by omega)
  refine gS ?_
  have fx := aMC b0 <| aMC b1 <| aMC c1 <| aMC r1 <| aMC q <| aMC bs <| aMC st <| aMC g1 <| aMC g2 <| e0
  refine gV ?_
  exact oF fin
theorem aBN (H : aB) (hH : qL H H = true) (hl : ws.length ≤ 1000000) : bC (aO.f G (k + 1)) [.ro bor (cL ws)] H = some (.sl (H.length + 1) ws.length 0 ws.length 6, H ++ [⟨29, 6, []⟩, ⟨29, 6, cL ws⟩]) := by
 refine pG ?_ (by simp)
 rw [aO.step]
 unfold aO.c
 have e1 : hO 29 6 0 (.agg [(.int .i64 0), (.int .i64 0), (.int .i64 0), (.int .i64 0), (.int .i64 0), (.int .i64 0)]) [] (H ++ [⟨29, 6, []⟩]) = some (.sl (H.length + 1) 0 0 0 6, H ++ [⟨29, 6, []⟩, ⟨29, 6, []⟩]) := by
  simp [hO, jJ]
 have e2 : fY 29 6 (.sl (H.length + 1) 0 0 0 6) (.ro bor (cL ws)) (H ++ [⟨29, 6, []⟩, ⟨29, 6, []⟩]) = some (.sl (H.length + 1) ws.length 0 ws.length 6, H ++ [⟨29, 6, []⟩, ⟨29, 6, cL ws⟩]) := by
  have g : (H ++ [⟨29, 6, []⟩, ⟨29, 6, []⟩] : aB)[H.length + 1]? = some ⟨29, 6, []⟩ := by
   rw [List.getElem?_append_right (by omega)]; simp
  unfold fY
  simp only [g, iF, aAp, fR, List.length_nil, List.take_nil, List.nil_append, List.drop_nil, List.append_nil, Nat.zero_add]
  rw [if_pos (by refine ⟨?_, ?_, ?_, ?_, ?_⟩ <;> first | trivial | omega)]
  simp [List.set_append_right]
 refine gS ?_
 cases ws with
 | nil =>
  have q : aW Tryd.prog .eql 25 true (.ro bor (cL [])) .nils = some .anyb := by kernel_rfl
  have fx := q
  refine gV ?_
  have hh : qL (H ++ [⟨29, 6, []⟩, ⟨29, 6, []⟩]) (H ++ [⟨29, 6, []⟩, ⟨29, 6, []⟩]) = true := aCi hH (by simp [qL, oA])
  have e3 : (H ++ [⟨29, 6, []⟩] ++ [⟨29, 6, []⟩] : aB) = H ++ [⟨29, 6, []⟩, ⟨29, 6, []⟩] := by simp
  have e4 : (H ++ [⟨29, 6, []⟩] : aB).length = H.length + 1 := by simp
  have e5 : fY 29 6 (.sl (H.length + 1) 0 0 0 6) (.ro bor (cL [])) (H ++ [⟨29, 6, []⟩, ⟨29, 6, []⟩]) = some (.sl (H.length + 1) 0 0 0 6, H ++ [⟨29, 6, []⟩, ⟨29, 6, []⟩]) := e2
  rw [e3, e4]
  refine aLM (e := .ret) (xs := [.sl (H.length + 1) 0 0 0 6]) rfl ?_ (by simp [oA, lO]) hh rfl
  refine gE ?_
  have fx := aMC e1 <| e5
  refine gV ?_
  rfl
 | cons a l =>
  have q : aW Tryd.prog .eql 25 true (.ro bor (cL (a :: l))) .nils = some (.bool false) := by kernel_rfl
  have fx := aMC q <| aMC e1 <| e2
  refine gV ?_
  rfl
theorem eqW (l : List WI) : oA (cL l) (cL l) = true := aCg _ (fun _ => by simp [WI.v, lO, oA]) l
include hg in
theorem aFg (hk : ws.length < k + 7) (hl : ws.length ≤ 1000000) (h : gO ws R M = .ok) (hs : 6 ≤ S ∧ S ≤ 28) (hR : R ≤ S) : bX.f G (k + 9) [cV bor ws R M, Nn S] [] = some (.tup [cV false ws R M, .nili], []) := by
 rw [bX.step]
 unfold bX.c
 have b0 : fV 27 (cV bor ws R M) [] = some (.ptr 0 1 0 0, [⟨27, 3, [cV bor ws R M]⟩]) := rfl
 have b1 : fV 27 zC [⟨27, 3, [cV bor ws R M]⟩] = some (.ptr 1 1 0 0, [⟨27, 3, [cV bor ws R M]⟩, ⟨27, 3, [zC]⟩]) := rfl
 have c1 : aD G true 3 (.ptr 0 1 0 0) [⟨27, 3, [cV bor ws R M]⟩, ⟨27, 3, [zC]⟩] = some (cV bor ws R M) := rfl
 have r1 : ∀ H, aU (cI.f G (k + 8)) [cV bor ws R M] H = _ := fun H => cD (H := H) (mJ G hg k ws R M hk hl) (by simp [gC, lH]) (mI _)
 rw [h] at r1
 have q : aW Tryd.prog .neq 33 true (tC .ok) .nili = some (.bool false) := by kernel_rfl
 have g1 : aW Tryd.prog .lss 3 true (Nn S) (.int .i64 6) = some (.bool false) := gF (by omega)
 have g2 : aW Tryd.prog .gtr 3 true (Nn S) (.int .i64 28) = some (.bool false) := jC (by omega)
 have f1 : aA 1 (.ptr 0 1 0 0) = some (.ptr 0 1 0 1) := rfl
 have f0 : aA 0 (.ptr 0 1 0 0) = some (.ptr 0 1 0 0) := rfl
 have l1 : aD G false 1 (.ptr 0 1 0 1) [⟨27, 3, [cV bor ws R M]⟩, ⟨27, 3, [zC]⟩] = some (Nn R) := rfl
 have g3 : aW Tryd.prog .leq 3 false (Nn R) (Nn S) = some (.bool true) := aBc hR
 have l0 : aD G false 1 (.ptr 0 1 0 0) [⟨27, 3, [cV bor ws R M]⟩, ⟨27, 3, [zC]⟩] = some (.ro bor (cL ws)) := rfl
 have cl : bC (aO.f G (k + 8)) [.ro bor (cL ws)] [⟨27, 3, [cV bor ws R M]⟩, ⟨27, 3, [zC]⟩] = some (.sl 3 ws.length 0 ws.length 6, [⟨27, 3, [cV bor ws R M]⟩, ⟨27, 3, [zC]⟩] ++ [⟨29, 6, []⟩, ⟨29, 6, cL ws⟩]) := aBN G (k + 7) bor ws [⟨27, 3, [cV bor ws R M]⟩, ⟨27, 3, [zC]⟩] (by simp [qL, oA, lO, cV, eqW]) hl
 have s1 : fP (aT 1 (.ptr 0 1 0 0) (.sl 3 ws.length 0 ws.length 6) ([⟨27, 3, [cV bor ws R M]⟩, ⟨27, 3, [zC]⟩] ++ [⟨29, 6, []⟩, ⟨29, 6, cL ws⟩])) = some (.tup [], [⟨27, 3, [.agg [.sl 3 ws.length 0 ws.length 6, Nn R, Nn M]]⟩, ⟨27, 3, [zC]⟩, ⟨29, 6, []⟩, ⟨29, 6, cL ws⟩]) := rfl
 have c2 : aD G true 3 (.ptr 0 1 0 0) [⟨27, 3, [.agg [.sl 3 ws.length 0 ws.length 6, Nn R, Nn M]]⟩, ⟨27, 3, [zC]⟩, ⟨29, 6, []⟩, ⟨29, 6, cL ws⟩] = some (.agg [.sl 3 ws.length 0 ws.length 6, Nn R, Nn M]) := rfl
 have s2 : fP (aT 3 (.ptr 1 1 0 0) (.agg [.sl 3 ws.length 0 ws.length 6, Nn R, Nn M]) [⟨27, 3, [.agg [.sl 3 ws.length 0 ws.length 6, Nn R, Nn M]]⟩, ⟨27, 3, [zC]⟩, ⟨29, 6, []⟩, ⟨29, 6, cL ws⟩]) = some (.tup [], [⟨27, 3, [.agg [.sl 3 ws.length 0 ws.length 6, Nn R, Nn M]]⟩, ⟨27, 3, [.agg [.sl 3 ws.length 0 ws.length 6, Nn R, Nn M]]⟩, ⟨29, 6, []⟩, ⟨29, 6, cL ws⟩]) := rfl
 have fin : hJ [aD G true 3 (.ptr 1 1 0 0) [⟨27, 3, [.agg [.sl 3 ws.length 0 ws.length 6, Nn R, Nn M]]⟩, ⟨27, 3, [.agg [.sl 3 ws.length 0 ws.length 6, Nn R, Nn M]]⟩, ⟨29, 6, []⟩, ⟨29, 6, cL ws⟩], some .nili] 0 [⟨27, 3, [.agg [.sl 3 ws.length 0 ws.length 6, Nn R, Nn M]]⟩, ⟨27, 3, [.agg [.sl 3 ws.length 0 ws.length 6, Nn R, Nn M]]⟩, ⟨29, 6, []⟩, ⟨29, 6, cL ws⟩] = some (.ret, [.tup [cV false ws R M, .nili]], []) := by
  show hJ [some (.agg [.sl 3 ws.length 0 ws.length 6, Nn R, Nn M]), some .nili] 0 _ = _
  refine aEw ?_
  refine aEx rfl (gY (aAQ rfl (gY (tI (ty := 29) (xs := cL ws) rfl (by omega) (fR ws) (aAp ws) (gD 0 ws)) (gY rfl (gY rfl pN)))) (gY rfl pN))
 clear h hk hl
 generalize tC .ok = E1 at *
 generalize hh1 : ([⟨27, 3, [.agg [.sl 3 ws.length 0 ws.length 6, Nn R, Nn M]]⟩, ⟨27, 3, [.agg [.sl 3 ws.length 0 ws.length 6, Nn R, Nn M]]⟩, ⟨29, 6, []⟩, ⟨29, 6, cL ws⟩] : aB) = hA at *
 generalize hh2 : ([⟨27, 3, [.agg [.sl 3 ws.length 0 ws.length 6, Nn R, Nn M]]⟩, ⟨27, 3, [zC]⟩, ⟨29, 6, []⟩, ⟨29, 6, cL ws⟩] : aB) = hB at *
 clear hh1 hh2
 refine gS ?_
 have fx := aMC b0 <| aMC b1 <| aMC c1 <| aMC r1 <| aMC q <| aMC g1 <| aMC g2 <| aMC f1 <| aMC f0 <| aMC l1 <| aMC g3 <| aMC l0 <| aMC cl <| aMC s1 <| aMC c2 <| s2
 refine gV ?_
 exact oF fin
include hg in
theorem aDm (hl : ws.length ≤ 10000) (h : gO ws R M = .ok) (hs : 6 ≤ S ∧ S ≤ 28) (hR : S < R) (hR2 : R ≤ 1000) (hN : M + (R + 4 - S) ≤ 65536) (hk : 10 ≤ k) (hk1 : 8 * ws.length < k) (hk2 : 2 * R < k) :
  ∃ o : List Nat, o.Perm (List.range R) ∧ bX.f G (k + 40) [cV bor ws R M, Nn S] [] = some (.tup [cV false ((kR R S M o).out ws) (S : Int) ((M + (R + 4 - S) : Nat) : Int), .nili], []) := by
 have hgood := uU h
 rw [Int.toNat_natCast] at hgood
 obtain ⟨us, o, kp, hu, pm⟩ := aFw bor ws R M S G (k + 9) hgood (by omega) hR2 (by omega) hs.1 (by omega) (by omega) (by omega) (by omega)
 refine ⟨o, pm, ?_⟩
 obtain ⟨A, hA⟩ : ∃ A : AX, A = ⟨bor, ws, R, kR R S M o, us, o⟩ := ⟨_, rfl⟩
 have hW : A.W := by
  rw [hA]
  exact ⟨by show (kA S o 0 (List.replicate R 0)).length = R; rw [aAb]; simp, by show (kB S M o 0 (List.replicate R 0)).length = R; rw [aAe]; simp⟩
 have aws : A.ws = ws := by rw [hA]
 have aR : A.R = R := by rw [hA]
 have aL : A.L = kR R S M o := by rw [hA]
 have abor : A.bor = bor := by rw [hA]
 have lp := aCB A G (k + 29) (bX.f G (k + 39)) hW (by rw [aws, aR]; exact hgood) (by rw [aws]; exact hl) S (R + 4 - S) ws.length 0 (k + 39) ⟨[], []⟩ [] (by rw [aws]; omega) (by omega) (by show 0 + 8 * ws.length ≤ _; omega) (by show 0 + ws.length ≤ _; omega)
 rw [List.drop_zero, aws, aL] at lp
 have hfl := qB (kR R S M o) ws
 have hrun := aBm (kR R S M o) ws ⟨[], []⟩
 simp only [List.nil_append, List.length_nil] at hrun
 have hmark := aII (kR R S M o) ws
 rw [hrun] at lp hmark
 have hpos : ((kR R S M o).pos 0 ws).length = ws.length := aBg _ _ _
 have hplc := zU (kR R S M o) ws
 have hpl : ((⟨(kR R S M o).flat ws, (kR R S M o).pos 0 ws⟩ : LS)).mark.place = (kR R S M o).place ws := by rw [hmark]
 have ps := aCP A G (k + 37) ⟨(kR R S M o).flat ws, (kR R S M o).pos 0 ws⟩ (by show (LY.flat _ ws).length ≤ _; omega) (by show (LY.pos _ 0 ws).length ≤ _; omega) (by show (LY.flat _ ws).length < _; omega) (fun i hi hb => by
  rw [hpl, hplc]
  obtain ⟨w, hw1, hw2⟩ := wN ws hi
  have := aJR (hgood w hw1) hw2 ((aAG _).1 hb)
  omega)
 rw [hpl] at ps
 obtain ⟨ot, hot⟩ : ∃ ot, (kR R S M o).out ws = ot := ⟨_, rfl⟩
 have hout : ((⟨(kR R S M o).flat ws, (kR R S M o).pos 0 ws⟩ : LS)).out.map (jU ((kR R S M o).place ws) ((⟨(kR R S M o).flat ws, (kR R S M o).pos 0 ws⟩ : LS)).out.length) = ot := hot
 rw [hout] at ps
 have hol : ot.length ≤ 80000 := by rw [← hot, oL]; omega
 rw [hot]
 obtain ⟨s1, hs1⟩ : ∃ s1 : LS, s1 = ⟨(kR R S M o).flat ws, (kR R S M o).pos 0 ws⟩ := ⟨_, rfl⟩
 rw [← hs1] at lp ps
 obtain ⟨s2, hs2⟩ : ∃ s2 : LS, s2 = ⟨ot, (kR R S M o).place ws⟩ := ⟨_, rfl⟩
 rw [← hs2] at ps
 have h2o : s2.out = ot := by rw [hs2]
 rw [bX.step]
 unfold bX.c
 have b0 : fV 27 (cV bor ws R M) [] = some (.ptr 0 1 0 0, [⟨27, 3, [cV bor ws R M]⟩]) := rfl
 have b1 : fV 27 zC [⟨27, 3, [cV bor ws R M]⟩] = some (.ptr 1 1 0 0, [⟨27, 3, [cV bor ws R M]⟩, ⟨27, 3, [zC]⟩]) := rfl
 have c1 : aD G true 3 (.ptr 0 1 0 0) [⟨27, 3, [cV bor ws R M]⟩, ⟨27, 3, [zC]⟩] = some (cV bor ws R M) := rfl
 have r1 : ∀ H, aU (cI.f G (k + 39)) [cV bor ws R M] H = _ := fun H => cD (H := H) (mJ G hg (k + 31) ws R M (by omega) (by omega)) (by simp [gC, lH]) (mI _)
 rw [h] at r1
 have q : aW Tryd.prog .neq 33 true (tC .ok) .nili = some (.bool false) := by kernel_rfl
 have g1 : aW Tryd.prog .lss 3 true (Nn S) (.int .i64 6) = some (.bool false) := gF (by omega)
 have g2 : aW Tryd.prog .gtr 3 true (Nn S) (.int .i64 28) = some (.bool false) := jC (by omega)
 have f0 : aA 0 (.ptr 0 1 0 0) = some (.ptr 0 1 0 0) := rfl
 have f1 : aA 1 (.ptr 0 1 0 0) = some (.ptr 0 1 0 1) := rfl
 have f2 : aA 2 (.ptr 0 1 0 0) = some (.ptr 0 1 0 2) := rfl
 have l1 : aD G false 1 (.ptr 0 1 0 1) [⟨27, 3, [cV bor ws R M]⟩, ⟨27, 3, [zC]⟩] = some (Nn R) := rfl
 have g3 : aW Tryd.prog .leq 3 false (Nn R) (Nn S) = some (.bool false) := aBb hR
 have bs : cX [(0, 3), (3, 1), (4, 1), (5, 1), (6, 1)] [.nils, (.int .i64 0), (.int .i64 0), .nils, .nils, .nils, .nils] [(0, cV bor ws R M)] = some (.agg [.ro bor (cL ws), Nn R, Nn M, .nils, .nils, .nils, .nils]) := rfl
 have b2 : fV 86 (.agg [.ro bor (cL ws), Nn R, Nn M, .nils, .nils, .nils, .nils]) [⟨27, 3, [cV bor ws R M]⟩, ⟨27, 3, [zC]⟩] = some (BX, hpK bor ws R M) := rfl
 obtain ⟨slE, hslE⟩ : ∃ l, kA S o 0 (List.replicate R 0) = l := ⟨_, rfl⟩
 obtain ⟨wdE, hwdE⟩ : ∃ l, kB S M o 0 (List.replicate R 0) = l := ⟨_, rfl⟩
 rw [hslE, hwdE] at kp
 have lM : aD G false 1 (.ptr 0 1 0 2) (tL bor ws R M us o slE wdE) = some (Nn M) := rfl
 have a1 : aW Tryd.prog .add 3 false (Nn M) (Nn (R + 4 - S)) = some (Nn (M + (R + 4 - S) : Nat)) := nC (by omega)
 have g4 : aW Tryd.prog .gtr 3 true (Nn (M + (R + 4 - S))) (.int .i64 65536) = some (.bool false) := jC (by omega)
 have l0 : aD G false 1 (.ptr 0 1 0 0) (tL bor ws R M us o slE wdE) = some (.ro bor (cL ws)) := rfl
 have lw : dN (.ro bor (cL ws)) = some (Nn ws.length) := by simp [dN, fR]
 obtain ⟨hv, hhv⟩ : ∃ hv : aB, hv = [k0 bor ws R M, k1, ⟨86, 7, [.agg [.ro bor (cL ws), Nn R, Nn M, .sl 6 R 0 R 1, .sl 7 R 0 R 1, .sl 8 0 0 0 6, .nils]]⟩, ⟨3, 1, jM us⟩, k4 R, ⟨3, 1, eP o⟩, ⟨3, 1, eP slE⟩, ⟨3, 1, eP wdE⟩, ⟨29, 6, []⟩] := ⟨_, rfl⟩
 have v1 : sZ (BX, 5, 29, 6) (tL bor ws R M us o slE wdE) = hv := by rw [hhv]; rfl
 have v2 : sZ (BX, 6, 3, 1) hv = A.hp ⟨[], []⟩ [] := by rw [hhv, hA, ← hslE, ← hwdE]; rfl
 have lo := al5 A s2 [] G
 have ln : dN (.sl 8 s2.out.length 0 s2.out.length 6) = some (Nn s2.out.length) := rfl
 have g5 : aW Tryd.prog .gtr 3 true (Nn s2.out.length) (.int .i64 262144) = some (.bool false) := jC (by rw [h2o]; omega)
 have lM2 : aD G false 1 (.ptr 0 1 0 2) (A.hp s2 []) = some (Nn M) := by rw [hA]; rfl
 have bs2 : cX [(0, 1), (1, 1), (2, 1)] [.nils, (.int .i64 0), (.int .i64 0)] [(0, .sl 8 s2.out.length 0 s2.out.length 6), (1, Nn S), (2, Nn (M + (R + 4 - S)))] = some (.agg [.sl 8 s2.out.length 0 s2.out.length 6, Nn S, Nn (M + (R + 4 - S))]) := rfl
 have s3 : fP (aT 3 (.ptr 1 1 0 0) (.agg [.sl 8 s2.out.length 0 s2.out.length 6, Nn S, Nn (M + (R + 4 - S))]) (A.hp s2 [])) = some (.tup [], (A.hp s2 []).set 1 ⟨27, 3, [.agg [.sl 8 s2.out.length 0 s2.out.length 6, Nn S, Nn (M + (R + 4 - S))]]⟩) := rfl
 have fin : hJ [aD G true 3 (.ptr 1 1 0 0) ((A.hp s2 []).set 1 ⟨27, 3, [.agg [.sl 8 s2.out.length 0 s2.out.length 6, Nn S, Nn (M + (R + 4 - S))]]⟩), some .nili] 0 ((A.hp s2 []).set 1 ⟨27, 3, [.agg [.sl 8 s2.out.length 0 s2.out.length 6, Nn S, Nn (M + (R + 4 - S))]]⟩) = some (.ret, [.tup [cV false ot (S : Int) ((M + (R + 4 - S) : Nat) : Int), .nili]], []) := by
  show hJ [some (.agg [.sl 8 s2.out.length 0 s2.out.length 6, Nn S, Nn (M + (R + 4 - S))]), some .nili] 0 _ = _
  rw [h2o]
  refine aEw ?_
  have e8 : ((A.hp s2 []).set 1 ⟨27, 3, [.agg [.sl 8 ot.length 0 ot.length 6, Nn S, Nn (M + (R + 4 - S))]]⟩)[8]? = some ⟨29, 6, cL ot⟩ := by
   rw [← h2o]; rfl
  refine aEx rfl (gY (aAQ rfl (gY (tI (ty := 29) (xs := cL ot) e8 (by omega) (fR ot) (aAp ot) (gD 0 ot)) (gY rfl (gY rfl pN)))) (gY rfl pN))
 unfold aBI at lp
 rw [aws, abor] at lp
 replace lp : dP (bX.l14 G (k + 39) (A.hp ⟨[], []⟩ []).length (bX.f G (k + 39))) (k + 39) [Nn S, .ptr 0 1 0 0, .ptr 1 1 0 0, BX, Nn (R + 4 - S), .ro bor (cL ws), Nn ws.length, .int .i64 0] (A.hp ⟨[], []⟩ []) = some (.exit 0, [Nn S, .ptr 0 1 0 0, .ptr 1 1 0 0, BX, Nn (R + 4 - S), .ro bor (cL ws), Nn ws.length, Nn ws.length], A.hp s1 []) := lp
 clear hgood hhv hslE hwdE hA hW hrun hmark hpos hplc hpl hout hot hol hs1 hs2 h2o h aL aws aR abor
 generalize tC .ok = E1 at *
 generalize M + (R + 4 - S) = N at *
 generalize R + 4 - S = more at *
 generalize (A.hp s2 []).set 1 ⟨27, 3, [.agg [.sl 8 s2.out.length 0 s2.out.length 6, Nn S, Nn N]]⟩ = hR at *
 refine gS ?_
 have fx := aMC iS <| aMC af5 <| aMC b0 <| aMC b1 <| aMC c1 <| aMC r1 <| aMC q <| aMC g1 <| aMC g2 <| aMC g3 <| aMC f0 <| aMC f1 <| aMC f2 <| aMC l1 <| aMC bs <| aMC b2 <| aMC kp <| aMC lM <| aMC a1 <| aMC g4 <| aMC l0 <| lw
 refine gV ?_
 refine eV1 v1 ?_
 refine eV1 v2 ?_
 refine eV0 ?_
 have fx := aMC iS <| aMC af5 <| aMC f2 <| aMC ps <| aMC lo <| aMC ln <| aMC g5 <| aMC lM2 <| aMC a1 <| aMC bs2 <| s3
 have lx1 := lp
 refine gV ?_
 exact oF fin
end
end Go.Proofs.YtlkgkfgkiidhdaaDoor.Mir
