/- Part 8 of the proof: what these functions do. -/
import Derived.Test.YtlkgkfgkiidhdaaDoorVi7
import Derived.KernelRfl
namespace Go.Proofs.YtlkgkfgkiidhdaaDoor.Mir
open Go
set_option linter.unusedSimpArgs false
set_option linter.unusedVariables false
set_option maxHeartbeats 8000000
set_option maxRecDepth 20000
section
variable (G : aF) (k : Nat) (self : cE) {H : aB} {p q r n : Nat} {us : List Int} (hS : SH H p q r n us)
include hS in
theorem aAb (m : Nat) (i j : Nat) : cI H.length [dS p n, Nn m, cS q, Nn i, Nn j] = true := aAd hS m i j
include hS in
theorem aEc (hn : n ≤ 1000) (a : Nat) (ha : a < n) (l : List Nat) (hl : l.length = n) (hx : ∀ x ∈ l, x < n) : ∀ (f : Nat) (i j : Nat), i ≤ j → j ≤ n → j - i < f →
  ∃ (i' j' : Nat), dK (aD.l3 G (k + 1) H.length self) f [dS p n, Nn a, cS q, Nn i, Nn j] (SO H p l) = some (.exit 0, [dS p n, Nn a, cS q, Nn i', Nn j'], SO H p l) ∧ i ≤ i' ∧ i' ≤ j
 | 0, i, j, _, _, h => by omega
 | f + 1, i, j, hij, hj, hf => by
  have hc : fN H.length [dS p n, Nn a, cS q, Nn i, Nn j] (SO H p l) = some (SO H p l) := gL hS.hb l _ (aAb hS a i j)
  by_cases h : i < j
  ·have g1 : aX Tryd.prog .lss 3 false (Nn i) (Nn j) = some (.bool true) := gN (by omega)
   have e1 : aX Tryd.prog .add 3 false (Nn i) (Nn j) = some (Nn (i + j : Nat)) := nM (by omega)
   obtain ⟨c1, c2, c3⟩ := qC i j (by omega)
   obtain ⟨m, hm⟩ : ∃ m, m = (i + j) / 2 := ⟨_, rfl⟩
   rw [← hm] at c2 c3
   have d1 : aM 1 (.sl p n 0 n 1) (Nn m) = some (.ptr p n m 0) := jI (by omega)
   have d2 : aM 1 (.sl p n 0 n 1) (Nn a) = some (.ptr p n a 0) := jI ha
   have l1 := kB G hS hl (i := m) (by omega)
   have l2 := kB G hS hl (i := a) ha
   obtain ⟨c, hcm⟩ := rO G k hS l (kX hx (i := m) (by omega)) (kX hx (i := a) (by omega))
   have cv : lE (fL (aD.env G (k + 1) self)) (cS q) [Nn (l.getD m 0), Nn (l.getD a 0)] (SO H p l) = some (I6 c, SO H p l) := hcm
   have g2 : aX Tryd.prog .lss 3 true (I6 c) (.int .i64 0) = some (.bool (decide (c < 0))) := hJ _ _ _ _ _ _
   have e2 : aX Tryd.prog .add 3 true (Nn m) (.int .i64 1) = some (Nn (m + 1 : Nat)) := mG (by omega)
   by_cases hcn : c < 0
   ·rw [decide_eq_true hcn] at g2
    obtain ⟨i', j', w, h1, h2⟩ := aEc hn a ha l hl hx f (m + 1) j (by omega) hj (by omega)
    refine ⟨i', j', ?_, by omega, by omega⟩
    rw [bB, aD.l3]
    refine fV ?_
    refine eC hc ?_
    generalize l.getD m 0 = y1 at *
    generalize l.getD a 0 = y2 at *
    have fx := aMv g1 <| aMv e1 <| aMv c1 <| aMv c2 <| aMv c3 <| aMv d1 <| aMv d2 <| aMv l1 <| aMv l2 <| aMv cv <| aMv g2 <| e2
    refine gT ?_
    exact w
   ·rw [decide_eq_false hcn] at g2
    obtain ⟨i', j', w, h1, h2⟩ := aEc hn a ha l hl hx f i m (by omega) (by omega) (by omega)
    refine ⟨i', j', ?_, by omega, by omega⟩
    rw [bB, aD.l3]
    refine fV ?_
    refine eC hc ?_
    generalize l.getD m 0 = y1 at *
    generalize l.getD a 0 = y2 at *
    have fx := aMv g1 <| aMv e1 <| aMv c1 <| aMv c2 <| aMv c3 <| aMv d1 <| aMv d2 <| aMv l1 <| aMv l2 <| aMv cv <| aMv g2 <| e2
    refine gT ?_
    exact w
  ·have g1 : aX Tryd.prog .lss 3 false (Nn i) (Nn j) = some (.bool false) := gI (by omega)
   refine ⟨i, j, ?_, by omega, by omega⟩
   rw [bB, aD.l3]
   refine fV ?_
   refine eC hc ?_
   have fx := g1
   refine gT ?_
   refine gA ?_; rfl
include hS in
theorem aBx (hn : n ≤ 1000) (a : Nat) (ha : a < n) (l : List Nat) (hl : l.length = n) (hx : ∀ x ∈ l, x < n) : ∀ (f : Nat) (i j : Nat), i ≤ j → j ≤ n → j - i < f →
  ∃ (i' j' : Nat), dK (aD.l15 G (k + 1) H.length self) f [dS p n, Nn a, cS q, Nn i, Nn j] (SO H p l) = some (.exit 4, [dS p n, Nn a, cS q, Nn i', Nn j'], SO H p l) ∧ i ≤ i' ∧ i' ≤ j
 | 0, i, j, _, _, h => by omega
 | f + 1, i, j, hij, hj, hf => by
  have hc : fN H.length [dS p n, Nn a, cS q, Nn i, Nn j] (SO H p l) = some (SO H p l) := gL hS.hb l _ (aAb hS a i j)
  by_cases h : i < j
  ·have g1 : aX Tryd.prog .lss 3 false (Nn i) (Nn j) = some (.bool true) := gN (by omega)
   have e1 : aX Tryd.prog .add 3 false (Nn i) (Nn j) = some (Nn (i + j : Nat)) := nM (by omega)
   obtain ⟨c1, c2, c3⟩ := qC i j (by omega)
   obtain ⟨m, hm⟩ : ∃ m, m = (i + j) / 2 := ⟨_, rfl⟩
   rw [← hm] at c2 c3
   have d1 : aM 1 (.sl p n 0 n 1) (Nn m) = some (.ptr p n m 0) := jI (by omega)
   have d2 : aM 1 (.sl p n 0 n 1) (Nn a) = some (.ptr p n a 0) := jI ha
   have l1 := kB G hS hl (i := m) (by omega)
   have l2 := kB G hS hl (i := a) ha
   obtain ⟨c, hcm⟩ := rO G k hS l (kX hx (i := a) (by omega)) (kX hx (i := m) (by omega))
   have cv : lE (fL (aD.env G (k + 1) self)) (cS q) [Nn (l.getD a 0), Nn (l.getD m 0)] (SO H p l) = some (I6 c, SO H p l) := hcm
   have g2 : aX Tryd.prog .lss 3 true (I6 c) (.int .i64 0) = some (.bool (decide (c < 0))) := hJ _ _ _ _ _ _
   have e2 : aX Tryd.prog .add 3 true (Nn m) (.int .i64 1) = some (Nn (m + 1 : Nat)) := mG (by omega)
   by_cases hcn : c < 0
   ·rw [decide_eq_true hcn] at g2
    have g3 : un .not (.bool true) = some (.bool false) := rfl
    obtain ⟨i', j', w, h1, h2⟩ := aBx hn a ha l hl hx f i m (by omega) (by omega) (by omega)
    refine ⟨i', j', ?_, by omega, by omega⟩
    rw [bB, aD.l15]
    refine fV ?_
    refine eC hc ?_
    generalize l.getD m 0 = y1 at *
    generalize l.getD a 0 = y2 at *
    have fx := aMv g1 <| aMv e1 <| aMv c1 <| aMv c2 <| aMv c3 <| aMv d1 <| aMv d2 <| aMv l1 <| aMv l2 <| aMv cv <| aMv g2 <| aMv g3 <| e2
    refine gT ?_
    exact w
   ·rw [decide_eq_false hcn] at g2
    have g3 : un .not (.bool false) = some (.bool true) := rfl
    obtain ⟨i', j', w, h1, h2⟩ := aBx hn a ha l hl hx f (m + 1) j (by omega) hj (by omega)
    refine ⟨i', j', ?_, by omega, by omega⟩
    rw [bB, aD.l15]
    refine fV ?_
    refine eC hc ?_
    generalize l.getD m 0 = y1 at *
    generalize l.getD a 0 = y2 at *
    have fx := aMv g1 <| aMv e1 <| aMv c1 <| aMv c2 <| aMv c3 <| aMv d1 <| aMv d2 <| aMv l1 <| aMv l2 <| aMv cv <| aMv g2 <| aMv g3 <| e2
    refine gT ?_
    exact w
  ·have g1 : aX Tryd.prog .lss 3 false (Nn i) (Nn j) = some (.bool false) := gI (by omega)
   refine ⟨i, j, ?_, by omega, by omega⟩
   rw [bB, aD.l15]
   refine fV ?_
   refine eC hc ?_
   have fx := g1
   refine gT ?_
   refine gA ?_; rfl
include hS in
theorem aEh (a a2 a3 a5 a6 i j t : Nat) : cI H.length [dS p n, Nn a, Nn a2, Nn a3, cS q, Nn a5, Nn a6, Nn i, Nn j, Nn t] = true := by
 have h1 : decide (p < H.length) = true := decide_eq_true hS.hp
 have h2 : decide (q < H.length) = true := decide_eq_true (aFI hS)
 simp only [dS, cS, cI, cB, h1, h2, Bool.and_self]
include hS in
theorem aBy (hn : n ≤ 1000) (a a2 a3 a5 a6 t lo : Nat) (ht : t < n + lo) (l : List Nat) (hl : l.length = n) (hx : ∀ x ∈ l, x < n) : ∀ (f : Nat) (i j : Nat), lo ≤ i → i ≤ j → j ≤ t + 1 → j ≤ n → j - i < f →
  ∃ (i' j' : Nat), dK (aD.l33 G (k + 1) H.length self) f [dS p n, Nn a, Nn a2, Nn a3, cS q, Nn a5, Nn a6, Nn i, Nn j, Nn t] (SO H p l) = some (.exit 8, [dS p n, Nn a, Nn a2, Nn a3, cS q, Nn a5, Nn a6, Nn i', Nn j', Nn t], SO H p l) ∧ i ≤ i' ∧ i' ≤ j
 | 0, i, j, _, _, _, _, h => by omega
 | f + 1, i, j, hlo, hij, hjt, hj, hf => by
  have hc : fN H.length [dS p n, Nn a, Nn a2, Nn a3, cS q, Nn a5, Nn a6, Nn i, Nn j, Nn t] (SO H p l) = some (SO H p l) := gL hS.hb l _ (aEh hS a a2 a3 a5 a6 i j t)
  by_cases h : i < j
  ·have g1 : aX Tryd.prog .lss 3 false (Nn i) (Nn j) = some (.bool true) := gN (by omega)
   have e1 : aX Tryd.prog .add 3 false (Nn i) (Nn j) = some (Nn (i + j : Nat)) := nM (by omega)
   obtain ⟨c1, c2, c3⟩ := qC i j (by omega)
   obtain ⟨m, hm⟩ : ∃ m, m = (i + j) / 2 := ⟨_, rfl⟩
   rw [← hm] at c2 c3
   have d1 : aM 1 (.sl p n 0 n 1) (Nn m) = some (.ptr p n m 0) := jI (by omega)
   have e0 : aX Tryd.prog .sub 3 false (Nn t) (Nn m) = some (Nn (t - m : Nat)) := kG (by omega) (by omega)
   have d2 : aM 1 (.sl p n 0 n 1) (Nn (t - m : Nat)) = some (.ptr p n (t - m) 0) := jI (by omega)
   have l1 := kB G hS hl (i := m) (by omega)
   have l2 := kB G hS hl (i := t - m) (by omega)
   obtain ⟨c, hcm⟩ := rO G k hS l (kX hx (i := t - m) (by omega)) (kX hx (i := m) (by omega))
   have cv : lE (fL (aD.env G (k + 1) self)) (cS q) [Nn (l.getD (t - m) 0), Nn (l.getD m 0)] (SO H p l) = some (I6 c, SO H p l) := hcm
   have g2 : aX Tryd.prog .lss 3 true (I6 c) (.int .i64 0) = some (.bool (decide (c < 0))) := hJ _ _ _ _ _ _
   have e2 : aX Tryd.prog .add 3 true (Nn m) (.int .i64 1) = some (Nn (m + 1 : Nat)) := mG (by omega)
   by_cases hcn : c < 0
   ·rw [decide_eq_true hcn] at g2
    have g3 : un .not (.bool true) = some (.bool false) := rfl
    obtain ⟨i', j', w, h1, h2⟩ := aBy hn a a2 a3 a5 a6 t lo ht l hl hx f i m hlo (by omega) (by omega) (by omega) (by omega)
    refine ⟨i', j', ?_, by omega, by omega⟩
    rw [bB, aD.l33]
    refine fV ?_
    refine eC hc ?_
    generalize l.getD m 0 = y1 at *
    generalize l.getD (t - m) 0 = y2 at *
    have fx := aMv g1 <| aMv e0 <| aMv e1 <| aMv c1 <| aMv c2 <| aMv c3 <| aMv d1 <| aMv d2 <| aMv l1 <| aMv l2 <| aMv cv <| aMv g2 <| aMv g3 <| e2
    refine gT ?_
    exact w
   ·rw [decide_eq_false hcn] at g2
    have g3 : un .not (.bool false) = some (.bool true) := rfl
    obtain ⟨i', j', w, h1, h2⟩ := aBy hn a a2 a3 a5 a6 t lo ht l hl hx f (m + 1) j (by omega) (by omega) hjt hj (by omega)
    refine ⟨i', j', ?_, by omega, by omega⟩
    rw [bB, aD.l33]
    refine fV ?_
    refine eC hc ?_
    generalize l.getD m 0 = y1 at *
    generalize l.getD (t - m) 0 = y2 at *
    have fx := aMv g1 <| aMv e0 <| aMv e1 <| aMv c1 <| aMv c2 <| aMv c3 <| aMv d1 <| aMv d2 <| aMv l1 <| aMv l2 <| aMv cv <| aMv g2 <| aMv g3 <| e2
    refine gT ?_
    exact w
  ·have g1 : aX Tryd.prog .lss 3 false (Nn i) (Nn j) = some (.bool false) := gI (by omega)
   refine ⟨i, j, ?_, by omega, by omega⟩
   rw [bB, aD.l33]
   refine fV ?_
   refine eC hc ?_
   have fx := g1
   refine gT ?_
   refine gA ?_; rfl
include hS in
theorem qH (i j : Nat) : cI H.length [dS p n, Nn i, Nn j] = true := by
 have h1 : decide (p < H.length) = true := decide_eq_true hS.hp
 simp only [dS, cI, cB, h1, Bool.and_self]
include hS in
theorem aHK (hn : n ≤ 1000) (e : Nat) (h1e : 1 ≤ e) (he : e ≤ n) : ∀ (d i f : Nat) (l : List Nat), i + d = max i (e - 1) → l.length = n → d < f →
  ∃ (i' : Nat) (l' : List Nat), dK (aD.l9 G k H.length self) f [dS p n, Nn e, Nn i] (SO H p l) = some (.exit 2, [dS p n, Nn e, Nn i'], SO H p l') ∧ l'.Perm l
 | d, i, 0, l, _, _, h => by omega
 | 0, i, f + 1, l, hd, hl, hf => by
  have hc : fN H.length [dS p n, Nn e, Nn i] (SO H p l) = some (SO H p l) := gL hS.hb l _ (qH hS e i)
  have e1 : aX Tryd.prog .sub 3 true (Nn e) (.int .i64 1) = some (Nn (e - 1 : Nat)) := kG (b := 1) (by omega) (by omega)
  have g1 : aX Tryd.prog .lss 3 false (Nn i) (Nn (e - 1 : Nat)) = some (.bool false) := gI (by omega)
  refine ⟨i, l, ?_, List.Perm.refl _⟩
  rw [bB, aD.l9]
  refine fV ?_
  refine eC hc ?_
  have fx := aMv e1 <| g1
  refine gT ?_
  refine gA ?_; rfl
 | d + 1, i, f + 1, l, hd, hl, hf => by
  have hc : fN H.length [dS p n, Nn e, Nn i] (SO H p l) = some (SO H p l) := gL hS.hb l _ (qH hS e i)
  have e1 : aX Tryd.prog .sub 3 true (Nn e) (.int .i64 1) = some (Nn (e - 1 : Nat)) := kG (b := 1) (by omega) (by omega)
  have g1 : aX Tryd.prog .lss 3 false (Nn i) (Nn (e - 1 : Nat)) = some (.bool true) := gN (by omega)
  have e2 : aX Tryd.prog .add 3 true (Nn i) (.int .i64 1) = some (Nn (i + 1 : Nat)) := mG (by omega)
  have d1 : aM 1 (.sl p n 0 n 1) (Nn i) = some (.ptr p n i 0) := jI (by omega)
  have d2 : aM 1 (.sl p n 0 n 1) (Nn (i + 1 : Nat)) = some (.ptr p n (i + 1) 0) := jI (by omega)
  have l1 := kB G hS hl (i := i) (by omega)
  have l2 := kB G hS hl (i := i + 1) (by omega)
  have s1 := mQ hS hl (i := i) (by omega) (l.getD (i + 1) 0)
  have hl2 : (l.set i (l.getD (i + 1) 0)).length = n := by simp [hl]
  have s2 := mQ hS hl2 (i := i + 1) (by omega) (l.getD i 0)
  have hsw : (l.set i (l.getD (i + 1) 0)).set (i + 1) (l.getD i 0) = kM l i (i + 1) := rfl
  rw [hsw] at s2
  have hp := mL l i (i + 1) (by omega) (by omega)
  obtain ⟨i', l', h1, h2⟩ := aHK hn e h1e he d (i + 1) f (kM l i (i + 1)) (by omega) (by rw [nS]; exact hl) (by omega)
  refine ⟨i', l', ?_, h2.trans hp⟩
  rw [bB, aD.l9]
  refine fV ?_
  refine eC hc ?_
  generalize kM l i (i + 1) = ls at *
  generalize l.getD i 0 = y1 at *
  generalize l.getD (i + 1) 0 = y2 at *
  have fx := aMv e1 <| aMv g1 <| aMv e2 <| aMv d1 <| aMv d2 <| aMv l1 <| aMv l2 <| aMv s1 <| s2
  refine gT ?_
  exact h1
include hS in
theorem aEY (hn : n ≤ 1000) (m : Nat) : ∀ (d i f : Nat) (l : List Nat), i + 0 = max i m → i - m = d → i < n → l.length = n → d < f →
  ∃ (i' : Nat) (l' : List Nat), dK (aD.l21 G k H.length self) f [dS p n, Nn m, Nn i] (SO H p l) = some (.exit 6, [dS p n, Nn m, Nn i'], SO H p l') ∧ l'.Perm l
 | d, i, 0, l, _, _, _, _, h => by omega
 | 0, i, f + 1, l, hm, hd, hi, hl, hf => by
  have hc : fN H.length [dS p n, Nn m, Nn i] (SO H p l) = some (SO H p l) := gL hS.hb l _ (qH hS m i)
  have g1 : aX Tryd.prog .gtr 3 false (Nn i) (Nn m) = some (.bool false) := kJ (by omega)
  refine ⟨i, l, ?_, List.Perm.refl _⟩
  rw [bB, aD.l21]
  refine fV ?_
  refine eC hc ?_
  have fx := g1
  refine gT ?_
  refine gA ?_; rfl
 | d + 1, i, f + 1, l, hm, hd, hi, hl, hf => by
  have hc : fN H.length [dS p n, Nn m, Nn i] (SO H p l) = some (SO H p l) := gL hS.hb l _ (qH hS m i)
  have g1 : aX Tryd.prog .gtr 3 false (Nn i) (Nn m) = some (.bool true) := oG (by omega)
  have e2 : aX Tryd.prog .sub 3 true (Nn i) (.int .i64 1) = some (Nn (i - 1 : Nat)) := kG (b := 1) (by omega) (by omega)
  have d1 : aM 1 (.sl p n 0 n 1) (Nn i) = some (.ptr p n i 0) := jI (by omega)
  have d2 : aM 1 (.sl p n 0 n 1) (Nn (i - 1 : Nat)) = some (.ptr p n (i - 1) 0) := jI (by omega)
  have l1 := kB G hS hl (i := i) (by omega)
  have l2 := kB G hS hl (i := i - 1) (by omega)
  have s1 := mQ hS hl (i := i) (by omega) (l.getD (i - 1) 0)
  have hl2 : (l.set i (l.getD (i - 1) 0)).length = n := by simp [hl]
  have s2 := mQ hS hl2 (i := i - 1) (by omega) (l.getD i 0)
  have hsw : (l.set i (l.getD (i - 1) 0)).set (i - 1) (l.getD i 0) = kM l i (i - 1) := rfl
  rw [hsw] at s2
  have hp := mL l i (i - 1) (by omega) (by omega)
  obtain ⟨i', l', h1, h2⟩ := aEY hn m d (i - 1) f (kM l i (i - 1)) (by omega) (by omega) (by omega) (by rw [nS]; exact hl) (by omega)
  refine ⟨i', l', ?_, h2.trans hp⟩
  rw [bB, aD.l21]
  refine fV ?_
  refine eC hc ?_
  generalize kM l i (i - 1) = ls at *
  generalize l.getD i 0 = y1 at *
  generalize l.getD (i - 1) 0 = y2 at *
  have fx := aMv g1 <| aMv e2 <| aMv d1 <| aMv d2 <| aMv l1 <| aMv l2 <| aMv s1 <| s2
  refine gT ?_
  exact h1
end
section
variable (G : aF) {H : aB} {p q r n : Nat} {us : List Int} (hS : SH H p q r n us)
theorem aAZ {c : Bool} {a b : Nat} (h : a = b) : aX Tryd.prog .eql 3 c (Nn a) (Nn b) = some (.bool true) := mX (by omega)
theorem aAY {c : Bool} {a b : Nat} (h : a ≠ b) : aX Tryd.prog .eql 3 c (Nn a) (Nn b) = some (.bool false) := gV (by omega)
theorem tV (s m e : Nat) :
  (s < m ∧ m < e ∧ aX Tryd.prog .lss 3 false (Nn s) (Nn m) = some (.bool true) ∧ aX Tryd.prog .lss 3 false (Nn m) (Nn e) = some (.bool true))
  ∨ (¬ (s < m ∧ m < e) ∧ aX Tryd.prog .lss 3 false (Nn s) (Nn m) = some (.bool true) ∧ aX Tryd.prog .lss 3 false (Nn m) (Nn e) = some (.bool false))
  ∨ (¬ (s < m ∧ m < e) ∧ aX Tryd.prog .lss 3 false (Nn s) (Nn m) = some (.bool false)) := by
 by_cases h1 : s < m
 ·by_cases h2 : m < e
  ·exact .inl ⟨h1, h2, gN (by omega), gN (by omega)⟩
  ·exact .inr (.inl ⟨by omega, gN (by omega), gI (by omega)⟩)
 ·exact .inr (.inr ⟨by omega, gI (by omega)⟩)
include hS in
theorem sR (hn : n ≤ 1000) : ∀ (d k a m b : Nat) (l : List Nat), b - a ≤ d → n + d < k → a < m → m < b → b ≤ n → l.length = n → (∀ x ∈ l, x < n) →
  ∃ l' : List Nat, bD (aD.f G (k + 3)) [dS p n, Nn a, Nn m, Nn b, cS q] (SO H p l) = some (.tup [], SO H p l') ∧ l'.Perm l
 | 0, k, a, m, b, l, hd, hk, ha, hm, hb, hl, hx => by omega
 | d + 1, 0, a, m, b, l, hd, hk, ha, hm, hb, hl, hx => by omega
 | d + 1, k + 1, a, m, b, l, hd, hk, ha, hm, hb, hl, hx => by
  have hlen := iH H p l
  have e1 : aX Tryd.prog .sub 3 false (Nn m) (Nn a) = some (Nn (m - a : Nat)) := kG (by omega) (by omega)
  have e2 : aX Tryd.prog .sub 3 false (Nn b) (Nn m) = some (Nn (b - m : Nat)) := kG (by omega) (by omega)
  by_cases h1 : m - a = 1
  ·have g1 : aX Tryd.prog .eql 3 true (Nn (m - a : Nat)) (.int .i64 1) = some (.bool true) := aAZ h1
   obtain ⟨i', j', w1, hi1, hi2⟩ := aEc G (k + 2) (aD.f G (k + 3)) hS hn a (by omega) l hl hx (k + 3) m b (by omega) hb (by omega)
   obtain ⟨i2, l', w2, hp⟩ := aHK G (k + 3) (aD.f G (k + 3)) hS hn i' (by omega) (by omega) (max a (i' - 1) - a) a (k + 3) l (by omega) hl (by omega)
   refine ⟨l', mE ?_, hp⟩
   rw [aD.step]
   unfold aD.c
   have fin := aCl hS l'
   rw [← hlen] at w1 w2 fin
   refine gQ ?_
   have fx := aMv e1 <| g1
   have lx1 := w1
   have lx2 := w2
   refine gT ?_
   exact oF fin
  ·have g1 : aX Tryd.prog .eql 3 true (Nn (m - a : Nat)) (.int .i64 1) = some (.bool false) := aAY h1
   by_cases h2 : b - m = 1
   ·have g2 : aX Tryd.prog .eql 3 true (Nn (b - m : Nat)) (.int .i64 1) = some (.bool true) := aAZ h2
    obtain ⟨i', j', w1, hi1, hi2⟩ := aBx G (k + 2) (aD.f G (k + 3)) hS hn m (by omega) l hl hx (k + 3) a m (by omega) (by omega) (by omega)
    obtain ⟨i2, l', w2, hp⟩ := aEY G (k + 3) (aD.f G (k + 3)) hS hn i' (m - i') m (k + 3) l (by omega) rfl (by omega) hl (by omega)
    refine ⟨l', mE ?_, hp⟩
    rw [aD.step]
    unfold aD.c
    have fin := aCl hS l'
    rw [← hlen] at w1 w2 fin
    refine gQ ?_
    have fx := aMv e1 <| aMv e2 <| aMv g1 <| g2
    have lx1 := w1
    have lx2 := w2
    refine gT ?_
    exact oF fin
   ·have g2 : aX Tryd.prog .eql 3 true (Nn (b - m : Nat)) (.int .i64 1) = some (.bool false) := aAY h2
    have e3 : aX Tryd.prog .add 3 false (Nn a) (Nn b) = some (Nn (a + b : Nat)) := nM (by omega)
    obtain ⟨c1, c2, c3⟩ := qC a b (by omega)
    obtain ⟨mid, hmid⟩ : ∃ mid, mid = (a + b) / 2 := ⟨_, rfl⟩
    rw [← hmid] at c2 c3
    have e4 : aX Tryd.prog .add 3 false (Nn mid) (Nn m) = some (Nn (mid + m : Nat)) := nM (by omega)
    obtain ⟨nn, hnn⟩ : ∃ nn, nn = mid + m := ⟨_, rfl⟩
    rw [← hnn] at e4
    have e6 : aX Tryd.prog .sub 3 true (Nn nn) (.int .i64 1) = some (Nn (nn - 1 : Nat)) := kG (b := 1) (by omega) (by omega)
    obtain ⟨st, r0, hst, hlo⟩ : ∃ st r0 : Nat, ((aX Tryd.prog .gtr 3 false (Nn m) (Nn mid) = some (.bool true) ∧ aX Tryd.prog .sub 3 false (Nn nn) (Nn b) = some (Nn st) ∧ r0 = mid) ∨ (aX Tryd.prog .gtr 3 false (Nn m) (Nn mid) = some (.bool false) ∧ True ∧ r0 = m ∧ st = a))
      ∧ (st ≤ r0 ∧ r0 ≤ m ∧ r0 ≤ mid ∧ nn ≤ n + st ∧ a ≤ st ∧ nn ≤ st + b ∧ m ≤ nn - r0 ∧ mid ≤ nn - r0) := by
     by_cases hg : mid < m
     ·refine ⟨nn - b, mid, .inl ⟨oG (by omega), kG (by omega) (by omega), rfl⟩, by omega, by omega, by omega, by omega, by omega, by omega, by omega, by omega⟩
     ·refine ⟨a, m, .inr ⟨kJ (by omega), trivial, rfl, rfl⟩, by omega, by omega, by omega, by omega, by omega, by omega, by omega, by omega⟩
    obtain ⟨l1, l2, l3, l4, l5, l6, l7, l8⟩ := hlo
    obtain ⟨s, j', w1, hs1, hs2⟩ := aBy G (k + 2) (aD.f G (k + 3)) hS hn a m b mid nn (nn - 1) st (by omega) l hl hx (k + 3) st r0 (by omega) l1 (by omega) (by omega) (by omega)
    have e7 : aX Tryd.prog .sub 3 false (Nn nn) (Nn s) = some (Nn (nn - s : Nat)) := kG (by omega) (by omega)
    obtain ⟨e, he⟩ : ∃ e, e = nn - s := ⟨_, rfl⟩
    rw [← he] at e7
    obtain ⟨la, pa, ca⟩ : ∃ la : List Nat, la.Perm l ∧ ((aX Tryd.prog .lss 3 false (Nn s) (Nn m) = some (.bool true) ∧ aX Tryd.prog .lss 3 false (Nn m) (Nn e) = some (.bool true) ∧ bD (aT.f G (k + 3)) [dS p n, Nn s, Nn m, Nn e, cS q] (SO H p l) = some (.tup [], SO H p la))
      ∨ (aX Tryd.prog .lss 3 false (Nn s) (Nn m) = some (.bool true) ∧ aX Tryd.prog .lss 3 false (Nn m) (Nn e) = some (.bool false) ∧ True ∧ la = l) ∨ (aX Tryd.prog .lss 3 false (Nn s) (Nn m) = some (.bool false) ∧ True ∧ True ∧ la = l)) := by
     rcases tV s m e with ⟨x1, x2, x3, x4⟩ | ⟨x1, x2, x3⟩ | ⟨x1, x2⟩
     ·obtain ⟨la, wa, pa⟩ := aHw G (k + 1) hS hn (by omega) s m e x1 x2 (by omega) l hl
      exact ⟨la, pa, .inl ⟨x3, x4, wa⟩⟩
     ·exact ⟨l, List.Perm.refl _, .inr (.inl ⟨x2, x3, trivial, rfl⟩)⟩
     ·exact ⟨l, List.Perm.refl _, .inr (.inr ⟨x2, trivial, trivial, rfl⟩)⟩
    have hla : la.length = n := by rw [pa.length_eq]; exact hl
    have hxa := kI pa hx
    obtain ⟨lb, pb, cb⟩ : ∃ lb : List Nat, lb.Perm la ∧ ((aX Tryd.prog .lss 3 false (Nn a) (Nn s) = some (.bool true) ∧ aX Tryd.prog .lss 3 false (Nn s) (Nn mid) = some (.bool true) ∧ bD (aD.f G (k + 3)) [dS p n, Nn a, Nn s, Nn mid, cS q] (SO H p la) = some (.tup [], SO H p lb))
      ∨ (aX Tryd.prog .lss 3 false (Nn a) (Nn s) = some (.bool true) ∧ aX Tryd.prog .lss 3 false (Nn s) (Nn mid) = some (.bool false) ∧ True ∧ lb = la) ∨ (aX Tryd.prog .lss 3 false (Nn a) (Nn s) = some (.bool false) ∧ True ∧ True ∧ lb = la)) := by
     rcases tV a s mid with ⟨x1, x2, x3, x4⟩ | ⟨x1, x2, x3⟩ | ⟨x1, x2⟩
     ·obtain ⟨lb, wb, pb⟩ := sR hn d k a s mid la (by omega) (by omega) x1 x2 (by omega) hla hxa
      exact ⟨lb, pb, .inl ⟨x3, x4, wb⟩⟩
     ·exact ⟨la, List.Perm.refl _, .inr (.inl ⟨x2, x3, trivial, rfl⟩)⟩
     ·exact ⟨la, List.Perm.refl _, .inr (.inr ⟨x2, trivial, trivial, rfl⟩)⟩
    have hlb : lb.length = n := by rw [pb.length_eq]; exact hla
    have hxb := kI pb hxa
    obtain ⟨lc, pc, cc⟩ : ∃ lc : List Nat, lc.Perm lb ∧ ((aX Tryd.prog .lss 3 false (Nn mid) (Nn e) = some (.bool true) ∧ aX Tryd.prog .lss 3 false (Nn e) (Nn b) = some (.bool true) ∧ bD (aD.f G (k + 3)) [dS p n, Nn mid, Nn e, Nn b, cS q] (SO H p lb) = some (.tup [], SO H p lc))
      ∨ (aX Tryd.prog .lss 3 false (Nn mid) (Nn e) = some (.bool true) ∧ aX Tryd.prog .lss 3 false (Nn e) (Nn b) = some (.bool false) ∧ True ∧ lc = lb) ∨ (aX Tryd.prog .lss 3 false (Nn mid) (Nn e) = some (.bool false) ∧ True ∧ True ∧ lc = lb)) := by
     rcases tV mid e b with ⟨x1, x2, x3, x4⟩ | ⟨x1, x2, x3⟩ | ⟨x1, x2⟩
     ·obtain ⟨lc, wc, pc⟩ := sR hn d k mid e b lb (by omega) (by omega) x1 x2 hb hlb hxb
      exact ⟨lc, pc, .inl ⟨x3, x4, wc⟩⟩
     ·exact ⟨lb, List.Perm.refl _, .inr (.inl ⟨x2, x3, trivial, rfl⟩)⟩
     ·exact ⟨lb, List.Perm.refl _, .inr (.inr ⟨x2, trivial, trivial, rfl⟩)⟩
    refine ⟨lc, mE ?_, (pc.trans pb).trans pa⟩
    rw [aD.step]
    unfold aD.c
    have fin := aCl hS lc
    rw [← hlen] at w1 fin
    refine gQ ?_
    clear hn hd hk ha hm hb hl hx h1 h2 hmid hnn l1 l2 l3 l4 l5 l6 l7 l8 hs1 hs2 he pa hla hxa pb hlb hxb pc
    have lx1 := w1
    rcases hst with ⟨g3, e5, rfl⟩ | ⟨g3, e5, rfl, rfl⟩ <;>
     rcases ca with ⟨g5, g6, wa⟩ | ⟨g5, g6, wa, rfl⟩ | ⟨g5, g6, wa, rfl⟩ <;>
     rcases cb with ⟨g7, g8, wb⟩ | ⟨g7, g8, wb, rfl⟩ | ⟨g7, g8, wb, rfl⟩ <;>
     rcases cc with ⟨g9, g10, wc⟩ | ⟨g9, g10, wc, rfl⟩ | ⟨g9, g10, wc, rfl⟩
    all_goals have fx := aMv e1 <| aMv e2 <| aMv e3 <| aMv c1 <| aMv c2 <| aMv c3 <| aMv e4 <| aMv e5 <| aMv e6 <| aMv e7 <| aMv g1 <| aMv g2 <| aMv g3 <| aMv g5 <| aMv g6 <| aMv g7 <| aMv g8 <| aMv g9 <| aMv g10 <| aMv wa <| aMv wb <| wc
    all_goals refine gT ?_
    all_goals exact oF fin
end
structure AX where
 bor : Bool
 ws : List WI
 R : Nat
 L : LY
 us : List Int
 o : List Nat
structure LS where
 out : List WI
 place : List Nat
def LS.put (s : LS) (l : List WI) : LS := { s with out := s.out ++ l }
theorem lY (s : LS) (l m : List WI) : (s.put l).put m = s.put (l ++ m) := by simp [LS.put]
theorem aEK (s : LS) : s.put [] = s := by simp [LS.put]
def AX.cv (A : AX) : AV := cV A.bor A.ws A.R A.L.M
def AX.box (A : AX) (s : LS) : AV := .agg [.ro A.bor (cJ A.ws), Nn A.R, Nn A.L.M, .sl 6 A.R 0 A.R 1, .sl 7 A.R 0 A.R 1, .sl 8 s.out.length 0 s.out.length 6, .sl 9 s.place.length 0 s.place.length 1]
def AX.hp (A : AX) (s : LS) (T : aB) : aB :=
 ⟨27, 3, [A.cv]⟩ :: ⟨27, 3, [.agg [.nils, .int .i64 0, .int .i64 0]]⟩ :: ⟨86, 7, [A.box s]⟩ :: ⟨3, 1, A.us.map fun u => I6 u⟩ :: ⟨49, 1, [.sl 3 A.R 0 A.R 1]⟩ :: ⟨3, 1, eG A.o⟩ :: ⟨3, 1, eG A.L.slot⟩ :: ⟨3, 1, eG A.L.word⟩ :: ⟨29, 6, cJ s.out⟩ :: ⟨3, 1, eG s.place⟩ :: T
structure AX.W (A : AX) : Prop where
 sl : A.L.slot.length = A.R
 wd : A.L.word.length = A.R
abbrev BX : AV := .ptr 2 1 0 0
def Pl (T : aB) : Prop := ∀ n, dI n T = true
theorem aCx (n : Nat) (l : List Int) : cI n (l.map fun u => I6 u) = true := jP n _ (fun _ => rfl) l
section
variable (A : AX) (s : LS) (T : aB)
theorem kF : (A.hp s T).length = T.length + 10 := rfl
theorem aGy (hT : Pl T) (n : Nat) (hn : 10 ≤ n) : dI n (A.hp s T) = true := by
 have h3 : decide (3 < n) = true := decide_eq_true (by omega)
 have h6 : decide (6 < n) = true := decide_eq_true (by omega)
 have h7 : decide (7 < n) = true := decide_eq_true (by omega)
 have h8 : decide (8 < n) = true := decide_eq_true (by omega)
 have h9 : decide (9 < n) = true := decide_eq_true (by omega)
 simp only [AX.hp, AX.box, AX.cv, cV, dI, cI, cB, fY, jV, aCx, hT n, h3, h6, h7, h8, h9, Bool.and_self]
theorem tG (X : aB) (hT : Pl T) (xs : List AV) (hx : cI (T.length + 10) xs = true) : fN (T.length + 10) xs (A.hp s (T ++ X)) = some (A.hp s T) := by
 have e : (A.hp s (T ++ X)).take (T.length + 10) = A.hp s T := by
  unfold AX.hp
  simp only [List.take_succ_cons]
  rw [List.take_append_of_le_length (Nat.le_refl _), List.take_length]
 unfold fN
 rw [e, hx, aGy A s T hT _ (by omega)]; rfl
theorem aAM (X : aB) (hT : Pl T) : cH [] (T.length + 10) (A.hp s (T ++ X)) = some (.ret, [.tup []], A.hp s T) := by
 unfold cH
 rw [tG A s T X hT [] rfl]; rfl
theorem aCk (hT : Pl T) : cH [] (T.length + 10) (A.hp s T) = some (.ret, [.tup []], A.hp s T) := by
 have := aAM A s T [] hT
 rwa [List.append_nil] at this
theorem aIi (hT : Pl T) (n : Int) : cH [I6 n] (T.length + 10) (A.hp s T) = some (.ret, [I6 n], A.hp s T) := by
 unfold cH
 have := tG A s T [] hT [] rfl
 rw [List.append_nil] at this
 rw [this]; rfl
theorem kE {s' : LS} {g : cE} {args : List AV} {r : AV} (h : g args (A.hp s T) = some (r, A.hp s' T)) : bD g args (A.hp s T) = some (r, A.hp s' T) := by
 unfold bD; rw [h]; simp only [kF, Nat.le_refl, if_true]
variable (G : aF) (k : Nat)
theorem iQ : fS BX = some BX := rfl
theorem af0 : aA 0 BX = some BX := rfl
theorem af2 : aA 2 BX = some (.ptr 2 1 0 2) := rfl
theorem af3 : aA 3 BX = some (.ptr 2 1 0 3) := rfl
theorem af4 : aA 4 BX = some (.ptr 2 1 0 4) := rfl
theorem af5 : aA 5 BX = some (.ptr 2 1 0 5) := rfl
theorem af6 : aA 6 BX = some (.ptr 2 1 0 6) := rfl
theorem al2 : aE G false 1 (.ptr 2 1 0 2) (A.hp s T) = some (Nn A.L.M) := rfl
theorem al3 : aE G false 1 (.ptr 2 1 0 3) (A.hp s T) = some (.sl 6 A.R 0 A.R 1) := rfl
theorem al4 : aE G false 1 (.ptr 2 1 0 4) (A.hp s T) = some (.sl 7 A.R 0 A.R 1) := rfl
theorem al5 : aE G false 1 (.ptr 2 1 0 5) (A.hp s T) = some (.sl 8 s.out.length 0 s.out.length 6) := rfl
theorem al6 : aE G false 1 (.ptr 2 1 0 6) (A.hp s T) = some (.sl 9 s.place.length 0 s.place.length 1) := rfl
theorem yL (b n : Nat) {r : Int} (h : 0 ≤ r ∧ r < n) : aM 1 (.sl b n 0 n 1) (I6 r) = some (.ptr b n r.toNat 0) := by
 rw [sL h.1 h.2, Nat.zero_add]
theorem aAW (hW : A.W) {r : Int} (h : 0 ≤ r ∧ r < A.R) : aE G false 1 (.ptr 6 A.R r.toNat 0) (A.hp s T) = some (Nn (A.L.sl r)) := by
 have e : (A.hp s T)[6]? = some ⟨3, 1, eG A.L.slot⟩ := rfl
 have hl := hW.sl
 unfold aE
 simp only [e, gF, hW.sl, if_true, jF A.L.slot r.toNat (by omega)]
 rfl
theorem aEy (hW : A.W) {r : Int} (h : 0 ≤ r ∧ r < A.R) : aE G false 1 (.ptr 7 A.R r.toNat 0) (A.hp s T) = some (Nn (A.L.wd r)) := by
 have e : (A.hp s T)[7]? = some ⟨3, 1, eG A.L.word⟩ := rfl
 have hl := hW.wd
 unfold aE
 simp only [e, gF, hW.wd, if_true, jF A.L.word r.toNat (by omega)]
 rfl
theorem iC (hT : Pl T) (i : WI) (hs : s.out.length ≤ 10000000) : bD (bI.f G (k + 1)) [BX, i.v] (A.hp s T) = some (.tup [], A.hp (s.put [i]) T) := by
 apply kE
 rw [bI.step]
 unfold bI.c
 rw [kF]
 have a1 : fU 29 6 (.sl 8 s.out.length 0 s.out.length 6) (.ro false [i.v]) (A.hp s T) = some (.sl 8 (s.put [i]).out.length 0 (s.put [i]).out.length 6, (A.hp s T).set 8 ⟨29, 6, cJ (s.put [i]).out⟩) := by
  have e : (A.hp s T)[8]? = some ⟨29, 6, cJ s.out⟩ := rfl
  have e2 : iE (.ro false [i.v]) (A.hp s T) = some [i.v] := rfl
  unfold fU
  simp only [e, e2, fP]
  rw [if_pos (by refine ⟨?_, ?_, ?_, ?_, ?_⟩ <;> first | trivial | rfl | (show s.out.length + 1 ≤ _; omega))]
  have e2 : (cJ s.out).take s.out.length = cJ s.out := List.take_of_length_le (by rw [fP]; exact Nat.le_refl _)
  have e3 : (cJ s.out).drop (s.out.length + [i.v].length) = [] := List.drop_of_length_le (by rw [fP]; exact Nat.le_add_right _ _)
  have e4 : cJ s.out ++ [i.v] = cJ (s.out ++ [i]) := by simp [cJ]
  rw [e2, e3, List.append_nil, e4, fP]
  simp [LS.put]
 have s1 : fM (aV 1 (.ptr 2 1 0 5) (.sl 8 (s.put [i]).out.length 0 (s.put [i]).out.length 6) ((A.hp s T).set 8 ⟨29, 6, cJ (s.put [i]).out⟩)) = some (.tup [], A.hp (s.put [i]) T) := rfl
 have b0 : ∀ H, gB i.v H = some (.rp false i.v 0, H) := fun H => rfl
 have l6 : ∀ H, aE G true 6 (.rp false i.v 0) H = some i.v := fun H => rfl
 have br : ∀ H, fQ 6 1 (.agg [(.int .i64 0), (.int .i64 0), (.int .i64 0), (.int .i64 0), (.int .i64 0), (.int .i64 0)]) [(0, i.v)] H = some (.ro false [i.v], H) := fun H => rfl
 have l0 := al5 A s T G
 have fin := aCk A (s.put [i]) T hT
 generalize (A.hp s T).set 8 ⟨29, 6, cJ (s.put [i]).out⟩ = hm at *
 generalize i.v = iv at *
 refine gQ ?_
 have fx := aMv iQ <| aMv af5 <| aMv b0 <| aMv l6 <| aMv br <| aMv l0 <| aMv a1 <| s1
 refine gT ?_
 exact oF fin
theorem jG (hW : A.W) (hT : Pl T) (r into : Int) (hr : 0 ≤ r ∧ r < A.R) (hs : s.out.length ≤ 1000000) : bD (bW.f G (k + 2)) [BX, I6 r, I6 into] (A.hp s T) = some (I6 (A.L.rdR r into), A.hp (s.put (A.L.rdC r into)) T) := by
 apply kE
 rw [bW.step]
 unfold bW.c
 rw [kF]
 have l3 := al3 A s T G
 have l4 := al4 A s T G
 have d1 := yL 6 A.R hr
 have d2 := yL 7 A.R hr
 have ls := aAW A s T G hW hr
 have lw := aEy A s T G hW hr
 unfold LY.rdR LY.rdC
 by_cases h0 : A.L.sl r = 0
 ·rw [if_pos h0, if_pos h0]
  have g1 : aX Tryd.prog .neq 3 true (Nn (A.L.sl r)) (.int .i64 0) = some (.bool false) := by rw [h0]; exact vH (b := 0) rfl
  have bs : cP [(0, 1), (1, 1), (2, 1), (3, 1), (4, 1), (5, 1)] [(.int .i64 0), (.int .i64 0), (.int .i64 0), (.int .i64 0), (.int .i64 0), (.int .i64 0)] [(0, .int .i64 15), (1, I6 into), (2, .int .i64 0), (5, Nn (A.L.wd r))] = some (WI.v ⟨15, into, 0, 0, 0, A.L.wd r⟩) := rfl
  have p1 := iC A s T G k hT ⟨15, into, 0, 0, 0, A.L.wd r⟩ (by omega)
  have fin := aIi A (s.put [⟨15, into, 0, 0, 0, A.L.wd r⟩]) T hT into
  clear h0
  generalize (⟨15, into, 0, 0, 0, A.L.wd r⟩ : WI) = i at *
  generalize A.L.sl r = sr at *
  refine gQ ?_
  have fx := aMv iQ <| aMv af3 <| aMv af4 <| aMv l3 <| aMv l4 <| aMv d1 <| aMv d2 <| aMv ls <| aMv lw <| aMv g1 <| aMv bs <| p1
  refine gT ?_
  exact oF fin
 ·rw [if_neg h0, if_neg h0, aEK]
  have g1 : aX Tryd.prog .neq 3 true (Nn (A.L.sl r)) (.int .i64 0) = some (.bool true) := vI (b := 0) h0
  have fin := aIi A s T hT (A.L.sl r)
  clear h0
  generalize A.L.sl r = sr at *
  refine gQ ?_
  have fx := aMv iQ <| aMv af3 <| aMv l3 <| aMv d1 <| aMv ls <| g1
  refine gT ?_
  exact oF fin
theorem mO (hW : A.W) (hT : Pl T) (r : Int) (hr : 0 ≤ r ∧ r < A.R) : bD (cD.f G (k + 1)) [BX, I6 r] (A.hp s T) = some (I6 (A.L.wrR r), A.hp s T) := by
 apply kE
 rw [cD.step]
 unfold cD.c
 rw [kF]
 have l3 := al3 A s T G
 have d1 := yL 6 A.R hr
 have ls := aAW A s T G hW hr
 unfold LY.wrR
 by_cases h0 : A.L.sl r = 0
 ·rw [if_pos h0]
  have g1 : aX Tryd.prog .neq 3 true (Nn (A.L.sl r)) (.int .i64 0) = some (.bool false) := by rw [h0]; exact vH (b := 0) rfl
  have fin := aIi A s T hT 1
  clear h0
  generalize A.L.sl r = sr at *
  refine gQ ?_
  have fx := aMv iQ <| aMv af3 <| aMv l3 <| aMv d1 <| aMv ls <| g1
  refine gT ?_
  exact oF fin
 ·rw [if_neg h0]
  have g1 : aX Tryd.prog .neq 3 true (Nn (A.L.sl r)) (.int .i64 0) = some (.bool true) := vI (b := 0) h0
  have fin := aIi A s T hT (A.L.sl r)
  clear h0
  generalize A.L.sl r = sr at *
  refine gQ ?_
  have fx := aMv iQ <| aMv af3 <| aMv l3 <| aMv d1 <| aMv ls <| g1
  refine gT ?_
  exact oF fin
theorem kN (hW : A.W) (hT : Pl T) (r : Int) (hr : 0 ≤ r ∧ r < A.R) (hs : s.out.length ≤ 1000000) : bD (bU.f G (k + 2)) [BX, I6 r] (A.hp s T) = some (.tup [], A.hp (s.put (A.L.wrC r)) T) := by
 apply kE
 rw [bU.step]
 unfold bU.c
 rw [kF]
 have l3 := al3 A s T G
 have l4 := al4 A s T G
 have d1 := yL 6 A.R hr
 have d2 := yL 7 A.R hr
 have ls := aAW A s T G hW hr
 have lw := aEy A s T G hW hr
 unfold LY.wrC
 by_cases h0 : A.L.sl r = 0
 ·rw [if_pos h0]
  have g1 : aX Tryd.prog .eql 3 true (Nn (A.L.sl r)) (.int .i64 0) = some (.bool true) := by rw [h0]; exact aAZ (b := 0) rfl
  have bs : cP [(0, 1), (1, 1), (2, 1), (3, 1), (4, 1), (5, 1)] [(.int .i64 0), (.int .i64 0), (.int .i64 0), (.int .i64 0), (.int .i64 0), (.int .i64 0)] [(0, .int .i64 16), (2, .int .i64 0), (3, .int .i64 1), (5, Nn (A.L.wd r))] = some (WI.v ⟨16, 0, 0, 1, 0, A.L.wd r⟩) := rfl
  have p1 := iC A s T G k hT ⟨16, 0, 0, 1, 0, A.L.wd r⟩ (by omega)
  have fin := aCk A (s.put [⟨16, 0, 0, 1, 0, A.L.wd r⟩]) T hT
  clear h0
  generalize (⟨16, 0, 0, 1, 0, A.L.wd r⟩ : WI) = i at *
  generalize A.L.sl r = sr at *
  refine gQ ?_
  have fx := aMv iQ <| aMv af3 <| aMv af4 <| aMv l3 <| aMv l4 <| aMv d1 <| aMv d2 <| aMv ls <| aMv lw <| aMv g1 <| aMv bs <| p1
  refine gT ?_
  exact oF fin
 ·rw [if_neg h0, aEK]
  have g1 : aX Tryd.prog .eql 3 true (Nn (A.L.sl r)) (.int .i64 0) = some (.bool false) := aAY (b := 0) h0
  have fin := aCk A s T hT
  clear h0
  generalize A.L.sl r = sr at *
  refine gQ ?_
  have fx := aMv iQ <| aMv af3 <| aMv l3 <| aMv d1 <| aMv ls <| g1
  refine gT ?_
  exact oF fin
theorem rH (hW : A.W) (hT : Pl T) (i : WI) (hr : 0 ≤ i.a ∧ i.a < A.R) (hs : s.out.length ≤ 900000) : bD (bT.f G (k + 3)) [BX, i.v] (A.hp s T) = some (.tup [], A.hp (s.put (A.L.adC i)) T) := by
 apply kE
 rw [bT.step]
 unfold bT.c
 rw [kF]
 have b0 := aKy i
 have fa := gi2 i
 have fk := gi5 i
 have la := aJH G i
 have lk := aLs G i
 have lr := iG A.L i.a 1
 have r1 := jG A s T G k hW hT i.a 1 hr (by omega)
 obtain ⟨s1, hs1⟩ : ∃ s1, s1 = s.put (A.L.rdC i.a 1) := ⟨_, rfl⟩
 rw [← hs1] at r1
 have n1 : s1.out.length ≤ 900001 := by rw [hs1]; simp [LS.put]; omega
 have pl : ∀ (t : LS) (x : WI), (t.put [x]).out.length = t.out.length + 1 := fun t x => by simp [LS.put]
 have bs1 : cP [(0, 1), (1, 1), (2, 1), (3, 1), (4, 1), (5, 1)] [(.int .i64 0), (.int .i64 0), (.int .i64 0), (.int .i64 0), (.int .i64 0), (.int .i64 0)] [(0, .int .i64 1), (1, .int .i64 2), (5, I6 i.k)] = some (WI.v ⟨1, 2, 0, 0, 0, i.k⟩) := rfl
 have bs2 : cP [(0, 1), (1, 1), (2, 1), (3, 1), (4, 1), (5, 1)] [(.int .i64 0), (.int .i64 0), (.int .i64 0), (.int .i64 0), (.int .i64 0), (.int .i64 0)] [(0, .int .i64 3), (1, .int .i64 2), (2, I6 (A.L.rdR i.a 1)), (3, .int .i64 2)] = some (WI.v ⟨3, 2, A.L.rdR i.a 1, 2, 0, 0⟩) := rfl
 have bs3 : cP [(0, 1), (1, 1), (2, 1), (3, 1), (4, 1), (5, 1)] [(.int .i64 0), (.int .i64 0), (.int .i64 0), (.int .i64 0), (.int .i64 0), (.int .i64 0)] [(0, .int .i64 1), (1, .int .i64 3), (5, Nn A.L.M)] = some (WI.v ⟨1, 3, 0, 0, 0, (A.L.M : Int)⟩) := rfl
 have bs4 : cP [(0, 1), (1, 1), (2, 1), (3, 1), (4, 1), (5, 1)] [(.int .i64 0), (.int .i64 0), (.int .i64 0), (.int .i64 0), (.int .i64 0), (.int .i64 0)] [(0, .int .i64 13), (1, .int .i64 3), (2, .int .i64 2), (3, .int .i64 3)] = some (WI.v ⟨13, 3, 2, 3, 0, 0⟩) := rfl
 have bs5 : cP [(0, 1), (1, 1), (2, 1), (3, 1), (4, 1), (5, 1)] [(.int .i64 0), (.int .i64 0), (.int .i64 0), (.int .i64 0), (.int .i64 0), (.int .i64 0)] [(0, .int .i64 18), (2, .int .i64 3), (5, .int .i64 (-1))] = some (WI.v ⟨18, 0, 3, 0, 0, -1⟩) := rfl
 have e : s.put (A.L.adC i) = ((((s1.put [⟨1, 2, 0, 0, 0, i.k⟩]).put [⟨3, 2, A.L.rdR i.a 1, 2, 0, 0⟩]).put [⟨1, 3, 0, 0, 0, (A.L.M : Int)⟩]).put [⟨13, 3, 2, 3, 0, 0⟩]).put [⟨18, 0, 3, 0, 0, -1⟩] := by
  rw [hs1]; simp only [lY]; unfold LY.adC; simp only [List.append_assoc, List.cons_append, List.nil_append]
 rw [e]
 clear e hs1
 generalize (⟨1, 2, 0, 0, 0, i.k⟩ : WI) = x1 at *
 generalize (⟨3, 2, A.L.rdR i.a 1, 2, 0, 0⟩ : WI) = x2 at *
 generalize (⟨1, 3, 0, 0, 0, (A.L.M : Int)⟩ : WI) = x3 at *
 generalize (⟨13, 3, 2, 3, 0, 0⟩ : WI) = x4 at *
 generalize (⟨18, 0, 3, 0, 0, -1⟩ : WI) = x5 at *
 have p1 := iC A s1 T G (k + 1) hT x1 (by omega)
 have m1 := pl s1 x1
 generalize s1.put [x1] = s2 at *
 have p2 := iC A s2 T G (k + 1) hT x2 (by omega)
 have m2 := pl s2 x2
 generalize s2.put [x2] = s3 at *
 have p3 := iC A s3 T G (k + 1) hT x3 (by omega)
 have m3 := pl s3 x3
 generalize s3.put [x3] = s4 at *
 have p4 := iC A s4 T G (k + 1) hT x4 (by omega)
 have m4 := pl s4 x4
 generalize s4.put [x4] = s5 at *
 have p5 := iC A s5 T G (k + 1) hT x5 (by omega)
 generalize s5.put [x5] = s6 at *
 have lM := al2 A s3 T G
 have fin := aCk A s6 T hT
 clear n1 m1 m2 m3 m4 pl
 generalize A.L.rdR i.a 1 = ra at *
 generalize i.v = iv at *
 refine gQ ?_
 have fx := aMv iQ <| aMv af0 <| aMv af2 <| aMv b0 <| aMv fa <| aMv fk <| aMv la <| aMv lk <| aMv r1 <| aMv bs1 <| aMv bs2 <| aMv bs3 <| aMv bs4 <| aMv bs5 <| aMv p1 <| aMv p2 <| aMv p3 <| aMv p4 <| aMv p5 <| lM
 refine gT ?_
 exact oF fin
def brB (op : Int) : Bool := decide (op = 17) || decide (op = 18) || decide (op = 19)
theorem xV (op : Int) : cY.f G (k + 1) [I6 op] [] = some (.bool (brB op), []) := by
 by_cases h : op = 17 ∨ op = 18 ∨ op = 19
 ·rcases h with rfl | rfl | rfl <;> kernel_rfl
 have e : brB op = false := by unfold brB; simp; omega
 rw [e, cY.step]
 unfold cY.c
 have q1 : aX Tryd.prog .eql 3 true (I6 op) (.int .i64 17) = some (.bool false) := gV (by omega)
 have q2 : aX Tryd.prog .eql 3 true (I6 op) (.int .i64 18) = some (.bool false) := gV (by omega)
 have q3 : aX Tryd.prog .eql 3 true (I6 op) (.int .i64 19) = some (.bool false) := gV (by omega)
 refine gQ ?_
 have fx := aMv q1 <| aMv q2 <| q3
 refine gT ?_
 exact yJ rfl
end
theorem aIJ (a : Nat) (h : a < 18446744073709551616) : u64 (qE a) = a := by unfold u64 qE; split <;> omega
theorem aEV (a : Nat) (h : a < 65536) : qE a = a := by unfold qE; rw [if_neg (by omega)]
theorem gJ (l : List Nat) (i j x : Nat) (hi : i < l.length) : (l.set i x).getD j 0 = if i = j then x else l.getD j 0 := by
 rw [List.getD_eq_getElem?_getD, List.getD_eq_getElem?_getD, List.getElem?_set]
 by_cases h : i = j
 ·rw [if_pos h, if_pos h, if_pos hi]; rfl
 ·rw [if_neg h, if_neg h]
section
variable {r : List Nat} {p : Nat} {cd : Int} {mem : List Nat} {lk : List (Int × Int)} {st : Nat} {d a b c k op : Int} {y : Nat}
abbrev jT (r : List Nat) (a : Int) : Nat := r.getD a.toNat 0
theorem aHE (ho : 1 ≤ op ∧ op ≤ 14) (hv : (jN op k (jT r a) (jT r b) (jT r c)).2 = true) : MS.step (MS.tick ⟨r, p, cd, mem, lk, st⟩) ⟨op, d, a, b, c, k⟩ = (⟨r.set d.toNat (jN op k (jT r a) (jT r b) (jT r c)).1, p + 1, cd, mem, lk ++ [(1, (p : Int))], st + 1⟩, true) := by
 unfold MS.step
 simp only
 rw [if_neg (by omega), if_neg (by omega), if_neg (by omega)]
 exact if_pos hv
theorem aKt (ho : op = 15 ∨ op = 16) (hy : (jT r a + u64 k) % 18446744073709551616 = y) (hm : mem.length ≤ y) : MS.step (MS.tick ⟨r, p, cd, mem, lk, st⟩) ⟨op, d, a, b, c, k⟩ = (⟨r, p + 1, 3, mem, lk ++ [(1, (p : Int))] ++ [(3, qE y)], st + 1⟩, false) := by
 subst hy
 unfold MS.step
 simp only
 rw [if_pos ho]
 unfold MS.touch
 exact if_pos hm
theorem aJD (hy : (jT r a + u64 k) % 18446744073709551616 = y) (hm : y < mem.length) : MS.step (MS.tick ⟨r, p, cd, mem, lk, st⟩) ⟨15, d, a, b, c, k⟩ = (⟨r.set d.toNat (mem.getD y 0), p + 1, cd, mem, lk ++ [(1, (p : Int))] ++ [(3, qE y)], st + 1⟩, true) := by
 subst hy
 unfold MS.step
 simp only
 rw [if_pos (by decide)]
 unfold MS.touch
 exact (if_neg (Nat.not_le.2 hm)).trans (if_pos rfl)
theorem aJE (hy : (jT r a + u64 k) % 18446744073709551616 = y) (hm : y < mem.length) : MS.step (MS.tick ⟨r, p, cd, mem, lk, st⟩) ⟨16, d, a, b, c, k⟩ = (⟨r, p + 1, cd, mem.set y (jT r b), lk ++ [(1, (p : Int))] ++ [(3, qE y)], st + 1⟩, true) := by
 subst hy
 unfold MS.step
 simp only
 rw [if_pos (by decide)]
 unfold MS.touch
 exact (if_neg (Nat.not_le.2 hm)).trans (if_neg (show ¬ (16 : Int) = 15 by decide))
theorem aJB : MS.step (MS.tick ⟨r, p, cd, mem, lk, st⟩) ⟨17, d, a, b, c, k⟩ = (⟨r, k.toNat, cd, mem, lk ++ [(1, (p : Int))], st + 1⟩, true) := by
 unfold MS.step
 simp only
 rw [if_neg (by decide), if_pos (by decide)]
 unfold MS.branch
 rw [if_pos rfl]; rfl
theorem aJC (ho : op = 18 ∨ op = 19) (g : Bool) (hg : (decide (jT r a = 0) == decide (op = 18)) = g) : MS.step (MS.tick ⟨r, p, cd, mem, lk, st⟩) ⟨op, d, a, b, c, k⟩ = (⟨r, if g = true then k.toNat else p + 1, cd, mem, lk ++ [(1, (p : Int))] ++ [(2, if g = true then 1 else 0)], st + 1⟩, true) := by
 unfold MS.step
 simp only
 rw [if_neg (by omega), if_pos (by omega)]
 unfold MS.branch
 have e : (decide (MS.rg { (MS.tick ⟨r, p, cd, mem, lk, st⟩) with at_ := (MS.tick ⟨r, p, cd, mem, lk, st⟩).at_ + 1 } a = 0) == decide (op = 18)) = g := hg
 simp only [e]
 rw [if_neg (by omega)]
 cases g
 ·rfl
 ·rfl
theorem aHD : MS.step (MS.tick ⟨r, p, cd, mem, lk, st⟩) ⟨20, d, a, b, c, k⟩ = (⟨r, p + 1, k, mem, lk ++ [(1, (p : Int))], st + 1⟩, false) := by
 unfold MS.step
 simp only
 rw [if_neg (by decide), if_neg (by decide)]; exact if_pos trivial
end
def At (cs : List WI) (p : Nat) (i : WI) : Prop := cs[p]? = some i
def lQ (cs : List WI) (fuel : Int) (q : MS) (m : Nat) (q2 : MS) : Prop := ∀ f, jB cs fuel (f + m) q = jB cs fuel f q2
def aDo (cs : List WI) (fuel : Int) (q : MS) (m : Nat) (q2 : MS) : Prop := ∀ f, jB cs fuel (f + m) q = some q2
section
variable {cs : List WI} {fuel : Int} {r : List Nat} {p : Nat} {cd : Int} {mem : List Nat} {lk : List (Int × Int)} {st : Nat} {d a b c k op : Int} {y : Nat} {q q2 q3 : MS} {m n : Nat}
theorem lQ.refl : lQ cs fuel q 0 q := fun f => rfl
theorem lQ.trans (h : lQ cs fuel q m q2) (h2 : lQ cs fuel q2 n q3) : lQ cs fuel q (m + n) q3 := fun f => by
 rw [show f + (m + n) = f + n + m by omega, h, h2]
theorem lQ.ends (h : lQ cs fuel q m q2) (h2 : aDo cs fuel q2 n q3) : aDo cs fuel q (m + n) q3 := fun f => by
 rw [show f + (m + n) = f + n + m by omega, h, h2]
theorem At.lt {i : WI} (h : At cs p i) : p < cs.length ∧ cs.getD p default = i := by
 unfold At at h
 refine ⟨(List.getElem?_eq_some_iff.1 h).1, ?_⟩
 rw [List.getD_eq_getElem?_getD, h]; rfl
theorem aBP {i : WI} {s2 : MS} (h : At cs p i) (hs : (st : Int) < fuel) (e : MS.step (MS.tick ⟨r, p, cd, mem, lk, st⟩) i = (s2, true)) : lQ cs fuel ⟨r, p, cd, mem, lk, st⟩ 1 s2 :=
 fun f => aIE (s := ⟨r, p, cd, mem, lk, st⟩) h.lt.1 (show ((st : Nat) : Int) ≠ fuel by omega) h.lt.2 e
theorem aIa {i : WI} {s2 : MS} (h : At cs p i) (hs : (st : Int) < fuel) (e : MS.step (MS.tick ⟨r, p, cd, mem, lk, st⟩) i = (s2, false)) : aDo cs fuel ⟨r, p, cd, mem, lk, st⟩ 1 s2 :=
 fun f => aHz (s := ⟨r, p, cd, mem, lk, st⟩) h.lt.1 (show ((st : Nat) : Int) ≠ fuel by omega) h.lt.2 e
theorem aGg (h : cs.length ≤ p) : aDo cs fuel ⟨r, p, cd, mem, lk, st⟩ 1 ⟨r, p, 3, mem, lk, st⟩ := fun f => aHA (s := ⟨r, p, cd, mem, lk, st⟩) h
theorem vY {x : Nat} (h : At cs p ⟨op, d, a, b, c, k⟩) (ho : 1 ≤ op ∧ op ≤ 14) (hv : jN op k (jT r a) (jT r b) (jT r c) = (x, true)) (hs : (st : Int) < fuel) : lQ cs fuel ⟨r, p, cd, mem, lk, st⟩ 1 ⟨r.set d.toNat x, p + 1, cd, mem, lk ++ [(1, (p : Int))], st + 1⟩ := by
 have := aHE (r := r) (p := p) (cd := cd) (mem := mem) (lk := lk) (st := st) (d := d) (a := a) (b := b) (c := c) (k := k) ho (by rw [hv])
 rw [hv] at this
 exact aBP h hs this
theorem aIZ (h : At cs p ⟨15, d, a, b, c, k⟩) (hy : (jT r a + u64 k) % 18446744073709551616 = y) (hm : y < mem.length) (hs : (st : Int) < fuel) : lQ cs fuel ⟨r, p, cd, mem, lk, st⟩ 1 ⟨r.set d.toNat (mem.getD y 0), p + 1, cd, mem, lk ++ [(1, (p : Int))] ++ [(3, qE y)], st + 1⟩ := aBP h hs (aJD hy hm)
theorem aJa (h : At cs p ⟨16, d, a, b, c, k⟩) (hy : (jT r a + u64 k) % 18446744073709551616 = y) (hm : y < mem.length) (hs : (st : Int) < fuel) : lQ cs fuel ⟨r, p, cd, mem, lk, st⟩ 1 ⟨r, p + 1, cd, mem.set y (jT r b), lk ++ [(1, (p : Int))] ++ [(3, qE y)], st + 1⟩ := aBP h hs (aJE hy hm)
theorem aKM (h : At cs p ⟨17, d, a, b, c, k⟩) (hs : (st : Int) < fuel) : lQ cs fuel ⟨r, p, cd, mem, lk, st⟩ 1 ⟨r, k.toNat, cd, mem, lk ++ [(1, (p : Int))], st + 1⟩ := aBP h hs aJB
theorem aIY (h : At cs p ⟨op, d, a, b, c, k⟩) (ho : op = 18 ∨ op = 19) (g : Bool) (hg : (decide (jT r a = 0) == decide (op = 18)) = g) (hs : (st : Int) < fuel) : lQ cs fuel ⟨r, p, cd, mem, lk, st⟩ 1 ⟨r, if g = true then k.toNat else p + 1, cd, mem, lk ++ [(1, (p : Int))] ++ [(2, if g = true then 1 else 0)], st + 1⟩ := aBP h hs (aJC ho g hg)
theorem aJK (h : At cs p ⟨20, d, a, b, c, k⟩) (hs : (st : Int) < fuel) : aDo cs fuel ⟨r, p, cd, mem, lk, st⟩ 1 ⟨r, p + 1, k, mem, lk ++ [(1, (p : Int))], st + 1⟩ := aIa h hs aHD
end
theorem aHO (k : Int) (x y z : Nat) : jN 1 k x y z = (u64 k, true) := by simp [jN]
theorem aKx (k : Int) (x y z : Nat) : jN 3 k x y z = ((x + y) % 18446744073709551616, true) := by simp [jN]
theorem aIO (k : Int) (x y z : Nat) : jN 13 k x y z = (if x < y then 1 else 0, true) := by simp [jN]
theorem aFR {op : Int} (h : 1 ≤ op ∧ op ≤ 14) (k : Int) {a b c a2 b2 c2 : Nat} (ha : (dM op).a = true → a2 = a) (hb : (dM op).b = true → b2 = b) (hc : (dM op).c = true → c2 = c) : jN op k a2 b2 c2 = jN op k a b c := by
 have : op = 1 ∨ op = 2 ∨ op = 3 ∨ op = 4 ∨ op = 5 ∨ op = 6 ∨ op = 7 ∨ op = 8 ∨ op = 9 ∨ op = 10 ∨ op = 11 ∨ op = 12 ∨ op = 13 ∨ op = 14 := by omega
 rcases this with rfl | rfl | rfl | rfl | rfl | rfl | rfl | rfl | rfl | rfl | rfl | rfl | rfl | rfl <;> simp [dM, fO] at ha hb hc <;> simp [jN, pS, ha, hb, hc]
structure LY.Ok (L : LY) (R S N : Nat) : Prop where
 s6 : 6 ≤ S
 n : N ≤ 65536
 mn : L.M ≤ N
 sl : ∀ r, r < R → L.slot.getD r 0 ≠ 0 → 4 ≤ L.slot.getD r 0 ∧ L.slot.getD r 0 < S
 wd : ∀ r, r < R → L.slot.getD r 0 = 0 → L.M ≤ L.word.getD r 0 ∧ L.word.getD r 0 < N
 slI : ∀ r t, r < R → t < R → r ≠ t → L.slot.getD r 0 ≠ 0 → L.slot.getD t 0 ≠ L.slot.getD r 0
 wdI : ∀ r t, r < R → t < R → r ≠ t → L.slot.getD r 0 = 0 → L.slot.getD t 0 = 0 → L.word.getD t 0 ≠ L.word.getD r 0
structure RelA (L : LY) (R S N : Nat) (sr sm qr qm : List Nat) : Prop where
 sl : sr.length = R
 ql : qr.length = S
 z : qr.getD 0 0 = 0
 sml : sm.length = L.M
 qml : qm.length = N
 rs : ∀ r, r < R → L.slot.getD r 0 ≠ 0 → qr.getD (L.slot.getD r 0) 0 = sr.getD r 0
 rm : ∀ r, r < R → L.slot.getD r 0 = 0 → qm.getD (L.word.getD r 0) 0 = sr.getD r 0
 mem : ∀ j, j < L.M → qm.getD j 0 = sm.getD j 0
section
variable {L : LY} {R S N : Nat} {sr sm qr qm qr2 : List Nat}
theorem RelA.scr (hL : L.Ok R S N) (h : RelA L R S N sr sm qr qm) (hl : qr2.length = S) (he : ∀ j, j = 0 ∨ 4 ≤ j → qr2.getD j 0 = qr.getD j 0) : RelA L R S N sr sm qr2 qm :=
 ⟨h.sl, hl, by rw [he 0 (.inl rfl)]; exact h.z, h.sml, h.qml, fun r hr h0 => by rw [he _ (.inr (hL.sl r hr h0).1)]; exact h.rs r hr h0, h.rm, h.mem⟩
theorem RelA.set (hL : L.Ok R S N) (h : RelA L R S N sr sm qr qm) {t x : Nat} (ht : 1 ≤ t ∧ t ≤ 3) : RelA L R S N sr sm (qr.set t x) qm := by
 have := hL.s6
 refine h.scr hL (by rw [List.length_set]; exact h.ql) (fun j hj => ?_)
 rw [gJ _ _ _ _ (by rw [h.ql]; omega), if_neg (by omega)]
theorem RelA.slot (hL : L.Ok R S N) (h : RelA L R S N sr sm qr qm) {d : Int} (hd : 0 ≤ d ∧ d < R) (h0 : L.sl d ≠ 0) (x : Nat) : RelA L R S N (sr.set d.toNat x) sm (qr.set (L.sl d) x) qm := by
 have hb := hL.sl d.toNat (by omega) h0
 have hlt : L.sl d < qr.length := by rw [h.ql]; exact hb.2
 refine ⟨by rw [List.length_set]; exact h.sl, by rw [List.length_set]; exact h.ql, ?_, h.sml, h.qml, fun r hr hr0 => ?_, fun r hr hr0 => ?_, h.mem⟩
 ·have hb4 : 4 ≤ L.sl d := hb.1
  rw [gJ _ _ _ _ hlt, if_neg (by omega)]; exact h.z
 ·rw [gJ _ _ _ _ hlt, gJ _ _ _ _ (by rw [h.sl]; omega)]
  by_cases e : d.toNat = r
  ·subst e; rw [if_pos (show L.sl d = L.slot.getD d.toNat 0 from rfl), if_pos rfl]
  ·have hne : ¬ L.sl d = L.slot.getD r 0 := hL.slI r d.toNat hr (by omega) (by omega) hr0
   rw [if_neg hne, if_neg e]; exact h.rs r hr hr0
 ·have e : ¬ d.toNat = r := fun e => h0 (by unfold LY.sl; rw [e]; exact hr0)
  rw [gJ _ _ _ _ (by rw [h.sl]; omega), if_neg e]; exact h.rm r hr hr0
theorem RelA.word (hL : L.Ok R S N) (h : RelA L R S N sr sm qr qm) {d : Int} (hd : 0 ≤ d ∧ d < R) (h0 : L.sl d = 0) (x : Nat) : RelA L R S N (sr.set d.toNat x) sm qr (qm.set (L.wd d) x) := by
 have hb := hL.wd d.toNat (by omega) h0
 have hlt : L.wd d < qm.length := by rw [h.qml]; exact hb.2
 refine ⟨by rw [List.length_set]; exact h.sl, h.ql, h.z, h.sml, by rw [List.length_set]; exact h.qml, fun r hr hr0 => ?_, fun r hr hr0 => ?_, fun j hj => ?_⟩
 ·have e : ¬ d.toNat = r := fun e => hr0 (by rw [← e]; exact h0)
  rw [gJ _ _ _ _ (by rw [h.sl]; omega), if_neg e]; exact h.rs r hr hr0
 ·rw [gJ _ _ _ _ hlt, gJ _ _ _ _ (by rw [h.sl]; omega)]
  by_cases e : d.toNat = r
  ·subst e; rw [if_pos (show L.wd d = L.word.getD d.toNat 0 from rfl), if_pos rfl]
  ·have hne : ¬ L.wd d = L.word.getD r 0 := hL.wdI r d.toNat hr (by omega) (by omega) hr0 h0
   rw [if_neg hne, if_neg e]; exact h.rm r hr hr0
 ·have hb1 : L.M ≤ L.wd d := hb.1
  rw [gJ _ _ _ _ hlt, if_neg (by omega)]; exact h.mem j hj
theorem RelA.store (hL : L.Ok R S N) (h : RelA L R S N sr sm qr qm) {y x : Nat} (hy : y < L.M) : RelA L R S N sr (sm.set y x) qr (qm.set y x) := by
 have hn := hL.mn
 refine ⟨h.sl, h.ql, h.z, by rw [List.length_set]; exact h.sml, by rw [List.length_set]; exact h.qml, h.rs, fun r hr hr0 => ?_, fun j hj => ?_⟩
 ·have hb := hL.wd r hr hr0
  rw [gJ _ _ _ _ (by rw [h.qml]; omega), if_neg (by omega)]; exact h.rm r hr hr0
 ·rw [gJ _ _ _ _ (by rw [h.qml]; omega), gJ _ _ _ _ (by rw [h.sml]; omega), h.mem j hj]
end
def AtC (cs : List WI) (P : List Nat) (p : Nat) (C : List WI) : Prop := ∀ t i, C[t]? = some i → At cs (p + t) (jS P cs.length i)
theorem AtC.left {cs : List WI} {P : List Nat} {p : Nat} {A B : List WI} (h : AtC cs P p (A ++ B)) : AtC cs P p A := fun t i ht => h t i (by
 rw [List.getElem?_append_left (List.getElem?_eq_some_iff.1 ht).1]; exact ht)
theorem AtC.right {cs : List WI} {P : List Nat} {p : Nat} {A B : List WI} (h : AtC cs P p (A ++ B)) : AtC cs P (p + A.length) B := fun t i ht => by
 have := h (A.length + t) i (by rw [List.getElem?_append_right (by omega), show A.length + t - A.length = t by omega]; exact ht)
 rw [show p + A.length + t = p + (A.length + t) by omega]; exact this
theorem AtC.get {cs : List WI} {P : List Nat} {p : Nat} {C : List WI} (h : AtC cs P p C) (t : Nat) {i : WI} (ht : C[t]? = some i) (hb : ¬ (i.op = 17 ∨ i.op = 18 ∨ i.op = 19)) : At cs (p + t) i := by
 have := h t i ht
 unfold jS at this
 rwa [if_neg hb] at this
theorem AtC.head {cs : List WI} {P : List Nat} {p : Nat} {i : WI} {C : List WI} (h : AtC cs P p (i :: C)) (hb : ¬ (i.op = 17 ∨ i.op = 18 ∨ i.op = 19)) : At cs p i := h.get 0 rfl hb
def LY.rdL (L : LY) (p : Nat) (v : Int) : List (Int × Int) := if L.sl v = 0 then [(1, (p : Int)), (3, (L.wd v : Int))] else []
def LY.rL (L : LY) (f : Bool) (p : Nat) (v : Int) : List (Int × Int) := if f = true then L.rdL p v else []
def LY.rdsL (L : LY) (p : Nat) (i : WI) : List (Int × Int) :=
 L.rL (dM i.op).a p i.a ++ (L.rL (dM i.op).b (p + (L.rC (dM i.op).a i.a 1).length) i.b ++ L.rL (dM i.op).c (p + (L.rC (dM i.op).a i.a 1).length + (L.rC (dM i.op).b i.b 2).length) i.c)
def LY.adL (L : LY) (p : Nat) (i : WI) : List (Int × Int) :=
 L.rdL p i.a ++ [(1, ((p + (L.rdC i.a 1).length : Nat) : Int)), (1, ((p + (L.rdC i.a 1).length + 1 : Nat) : Int)), (1, ((p + (L.rdC i.a 1).length + 2 : Nat) : Int)), (1, ((p + (L.rdC i.a 1).length + 3 : Nat) : Int)), (1, ((p + (L.rdC i.a 1).length + 4 : Nat) : Int))]
section
variable {L : LY} {R S N : Nat} {sr sm qr qm : List Nat} {cs : List WI} {P : List Nat} {fuel : Int} {p : Nat} {cd : Int} {lk : List (Int × Int)} {st : Nat}
theorem aHN {n : Nat} (h : n < 65536) : (0 + u64 (n : Int)) % 18446744073709551616 = n := by unfold u64; omega
theorem aGs (hL : L.Ok R S N) (h : RelA L R S N sr sm qr qm) {v into : Int} (hv : 0 ≤ v ∧ v < R) (hi : 1 ≤ into ∧ into ≤ 3) (hA : AtC cs P p (L.rdC v into)) (hs : (st : Int) < fuel) :
  ∃ r2, lQ cs fuel ⟨qr, p, cd, qm, lk, st⟩ (L.rdC v into).length ⟨r2, p + (L.rdC v into).length, cd, qm, lk ++ L.rdL p v, st + (L.rdC v into).length⟩ ∧ r2.length = S ∧ (∀ j, j ≠ into.toNat → r2.getD j 0 = qr.getD j 0) ∧ jT r2 (L.rdR v into) = jT sr v := by
 have hs6 := hL.s6
 by_cases h0 : L.sl v = 0
 ·have hb := hL.wd v.toNat (by omega) h0
  have hn := hL.n
  have hw : L.wd v < 65536 := by show L.word.getD v.toNat 0 < 65536; omega
  unfold LY.rdC at hA
  unfold LY.rdC LY.rdL LY.rdR
  rw [if_pos h0] at hA
  simp only [if_pos h0]
  have a0 := hA.head (by show ¬ ((15 : Int) = 17 ∨ (15 : Int) = 18 ∨ (15 : Int) = 19); decide)
  have g := aIZ (r := qr) (cd := cd) (mem := qm) (lk := lk) (st := st) (fuel := fuel) (y := L.wd v) a0 (by rw [show jT qr 0 = 0 from h.z]; exact aHN hw) (by rw [h.qml]; exact hb.2) hs
  rw [aEV _ hw, List.append_assoc] at g
  refine ⟨_, g, by rw [List.length_set]; exact h.ql, fun j hj => ?_, ?_⟩
  ·rw [gJ _ _ _ _ (by rw [h.ql]; omega), if_neg (by omega)]
  ·show (qr.set into.toNat (qm.getD (L.wd v) 0)).getD into.toNat 0 = _
   rw [gJ _ _ _ _ (by rw [h.ql]; omega), if_pos rfl]
   exact h.rm v.toNat (by omega) h0
 ·unfold LY.rdC LY.rdL LY.rdR
  simp only [if_neg h0]
  refine ⟨qr, ?_, h.ql, fun j _ => rfl, ?_⟩
  ·rw [List.append_nil]; exact lQ.refl
  ·show qr.getD ((L.sl v : Int)).toNat 0 = _
   rw [Int.toNat_natCast]
   exact h.rs v.toNat (by omega) h0
theorem aDC (hL : L.Ok R S N) (h : RelA L R S N sr sm qr qm) (f : Bool) {v into : Int} (hv : f = true → 0 ≤ v ∧ v < R) (hi : 1 ≤ into ∧ into ≤ 3) (hA : AtC cs P p (L.rC f v into)) (hs : (st : Int) < fuel) :
  ∃ r2, lQ cs fuel ⟨qr, p, cd, qm, lk, st⟩ (L.rC f v into).length ⟨r2, p + (L.rC f v into).length, cd, qm, lk ++ L.rL f p v, st + (L.rC f v into).length⟩ ∧ r2.length = S ∧ (∀ j, j ≠ into.toNat → r2.getD j 0 = qr.getD j 0) ∧ (f = true → jT r2 (L.rR f v into) = jT sr v) := by
 cases f with
 | true =>
  obtain ⟨r2, h1, h2, h3, h4⟩ := aGs hL h (hv rfl) hi hA (cd := cd) (lk := lk) hs
  exact ⟨r2, h1, h2, h3, fun _ => h4⟩
 | false =>
  refine ⟨qr, ?_, h.ql, fun j _ => rfl, fun e => by cases e⟩
  show lQ cs fuel _ 0 ⟨qr, p, cd, qm, lk ++ [], st⟩
  rw [List.append_nil]; exact lQ.refl
theorem aDT (hL : L.Ok R S N) {v into : Int} (hv : 0 ≤ v ∧ v < R) (hi : 0 ≤ into) : (L.rdR v into).toNat = into.toNat ∨ 4 ≤ (L.rdR v into).toNat := by
 unfold LY.rdR
 by_cases h0 : L.sl v = 0
 ·rw [if_pos h0]; exact .inl rfl
 ·rw [if_neg h0, Int.toNat_natCast]; exact .inr (hL.sl v.toNat (by omega) h0).1
theorem aGt (hL : L.Ok R S N) (h : RelA L R S N sr sm qr qm) {i : WI} (ha : (dM i.op).a = true → 0 ≤ i.a ∧ i.a < R) (hb : (dM i.op).b = true → 0 ≤ i.b ∧ i.b < R) (hc : (dM i.op).c = true → 0 ≤ i.c ∧ i.c < R) (hA : AtC cs P p (L.rds i)) (hs : (st : Int) + 3 < fuel) :
  ∃ r2, lQ cs fuel ⟨qr, p, cd, qm, lk, st⟩ (L.rds i).length ⟨r2, p + (L.rds i).length, cd, qm, lk ++ L.rdsL p i, st + (L.rds i).length⟩ ∧ RelA L R S N sr sm r2 qm ∧
   ((dM i.op).a = true → jT r2 (L.rR (dM i.op).a i.a 1) = jT sr i.a) ∧ ((dM i.op).b = true → jT r2 (L.rR (dM i.op).b i.b 2) = jT sr i.b) ∧ ((dM i.op).c = true → jT r2 (L.rR (dM i.op).c i.c 3) = jT sr i.c) := by
 unfold LY.rds at hA ⊢
 unfold LY.rdsL
 have la := mJ L (dM i.op).a i.a 1
 have lb := mJ L (dM i.op).b i.b 2
 obtain ⟨r1, g1, l1, e1, v1⟩ := aDC hL h (dM i.op).a ha (into := 1) (by decide) hA.left (cd := cd) (lk := lk) (st := st) (fuel := fuel) (by omega)
 have h1 : RelA L R S N sr sm r1 qm := h.scr hL l1 (fun j hj => e1 j (by show j ≠ 1; omega))
 obtain ⟨r2, g2, l2, e2, v2⟩ := aDC hL h1 (dM i.op).b hb (into := 2) (by decide) hA.right.left (cd := cd) (lk := lk ++ L.rL (dM i.op).a p i.a) (st := st + (L.rC (dM i.op).a i.a 1).length) (fuel := fuel) (by push_cast; omega)
 have h2 : RelA L R S N sr sm r2 qm := h1.scr hL l2 (fun j hj => e2 j (by show j ≠ 2; omega))
 obtain ⟨r3, g3, l3, e3, v3⟩ := aDC hL h2 (dM i.op).c hc (into := 3) (by decide) hA.right.right (cd := cd) (lk := lk ++ L.rL (dM i.op).a p i.a ++ L.rL (dM i.op).b (p + (L.rC (dM i.op).a i.a 1).length) i.b) (st := st + (L.rC (dM i.op).a i.a 1).length + (L.rC (dM i.op).b i.b 2).length) (fuel := fuel) (by push_cast; omega)
 have h3 : RelA L R S N sr sm r3 qm := h2.scr hL l3 (fun j hj => e3 j (by show j ≠ 3; omega))
 refine ⟨r3, ?_, h3, fun f => ?_, fun f => ?_, v3⟩
 ·have g := (g1.trans g2).trans g3
  simp only [List.length_append, List.append_assoc, Nat.add_assoc] at g ⊢
  exact g
 ·have hx := aDT hL (ha f) (into := 1) (by decide)
  have e : L.rR (dM i.op).a i.a 1 = L.rdR i.a 1 := by unfold LY.rR; rw [if_pos f]
  rw [← v1 f]
  unfold jT
  rw [e, e3 _ (by show _ ≠ 3; have : (1 : Int).toNat = 1 := rfl; omega), e2 _ (by show _ ≠ 2; have : (1 : Int).toNat = 1 := rfl; omega)]
 ·have hx := aDT hL (hb f) (into := 2) (by decide)
  have e : L.rR (dM i.op).b i.b 2 = L.rdR i.b 2 := by unfold LY.rR; rw [if_pos f]
  rw [← v2 f]
  unfold jT
  rw [e, e3 _ (by show _ ≠ 3; have : (2 : Int).toNat = 2 := rfl; omega)]
theorem aJf (hL : L.Ok R S N) (h : RelA L R S N sr sm qr qm) {d : Int} (hd : 0 ≤ d ∧ d < R) (x : Nat) (hA : AtC cs P p (L.wrC d)) (hs : (st : Int) < fuel) :
  ∃ r2 m2, lQ cs fuel ⟨qr.set (L.wrR d).toNat x, p, cd, qm, lk, st⟩ (L.wrC d).length ⟨r2, p + (L.wrC d).length, cd, m2, lk ++ L.rdL p d, st + (L.wrC d).length⟩ ∧ RelA L R S N (sr.set d.toNat x) sm r2 m2 := by
 have hs6 := hL.s6
 by_cases h0 : L.sl d = 0
 ·have hb := hL.wd d.toNat (by omega) h0
  have hn := hL.n
  have hw : L.wd d < 65536 := by show L.word.getD d.toNat 0 < 65536; omega
  unfold LY.wrC at hA
  unfold LY.wrC LY.rdL LY.wrR
  rw [if_pos h0] at hA
  simp only [if_pos h0]
  have a0 := hA.head (by show ¬ ((16 : Int) = 17 ∨ (16 : Int) = 18 ∨ (16 : Int) = 19); decide)
  have hz : (qr.set 1 x).getD 0 0 = 0 := by rw [gJ _ _ _ _ (by rw [h.ql]; omega), if_neg (by decide)]; exact h.z
  have h1 : (qr.set 1 x).getD 1 0 = x := by rw [gJ _ _ _ _ (by rw [h.ql]; omega), if_pos rfl]
  have g := aJa (r := qr.set 1 x) (cd := cd) (mem := qm) (lk := lk) (st := st) (fuel := fuel) (y := L.wd d) a0 (by rw [show jT (qr.set 1 x) 0 = 0 from hz]; exact aHN hw) (by rw [h.qml]; exact hb.2) hs
  rw [aEV _ hw, List.append_assoc, show jT (qr.set 1 x) 1 = x from h1] at g
  exact ⟨_, _, g, (h.set hL (t := 1) (x := x) (by decide)).word hL hd h0 x⟩
 ·unfold LY.wrC LY.rdL LY.wrR
  simp only [if_neg h0]
  refine ⟨_, qm, ?_, h.slot hL hd h0 x⟩
  rw [List.append_nil, Int.toNat_natCast]; exact lQ.refl
theorem aCo {P : List Nat} {n : Nat} {a : Int} : jS P n ⟨18, 0, a, 0, 0, -1⟩ = ⟨18, 0, a, 0, 0, (n : Int)⟩ := by
 unfold jS
 rw [if_pos (by show (18 : Int) = 17 ∨ (18 : Int) = 18 ∨ (18 : Int) = 19; decide), if_pos rfl]
theorem vC (L : LY) (i : WI) : (L.adC i).length = (L.rdC i.a 1).length + 5 := by simp [LY.adC]
theorem aKT (hL : L.Ok R S N) (h : RelA L R S N sr sm qr qm) {i : WI} (ha : 0 ≤ i.a ∧ i.a < R) (hA : AtC cs P p (L.adC i)) (hs : (st : Int) + 6 < fuel) (g : Bool) (hg : decide (L.M ≤ (jT sr i.a + u64 i.k) % 18446744073709551616) = g) :
  ∃ r2, lQ cs fuel ⟨qr, p, cd, qm, lk, st⟩ (L.adC i).length ⟨r2, if g = true then cs.length else p + (L.adC i).length, cd, qm, lk ++ (L.adL p i ++ [(2, if g = true then 1 else 0)]), st + (L.adC i).length⟩ ∧ RelA L R S N sr sm r2 qm ∧ jT r2 2 = (jT sr i.a + u64 i.k) % 18446744073709551616 := by
 have hs6 := hL.s6
 have lr := iG L i.a 1
 rw [vC]
 unfold LY.adC at hA
 unfold LY.adL
 obtain ⟨r1, g1, l1, e1, v1⟩ := aGs hL h ha (into := 1) (by decide) hA.left (cd := cd) (lk := lk) (st := st) (fuel := fuel) (by omega)
 have h1 : RelA L R S N sr sm r1 qm := h.scr hL l1 (fun j hj => e1 j (by show j ≠ 1; omega))
 have hB := hA.right
 generalize (L.rdC i.a 1).length = n at *
 have hx := aDT hL ha (into := 1) (by decide)
 generalize hrd : L.rdR i.a 1 = ra at *
 have hxa : ra.toNat ≠ 2 := by have : (1 : Int).toNat = 1 := rfl; omega
 have n17 : ∀ {o : Int}, o = 1 ∨ o = 3 ∨ o = 13 → ¬ (o = 17 ∨ o = 18 ∨ o = 19) := by omega
 have a0 := hB.get 0 (i := ⟨1, 2, 0, 0, 0, i.k⟩) rfl (n17 (.inl rfl))
 have a1 := hB.get 1 (i := ⟨3, 2, ra, 2, 0, 0⟩) rfl (n17 (.inr (.inl rfl)))
 have a2 := hB.get 2 (i := ⟨1, 3, 0, 0, 0, (L.M : Int)⟩) rfl (n17 (.inl rfl))
 have a3 := hB.get 3 (i := ⟨13, 3, 2, 3, 0, 0⟩) rfl (n17 (.inr (.inr rfl)))
 have a4 := hB 4 ⟨18, 0, 3, 0, 0, -1⟩ rfl
 rw [aCo] at a4
 have hln : ∀ (r : List Nat) (t x : Nat), r.length = S → (r.set t x).length = S := fun r t x hr => by rw [List.length_set]; exact hr
 have gs : ∀ (r : List Nat) (t j x : Nat), r.length = S → t ≤ 3 → (r.set t x).getD j 0 = if t = j then x else r.getD j 0 := fun r t j x hr ht => gJ _ _ _ _ (by omega)
 have t2 : (2 : Int).toNat = 2 := rfl
 have t3 : (3 : Int).toNat = 3 := rfl
 have s1 := vY (r := r1) (cd := cd) (mem := qm) (lk := lk ++ L.rdL p i.a) (st := st + n) (fuel := fuel) a0 (by decide) (aHO _ _ _ _) (by push_cast; omega)
 obtain ⟨r2, hr2⟩ : ∃ r2, r2 = r1.set (2 : Int).toNat (u64 i.k) := ⟨_, rfl⟩
 rw [← hr2] at s1
 have l2 : r2.length = S := by rw [hr2]; exact hln _ _ _ l1
 have x2 : jT r2 2 = u64 i.k := by rw [hr2, t2]; exact (gs _ _ _ _ l1 (by decide)).trans (if_pos rfl)
 have xa : jT r2 ra = jT sr i.a := by
  rw [hr2, t2]; exact ((gs _ _ _ _ l1 (by decide)).trans (if_neg (Ne.symm hxa))).trans v1
 have h2 : RelA L R S N sr sm r2 qm := by rw [hr2]; exact h1.set hL (by decide)
 have s2 := vY (r := r2) (cd := cd) (mem := qm) (lk := lk ++ L.rdL p i.a ++ [(1, ((p + n + 0 : Nat) : Int))]) (st := st + n + 1) (fuel := fuel) a1 (by show (1 : Int) ≤ 3 ∧ (3 : Int) ≤ 14; decide) (aKx _ _ _ _) (by push_cast; omega)
 rw [xa, x2] at s2
 generalize (jT sr i.a + u64 i.k) % 18446744073709551616 = ad at *
 obtain ⟨r3, hr3⟩ : ∃ r3, r3 = r2.set (2 : Int).toNat ad := ⟨_, rfl⟩
 rw [← hr3] at s2
 have l3 : r3.length = S := by rw [hr3]; exact hln _ _ _ l2
 have h3 : RelA L R S N sr sm r3 qm := by rw [hr3]; exact h2.set hL (by decide)
 have x3 : jT r3 2 = ad := by rw [hr3, t2]; exact (gs _ _ _ _ l2 (by decide)).trans (if_pos rfl)
 have s3 := vY (r := r3) (cd := cd) (mem := qm) (lk := lk ++ L.rdL p i.a ++ [(1, ((p + n + 0 : Nat) : Int))] ++ [(1, ((p + n + 1 : Nat) : Int))]) (st := st + n + 1 + 1) (fuel := fuel) a2 (by decide) (aHO _ _ _ _) (by push_cast; omega)
 have eM : u64 (L.M : Int) = L.M := aFa _ (by have := hL.mn; have := hL.n; omega)
 rw [eM] at s3
 obtain ⟨r4, hr4⟩ : ∃ r4, r4 = r3.set (3 : Int).toNat L.M := ⟨_, rfl⟩
 rw [← hr4] at s3
 have l4 : r4.length = S := by rw [hr4]; exact hln _ _ _ l3
 have h4 : RelA L R S N sr sm r4 qm := by rw [hr4]; exact h3.set hL (by decide)
 have x4 : jT r4 2 = ad := by rw [hr4, t3]; exact ((gs _ _ _ _ l3 (by decide)).trans (if_neg (by decide))).trans x3
 have y4 : jT r4 3 = L.M := by rw [hr4, t3]; exact (gs _ _ _ _ l3 (by decide)).trans (if_pos rfl)
 have s4 := vY (r := r4) (cd := cd) (mem := qm) (lk := lk ++ L.rdL p i.a ++ [(1, ((p + n + 0 : Nat) : Int))] ++ [(1, ((p + n + 1 : Nat) : Int))] ++ [(1, ((p + n + 2 : Nat) : Int))]) (st := st + n + 1 + 1 + 1) (fuel := fuel) a3 (by show (1 : Int) ≤ 13 ∧ (13 : Int) ≤ 14; decide) (aIO _ _ _ _) (by push_cast; omega)
 rw [x4, y4] at s4
 obtain ⟨r5, hr5⟩ : ∃ r5, r5 = r4.set (3 : Int).toNat (if ad < L.M then 1 else 0) := ⟨_, rfl⟩
 rw [← hr5] at s4
 have l5 : r5.length = S := by rw [hr5]; exact hln _ _ _ l4
 have h5 : RelA L R S N sr sm r5 qm := by rw [hr5]; exact h4.set hL (by decide)
 have x5 : jT r5 2 = ad := by rw [hr5, t3]; exact ((gs _ _ _ _ l4 (by decide)).trans (if_neg (by decide))).trans x4
 have y5 : jT r5 3 = if ad < L.M then 1 else 0 := by rw [hr5, t3]; exact (gs _ _ _ _ l4 (by decide)).trans (if_pos rfl)
 have s5 := aIY (r := r5) (cd := cd) (mem := qm) (lk := lk ++ L.rdL p i.a ++ [(1, ((p + n + 0 : Nat) : Int))] ++ [(1, ((p + n + 1 : Nat) : Int))] ++ [(1, ((p + n + 2 : Nat) : Int))] ++ [(1, ((p + n + 3 : Nat) : Int))]) (st := st + n + 1 + 1 + 1 + 1) (fuel := fuel) a4 (.inl rfl) g (by
  rw [y5, ← hg]
  by_cases hlt : ad < L.M
  ·rw [if_pos hlt, decide_eq_false (show ¬ L.M ≤ ad by omega)]; decide
  ·rw [if_neg hlt, decide_eq_true (show L.M ≤ ad by omega)]; decide) (by push_cast; omega)
 refine ⟨r5, ?_, h5, x5⟩
 have G := ((((g1.trans s1).trans s2).trans s3).trans s4).trans s5
 rw [Int.toNat_natCast] at G
 simp only [List.append_assoc, Nat.add_assoc, List.cons_append, List.nil_append, Nat.add_zero, Nat.zero_add, Nat.reduceAdd] at G ⊢
 exact G
end
structure WI.Good (i : WI) (R n : Nat) : Prop where
 ok2 : i.Ok2 R n
 mem : i.op = 15 ∨ i.op = 16 → 0 ≤ i.k ∧ i.k ≤ 65535
 halt : i.op = 20 → 0 ≤ i.k ∧ i.k ≤ 2
theorem tN {i : WI} {R n : Int} (h : fZ i R n = none) (hR : 0 ≤ R) : i.Good R.toNat n.toNat := by
 refine ⟨aCL h hR, fun ho => ?_, fun ho => ?_⟩
 ·unfold fZ at h
  by_cases h0 : (fO i.op).isSome = false
  ·rw [if_pos h0] at h; cases h
  rw [if_neg h0] at h
  by_cases h1 : kH (dM i.op) i R = true
  ·rw [if_pos h1] at h; cases h
  rw [if_neg h1] at h
  by_cases h2 : kP (dM i.op) i = true
  ·rw [if_pos h2] at h; cases h
  rw [if_neg h2, if_neg (by omega), if_neg (by omega), if_pos ho] at h
  by_cases h3 : i.k < 0 ∨ 65535 < i.k
  ·rw [if_pos h3] at h; cases h
  ·omega
 ·unfold fZ at h
  by_cases h0 : (fO i.op).isSome = false
  ·rw [if_pos h0] at h; cases h
  rw [if_neg h0] at h
  by_cases h1 : kH (dM i.op) i R = true
  ·rw [if_pos h1] at h; cases h
  rw [if_neg h1] at h
  by_cases h2 : kP (dM i.op) i = true
  ·rw [if_pos h2] at h; cases h
  rw [if_neg h2, if_neg (by omega), if_pos ho] at h
  by_cases h3 : i.k < 0 ∨ 2 < i.k
  ·rw [if_pos h3] at h; cases h
  ·omega
theorem yN {R n : Int} (hR : 0 ≤ R) : ∀ {l : List WI} {j : Nat}, lA R n l j = .ok → ∀ i ∈ l, i.Good R.toNat n.toNat
 | [], _, _, i, hi => by cases hi
 | x :: l, j, h, i, hi => by
  unfold lA at h
  split at h
  ·cases h
  ·rename_i ho
   rcases List.mem_cons.1 hi with rfl | hi
   ·exact tN ho hR
   ·exact yN hR h i hi
theorem uQ {cs : List WI} {R M : Int} (h : gS cs R M = .ok) : ∀ i ∈ cs, i.Good R.toNat cs.length := by
 have hb := (qF h).1
 unfold gS at h
 rw [if_neg (by omega), if_neg (by omega)] at h
 have := yN hb.1 h
 simpa using this
theorem aKP {op : Int} (h : 1 ≤ op ∧ op ≤ 15) : (dM op).d = true := by
 have : op = 1 ∨ op = 2 ∨ op = 3 ∨ op = 4 ∨ op = 5 ∨ op = 6 ∨ op = 7 ∨ op = 8 ∨ op = 9 ∨ op = 10 ∨ op = 11 ∨ op = 12 ∨ op = 13 ∨ op = 14 ∨ op = 15 := by omega
 rcases this with rfl | rfl | rfl | rfl | rfl | rfl | rfl | rfl | rfl | rfl | rfl | rfl | rfl | rfl | rfl <;> rfl
theorem aIl {op : Int} (h : 1 ≤ op ∧ op ≤ 20) : ((dM op).a = true → op ≠ 17 ∧ op ≠ 20) ∧ ((dM op).b = true → op ≤ 16) ∧ ((dM op).c = true → op ≤ 16) := by
 rcases yG h with rfl | rfl | rfl | rfl | rfl | rfl | rfl | rfl | rfl | rfl | rfl | rfl | rfl | rfl | rfl | rfl | rfl | rfl | rfl | rfl <;> simp [dM, fO]
theorem tC {i : WI} {R n : Nat} (h : i.Good R n) : ((dM i.op).a = true → 0 ≤ i.a ∧ i.a < R) ∧ ((dM i.op).b = true → 0 ≤ i.b ∧ i.b < R) ∧ ((dM i.op).c = true → 0 ≤ i.c ∧ i.c < R) := by
 obtain ⟨h1, h2, h3⟩ := aIl h.ok2.ok.op
 exact ⟨fun f => h.ok2.ok.a (h1 f).1 (h1 f).2, fun f => h.ok2.ok.b (h2 f), fun f => h.ok2.ok.c (h3 f)⟩
def LY.lkA (L : LY) (ws : List WI) (x : Int) : List (Int × Int) :=
 if (ws.getD x.toNat default).op = 15 ∨ (ws.getD x.toNat default).op = 16 then []
 else L.rdsL (L.at_ ws x.toNat) (ws.getD x.toNat default) ++ ([(1, ((L.at_ ws x.toNat + (L.rds (ws.getD x.toNat default)).length : Nat) : Int))] ++ (if (dM (ws.getD x.toNat default).op).d = true then L.rdL (L.at_ ws x.toNat + ((L.rds (ws.getD x.toNat default)).length + 1)) (ws.getD x.toNat default).d else []))
def LY.lkM (L : LY) (p : Nat) (i : WI) (x : Int) : List (Int × Int) :=
 L.adL p i ++ (if L.M ≤ u64 x then [(2, 1)] else [(2, 0)] ++ (if i.op = 15 then [(1, ((p + (L.adC i).length : Nat) : Int)), (3, x)] ++ L.rdL (p + ((L.adC i).length + 1)) i.d else L.rdL (p + (L.adC i).length) i.b ++ [(1, ((p + ((L.adC i).length + (L.rdC i.b 1).length) : Nat) : Int)), (3, x)]))
def LY.lkB (L : LY) (ws : List WI) (pc x : Int) : List (Int × Int) :=
 if (ws.getD pc.toNat default).op = 18 ∨ (ws.getD pc.toNat default).op = 19 then [(2, x)]
 else L.lkM (L.at_ ws pc.toNat) (ws.getD pc.toNat default) x
def LY.mlk (L : LY) (ws : List WI) : Int → List (Int × Int) → List (Int × Int)
 | _, [] => []
 | pc, (k, x) :: T => if k = 1 then L.lkA ws x ++ L.mlk ws x T else L.lkB ws pc x ++ L.mlk ws pc T
theorem aCE (L : LY) (ws : List WI) (pc x : Int) (T : List (Int × Int)) : L.mlk ws pc ((1, x) :: T) = L.lkA ws x ++ L.mlk ws x T := by
 show (if (1 : Int) = 1 then _ else _) = _
 rw [if_pos rfl]
theorem aJj (L : LY) (ws : List WI) (pc x k : Int) (hk : k ≠ 1) (T : List (Int × Int)) : L.mlk ws pc ((k, x) :: T) = L.lkB ws pc x ++ L.mlk ws pc T := by
 show (if k = 1 then _ else _) = _
 rw [if_neg hk]
def aEj (fuel : Int) (L : LY) (R S N : Nat) (ws : List WI) (s q s2 : MS) (b : Bool) : Prop :=
 ∃ (m : Nat) (q2 : MS) (Y X : List (Int × Int)), m ≤ 9 ∧ s2.leaks = s.leaks ++ Y ∧ q2.leaks = q.leaks ++ X ∧ (∀ pc T, L.mlk ws pc (Y ++ T) = X ++ L.mlk ws s.at_ T) ∧ q2.steps ≤ q.steps + 8 ∧ RelA L R S N s2.regs s2.mem q2.regs q2.mem ∧
  (b = true → lQ (L.out ws) fuel q m q2 ∧ q2.at_ = L.at_ ws s2.at_) ∧ (b = false → aDo (L.out ws) fuel q m q2 ∧ q2.code = s2.code)
section
variable {L : LY} {R S N : Nat} {sr sm qr qm : List Nat} {ws : List WI} {fuel : Int} {sa : Nat} {sc cd : Int} {slk lk : List (Int × Int)} {sst st : Nat} {i : WI}
theorem aAp (L : LY) (ws : List WI) {j : Nat} (hj : j < ws.length) (hi : ws.getD j default = i) : AtC (L.out ws) (L.place ws) (L.at_ ws j) (L.one i) := fun t x ht => by
 subst hi
 exact aKn L ws j hj ht
theorem aGJ (hi : ws.getD sa default = i) (h : ¬ (i.op = 15 ∨ i.op = 16)) : L.lkA ws sa = L.rdsL (L.at_ ws sa) i ++ ([(1, ((L.at_ ws sa + (L.rds i).length : Nat) : Int))] ++ (if (dM i.op).d = true then L.rdL (L.at_ ws sa + ((L.rds i).length + 1)) i.d else [])) := by
 unfold LY.lkA
 rw [Int.toNat_natCast, hi, if_neg h]
theorem pO (L : LY) (h : ¬ (i.op = 15 ∨ i.op = 16)) : L.one i = L.rds i ++ ([L.ins i] ++ L.wrs i) := by
 unfold LY.one
 rw [if_neg (by omega), if_neg (by omega)]
theorem aFQ (hL : L.Ok R S N) (h : RelA L R S N sr sm qr qm) (hj : sa < ws.length) (hi : ws.getD sa default = i) (hg : i.Good R ws.length) (ho : 1 ≤ i.op ∧ i.op ≤ 14) (hs : (st : Int) + 8 < fuel) :
  ∃ s2 b, MS.step (MS.tick ⟨sr, sa, sc, sm, slk, sst⟩) i = (s2, b) ∧ aEj fuel L R S N ws ⟨sr, sa, sc, sm, slk, sst⟩ ⟨qr, L.at_ ws sa, cd, qm, lk, st⟩ s2 b := by
 have hn : ¬ (i.op = 15 ∨ i.op = 16) := by omega
 have hC := aAp L ws hj hi
 have hlk := aGJ (L := L) hi hn
 have hsu := aAq L ws sa hj
 rw [hi] at hsu
 rw [pO L hn] at hC hsu
 obtain ⟨ga, gb, gc⟩ := tC hg
 have hd := hg.ok2.ok.d (by omega)
 have hfd := aKP (op := i.op) ⟨by omega, by omega⟩
 have l7 := aFd L i
 have l6 : (L.rds i).length ≤ 3 := by
  have h4 := mJ L (dM i.op).a i.a 1
  have h5 := mJ L (dM i.op).b i.b 2
  have h6 := mJ L (dM i.op).c i.c 3
  unfold LY.rds; simp only [List.length_append]; omega
 obtain ⟨r2, g1, h1, va, vb, vc⟩ := aGt hL h ga gb gc hC.left (cd := cd) (lk := lk) (st := st) (fuel := fuel) (by omega)
 have hv := aFb (n := i.k) (a := jT sr i.a) (b := jT sr i.b) (c := jT sr i.c) ho hg.ok2.sh
 have hsame := aFR ho i.k va vb vc
 have a0 := hC.right.left.head (by show ¬ (i.op = 17 ∨ i.op = 18 ∨ i.op = 19); omega)
 have hstep := aHE (r := sr) (p := sa) (cd := sc) (mem := sm) (lk := slk) (st := sst) (d := i.d) (a := i.a) (b := i.b) (c := i.c) (k := i.k) ho hv
 have hx : jN i.op i.k (jT sr i.a) (jT sr i.b) (jT sr i.c) = ((jN i.op i.k (jT sr i.a) (jT sr i.b) (jT sr i.c)).1, true) := by
  rw [← hv]
 have s1 := vY (r := r2) (cd := cd) (mem := qm) (lk := lk ++ L.rdsL (L.at_ ws sa) i) (st := st + (L.rds i).length) (fuel := fuel) a0 ho (hsame.trans hx) (by push_cast; omega)
 generalize (jN i.op i.k (jT sr i.a) (jT sr i.b) (jT sr i.c)).1 = x at *
 rw [if_pos hfd] at s1 hlk
 have hw := hC.right.right
 have ew : L.wrs i = L.wrC i.d := by unfold LY.wrs; rw [if_pos hfd]
 rw [ew] at hw l7 hsu
 obtain ⟨r3, m3, g3, h3⟩ := aJf hL h1 hd x hw (cd := cd) (lk := lk ++ L.rdsL (L.at_ ws sa) i ++ [(1, ((L.at_ ws sa + (L.rds i).length : Nat) : Int))]) (st := st + (L.rds i).length + 1) (fuel := fuel) (by push_cast; omega)
 have g := (g1.trans s1).trans g3
 refine ⟨_, _, hstep, _, _, [(1, (sa : Int))], L.lkA ws sa, ?_, rfl, ?_, fun pc T => aCE L ws pc sa T, ?_, h3, fun _ => ⟨g, ?_⟩, fun e => by cases e⟩
 ·omega
 ·rw [hlk]
  simp only [List.append_assoc, List.length_singleton, Nat.add_assoc]
 ·show st + (L.rds i).length + 1 + (L.wrC i.d).length ≤ st + 8
  omega
 ·show L.at_ ws sa + (L.rds i).length + 1 + (L.wrC i.d).length = L.at_ ws (sa + 1)
  rw [hsu]
  simp only [List.length_append, List.length_singleton]; omega
theorem aHI (hL : L.Ok R S N) (h : RelA L R S N sr sm qr qm) (hj : sa < ws.length) (hi : ws.getD sa default = i) (hg : i.Good R ws.length) (ho : 17 ≤ i.op ∧ i.op ≤ 20) (hs : (st : Int) + 8 < fuel) :
  ∃ s2 b, MS.step (MS.tick ⟨sr, sa, sc, sm, slk, sst⟩) i = (s2, b) ∧ aEj fuel L R S N ws ⟨sr, sa, sc, sm, slk, sst⟩ ⟨qr, L.at_ ws sa, cd, qm, lk, st⟩ s2 b := by
 have hn : ¬ (i.op = 15 ∨ i.op = 16) := by omega
 have hC := aAp L ws hj hi
 have hlk := aGJ (L := L) hi hn
 have hsu := aAq L ws sa hj
 rw [hi] at hsu
 rw [pO L hn] at hC hsu
 obtain ⟨ga, gb, gc⟩ := tC hg
 have hfd : ¬ (dM i.op).d = true := by
  have : i.op = 17 ∨ i.op = 18 ∨ i.op = 19 ∨ i.op = 20 := by omega
  rcases this with e | e | e | e <;> rw [e] <;> decide
 have ew : L.wrs i = [] := by unfold LY.wrs; rw [if_neg hfd]
 rw [ew] at hsu
 rw [if_neg hfd] at hlk
 have l6 : (L.rds i).length ≤ 3 := by
  have h4 := mJ L (dM i.op).a i.a 1
  have h5 := mJ L (dM i.op).b i.b 2
  have h6 := mJ L (dM i.op).c i.c 3
  unfold LY.rds; simp only [List.length_append]; omega
 obtain ⟨r2, g1, h1, va, vb, vc⟩ := aGt hL h ga gb gc hC.left (cd := cd) (lk := lk) (st := st) (fuel := fuel) (by omega)
 have a0 := hC.right.left 0 (L.ins i) rfl
 have hk := hg.ok2.ok.k
 have hsuc : L.at_ ws (sa + 1) = L.at_ ws sa + (L.rds i).length + 1 := by
  rw [hsu]; simp only [List.length_append, List.length_singleton, List.length_nil]; omega
 clear hC hsu
 obtain ⟨op, d, a, b, c, k⟩ := i
 simp only at ho hk
 by_cases h20 : op = 20
 ·subst h20
  have e : jS (L.place ws) (L.out ws).length (L.ins ⟨20, d, a, b, c, k⟩) = ⟨20, d, a, b, c, k⟩ := rfl
  rw [e] at a0
  have s1 := aJK (r := r2) (cd := cd) (mem := qm) (lk := lk ++ L.rdsL (L.at_ ws sa) ⟨20, d, a, b, c, k⟩) (st := st + (L.rds ⟨20, d, a, b, c, k⟩).length) (fuel := fuel) a0 (by push_cast; omega)
  refine ⟨_, _, aHD, _, _, [(1, (sa : Int))], L.lkA ws sa, ?_, rfl, ?_, fun pc T => aCE L ws pc sa T, ?_, h1, (fun e => by cases e), fun _ => ⟨g1.ends s1, rfl⟩⟩
  ·omega
  ·rw [hlk]
   simp only [List.append_assoc, List.append_nil, Nat.add_zero]
  ·show st + (L.rds _).length + 1 ≤ st + 8
   omega
 have hk' := hk (by omega) (by omega)
 have ek : L.at_ ws k.toNat = (L.place ws).getD k.toNat 0 := (zP L ws _ (by omega)).symm
 have hbr : op = 17 ∨ op = 18 ∨ op = 19 := by omega
 have e : jS (L.place ws) (L.out ws).length (L.ins ⟨op, d, a, b, c, k⟩) = ⟨op, d, L.rR (dM op).a a 1, L.rR (dM op).b b 2, L.rR (dM op).c c 3, ((L.at_ ws k.toNat : Nat) : Int)⟩ := by
  unfold jS LY.ins
  simp only
  rw [if_pos hbr, if_neg (by omega), if_neg hfd, ek]
 rw [e] at a0
 by_cases h17 : op = 17
 ·subst h17
  have s1 := aKM (r := r2) (cd := cd) (mem := qm) (lk := lk ++ L.rdsL (L.at_ ws sa) ⟨17, d, a, b, c, k⟩) (st := st + (L.rds ⟨17, d, a, b, c, k⟩).length) (fuel := fuel) a0 (by push_cast; omega)
  rw [Int.toNat_natCast] at s1
  refine ⟨_, _, aJB, _, _, [(1, (sa : Int))], L.lkA ws sa, ?_, rfl, ?_, fun pc T => aCE L ws pc sa T, ?_, h1, fun _ => ⟨g1.trans s1, rfl⟩, fun e => by cases e⟩
  ·omega
  ·rw [hlk]
   simp only [List.append_assoc, List.append_nil, Nat.add_zero]
  ·show st + (L.rds _).length + 1 ≤ st + 8
   omega
 have h89 : op = 18 ∨ op = 19 := by omega
 have hfa : (dM op).a = true := by rcases h89 with e | e <;> rw [e] <;> rfl
 obtain ⟨g, hgd⟩ : ∃ g, (decide (jT sr a = 0) == decide (op = 18)) = g := ⟨_, rfl⟩
 have s1 := aIY (r := r2) (cd := cd) (mem := qm) (lk := lk ++ L.rdsL (L.at_ ws sa) ⟨op, d, a, b, c, k⟩) (st := st + (L.rds ⟨op, d, a, b, c, k⟩).length) (fuel := fuel) a0 h89 g (by rw [va hfa]; exact hgd) (by push_cast; omega)
 rw [Int.toNat_natCast] at s1
 refine ⟨_, _, aJC h89 g hgd, _, _, [(1, (sa : Int)), (2, if g = true then 1 else 0)], L.lkA ws sa ++ [(2, if g = true then 1 else 0)], ?_, by show _ ++ _ ++ _ = _; simp only [List.append_assoc, List.cons_append, List.nil_append], ?_, fun pc T => ?_, ?_, h1, fun _ => ⟨g1.trans s1, ?_⟩, fun e => by cases e⟩
 ·omega
 ·rw [hlk]
  simp only [List.append_assoc, List.append_nil, Nat.add_zero]
 ·rw [List.cons_append, aCE, List.singleton_append, aJj _ _ _ _ _ (by decide), List.append_assoc]
  congr 1
  unfold LY.lkB
  rw [Int.toNat_natCast, hi, if_pos h89]
 ·show st + (L.rds _).length + 1 ≤ st + 8
  omega
 ·cases g
  ·exact hsuc.symm
  ·rfl
theorem aFP (hL : L.Ok R S N) (h : RelA L R S N sr sm qr qm) (hj : sa < ws.length) (hi : ws.getD sa default = i) (hg : i.Good R ws.length) (ho : i.op = 15 ∨ i.op = 16) (hs : (st : Int) + 8 < fuel) :
  ∃ s2 b, MS.step (MS.tick ⟨sr, sa, sc, sm, slk, sst⟩) i = (s2, b) ∧ aEj fuel L R S N ws ⟨sr, sa, sc, sm, slk, sst⟩ ⟨qr, L.at_ ws sa, cd, qm, lk, st⟩ s2 b := by
 have hC := aAp L ws hj hi
 have hsu := aAq L ws sa hj
 rw [hi] at hsu
 have ha := hg.ok2.ok.a (by omega) (by omega)
 have hb := hg.ok2.ok.b (by omega)
 have hd := hg.ok2.ok.d (by omega)
 have hN := hL.n
 have hMN := hL.mn
 have lad := vC L i
 have lra := iG L i.a 1
 have lrb := iG L i.b 1
 have lwd := aBF L i.d
 have hml : ∀ pc x T, L.mlk ws pc ([(1, (sa : Int)), (3, x)] ++ T) = L.lkM (L.at_ ws sa) i x ++ L.mlk ws sa T := fun pc x T => by
  have eA : L.lkA ws sa = [] := by unfold LY.lkA; rw [Int.toNat_natCast, hi, if_pos ho]
  have eB : L.lkB ws sa x = L.lkM (L.at_ ws sa) i x := by unfold LY.lkB; rw [Int.toNat_natCast, hi, if_neg (by omega)]
  rw [List.cons_append, aCE, List.singleton_append, aJj _ _ _ _ _ (by decide), eA, eB]; rfl
 obtain ⟨y, hy⟩ : ∃ y, (jT sr i.a + u64 i.k) % 18446744073709551616 = y := ⟨_, rfl⟩
 have hyl : y < 18446744073709551616 := by rw [← hy]; exact Nat.mod_lt _ (by decide)
 have uy := aIJ y hyl
 have hCa : AtC (L.out ws) (L.place ws) (L.at_ ws sa) (L.adC i) := by
  rcases ho with e | e
  ·unfold LY.one at hC; rw [if_pos e] at hC; exact hC.left
  ·unfold LY.one at hC; rw [if_neg (by omega), if_pos e] at hC; exact hC.left
 obtain ⟨g, hgd⟩ : ∃ g, decide (L.M ≤ (jT sr i.a + u64 i.k) % 18446744073709551616) = g := ⟨_, rfl⟩
 obtain ⟨r2, g1, h1, x2⟩ := aKT hL h ha hCa (cd := cd) (lk := lk) (st := st) (fuel := fuel) (by omega) g hgd
 rw [hy] at x2 hgd
 cases g with
 | true =>
  have hMy : L.M ≤ y := of_decide_eq_true hgd
  rw [if_pos rfl, if_pos rfl] at g1
  have s1 := aGg (cs := L.out ws) (fuel := fuel) (r := r2) (cd := cd) (mem := qm) (lk := lk ++ (L.adL (L.at_ ws sa) i ++ [(2, 1)])) (st := st + (L.adC i).length) (Nat.le_refl (L.out ws).length)
  have hf := aKt (r := sr) (p := sa) (cd := sc) (mem := sm) (lk := slk) (st := sst) (d := i.d) (b := i.b) (c := i.c) ho hy (by rw [h.sml]; exact hMy)
  refine ⟨_, _, hf, _, _, [(1, (sa : Int)), (3, qE y)], L.lkM (L.at_ ws sa) i (qE y), ?_, by show _ ++ _ ++ _ = _; simp only [List.append_assoc, List.cons_append, List.nil_append], ?_, fun pc T => hml pc _ T, ?_, h1, (fun e => by cases e), fun _ => ⟨g1.ends s1, rfl⟩⟩
  ·omega
  ·unfold LY.lkM
   rw [uy, if_pos hMy]
  ·show st + (L.adC i).length ≤ st + 8
   omega
 | false =>
  have hMy : y < L.M := by have := of_decide_eq_false hgd; omega
  simp only [Bool.false_eq_true, if_false] at g1
  have hyq : y < qm.length := by rw [h.qml]; omega
  have ym := h.mem y hMy
  have add0 : ∀ r : List Nat, jT r 2 = y → (jT r 2 + u64 0) % 18446744073709551616 = y := fun r hr => by
   rw [hr, show u64 0 = 0 from rfl]; omega
  have elk : L.lkM (L.at_ ws sa) i (qE y) = L.adL (L.at_ ws sa) i ++ ([(2, 0)] ++ (if i.op = 15 then [(1, ((L.at_ ws sa + (L.adC i).length : Nat) : Int)), (3, qE y)] ++ L.rdL (L.at_ ws sa + ((L.adC i).length + 1)) i.d else L.rdL (L.at_ ws sa + (L.adC i).length) i.b ++ [(1, ((L.at_ ws sa + ((L.adC i).length + (L.rdC i.b 1).length) : Nat) : Int)), (3, qE y)])) := by
   unfold LY.lkM
   rw [uy, if_neg (by omega)]
  rcases ho with h15 | h16
  ·have eo : L.one i = L.adC i ++ ([⟨15, L.wrR i.d, 2, 0, 0, 0⟩] ++ L.wrC i.d) := by unfold LY.one; rw [if_pos h15]
   rw [eo] at hC hsu
   rw [if_pos h15] at elk
   have a0 := hC.right.left.head (by show ¬ ((15 : Int) = 17 ∨ (15 : Int) = 18 ∨ (15 : Int) = 19); decide)
   have s1 := aIZ (r := r2) (cd := cd) (mem := qm) (lk := lk ++ (L.adL (L.at_ ws sa) i ++ [(2, 0)])) (st := st + (L.adC i).length) (fuel := fuel) a0 (add0 r2 x2) hyq (by push_cast; omega)
   rw [ym] at s1
   obtain ⟨r3, m3, g3, h3⟩ := aJf hL h1 hd (sm.getD y 0) hC.right.right (cd := cd) (lk := lk ++ (L.adL (L.at_ ws sa) i ++ [(2, 0)]) ++ [(1, ((L.at_ ws sa + (L.adC i).length : Nat) : Int))] ++ [(3, qE y)]) (st := st + (L.adC i).length + 1) (fuel := fuel) (by push_cast; omega)
   have hst := aJD (r := sr) (p := sa) (cd := sc) (mem := sm) (lk := slk) (st := sst) (d := i.d) (b := i.b) (c := i.c) hy (by rw [h.sml]; exact hMy)
   have ei : (⟨15, i.d, i.a, i.b, i.c, i.k⟩ : WI) = i := by rw [← h15]
   rw [ei] at hst
   refine ⟨_, _, hst, _, _, [(1, (sa : Int)), (3, qE y)], L.lkM (L.at_ ws sa) i (qE y), ?_, by show _ ++ _ ++ _ = _; simp only [List.append_assoc, List.cons_append, List.nil_append], ?_, fun pc T => hml pc _ T, ?_, h3, fun _ => ⟨(g1.trans s1).trans g3, ?_⟩, fun e => by cases e⟩
   ·omega
   ·rw [elk]
    simp only [List.append_assoc, List.length_singleton, Nat.add_assoc, List.cons_append, List.nil_append]
   ·show st + (L.adC i).length + 1 + (L.wrC i.d).length ≤ st + 8
    omega
   ·show L.at_ ws sa + (L.adC i).length + 1 + (L.wrC i.d).length = L.at_ ws (sa + 1)
    rw [hsu]
    simp only [List.length_append, List.length_singleton]; omega
  ·have eo : L.one i = L.adC i ++ (L.rdC i.b 1 ++ [⟨16, 0, 2, L.rdR i.b 1, 0, 0⟩]) := by unfold LY.one; rw [if_neg (by omega), if_pos h16]
   rw [eo] at hC hsu
   rw [if_neg (by omega)] at elk
   obtain ⟨r3, g2, l3, e3, v3⟩ := aGs hL h1 hb (into := 1) (by decide) hC.right.left (cd := cd) (lk := lk ++ (L.adL (L.at_ ws sa) i ++ [(2, 0)])) (st := st + (L.adC i).length) (fuel := fuel) (by push_cast; omega)
   have h3 : RelA L R S N sr sm r3 qm := h1.scr hL l3 (fun j hj => e3 j (by show j ≠ 1; omega))
   have x3 : jT r3 2 = y := by
    rw [← x2]; exact e3 2 (by decide)
   have a0 := hC.right.right.head (by show ¬ ((16 : Int) = 17 ∨ (16 : Int) = 18 ∨ (16 : Int) = 19); decide)
   have s1 := aJa (r := r3) (cd := cd) (mem := qm) (lk := lk ++ (L.adL (L.at_ ws sa) i ++ [(2, 0)]) ++ L.rdL (L.at_ ws sa + (L.adC i).length) i.b) (st := st + (L.adC i).length + (L.rdC i.b 1).length) (fuel := fuel) a0 (add0 r3 x3) hyq (by push_cast; omega)
   rw [v3] at s1
   have hst := aJE (r := sr) (p := sa) (cd := sc) (mem := sm) (lk := slk) (st := sst) (d := i.d) (b := i.b) (c := i.c) hy (by rw [h.sml]; exact hMy)
   have ei : (⟨16, i.d, i.a, i.b, i.c, i.k⟩ : WI) = i := by rw [← h16]
   rw [ei] at hst
   refine ⟨_, _, hst, _, _, [(1, (sa : Int)), (3, qE y)], L.lkM (L.at_ ws sa) i (qE y), ?_, by show _ ++ _ ++ _ = _; simp only [List.append_assoc, List.cons_append, List.nil_append], ?_, fun pc T => hml pc _ T, ?_, h3.store hL hMy, fun _ => ⟨(g1.trans g2).trans s1, ?_⟩, fun e => by cases e⟩
   ·omega
   ·rw [elk]
    simp only [List.append_assoc, List.length_singleton, Nat.add_assoc, List.cons_append, List.nil_append]
   ·show st + (L.adC i).length + (L.rdC i.b 1).length + 1 ≤ st + 8
    omega
   ·show L.at_ ws sa + (L.adC i).length + (L.rdC i.b 1).length + 1 = L.at_ ws (sa + 1)
    rw [hsu]
    simp only [List.length_append, List.length_singleton]; omega
theorem aFO (hL : L.Ok R S N) (h : RelA L R S N sr sm qr qm) (hj : sa < ws.length) (hi : ws.getD sa default = i) (hg : i.Good R ws.length) (hs : (st : Int) + 8 < fuel) :
  ∃ s2 b, MS.step (MS.tick ⟨sr, sa, sc, sm, slk, sst⟩) i = (s2, b) ∧ aEj fuel L R S N ws ⟨sr, sa, sc, sm, slk, sst⟩ ⟨qr, L.at_ ws sa, cd, qm, lk, st⟩ s2 b := by
 have h20 := hg.ok2.ok.op
 by_cases h1 : i.op ≤ 14
 ·exact aFQ hL h hj hi hg ⟨h20.1, h1⟩ hs
 by_cases h2 : 17 ≤ i.op
 ·exact aHI hL h hj hi hg ⟨h2, h20.2⟩ hs
 ·exact aFP hL h hj hi hg (by omega) hs
end
section
variable (A : AX) (s : LS) (G : aF) (k : Nat)
def TT (w i : WI) (f : Frm) : aB := [⟨29, 6, [w.v]⟩, ⟨29, 6, [i.v]⟩, ⟨100, 6, [fW (cK w.op) f]⟩]
theorem iK (w i : WI) (f : Frm) : Pl (TT w i f) := fun n => by simp [TT, dI, cI, cB, WI.v, fW]
theorem yH (w : WI) : Pl [⟨29, 6, [w.v]⟩] := fun n => by simp [dI, cI, cB, WI.v]
theorem iN (s : LS) (l : List WI) : (s.put l).out.length = s.out.length + l.length := by simp [LS.put]
theorem aLb (hW : A.W) (w : WI) {fk : Bool} (F : Frm) (hF : F = ⟨false, false, false, false, fk⟩) (hf : dM w.op = F) (hn : ¬ (w.op = 15 ∨ w.op = 16)) (ha : F.a = true → 0 ≤ w.a ∧ w.a < A.R) (hb : F.b = true → 0 ≤ w.b ∧ w.b < A.R) (hc : F.c = true → 0 ≤ w.c ∧ w.c < A.R) (hd : F.d = true → 0 ≤ w.d ∧ w.d < A.R) (hs : s.out.length ≤ 800000) :
  bD (aZ.f G (k + 10)) [BX, w.v] (A.hp s [⟨29, 6, [w.v]⟩]) = some (.tup [], A.hp (s.put (A.L.one w)) [⟨29, 6, [w.v]⟩]) := by
 apply kE
 rw [aZ.step]
 unfold aZ.c
 rw [kF]
 have r0 : ∀ H, aW (dY.f G (k + 9)) [I6 w.op] H = _ := fun H => cG (H := H) (iO G (k + 5) w.op) rfl rfl
 rw [hf] at r0
 have b1 : fR 29 w.v (A.hp s [⟨29, 6, [w.v]⟩]) = some (.ptr 11 1 0 0, A.hp s [⟨29, 6, [w.v]⟩, ⟨29, 6, [w.v]⟩]) := rfl
 have b2 : fR 100 (.agg [(.str ⟨#[]⟩), (.bool false), (.bool false), (.bool false), (.bool false), (.bool false)]) (A.hp s [⟨29, 6, [w.v]⟩, ⟨29, 6, [w.v]⟩]) = some (.ptr 12 1 0 0, A.hp s [⟨29, 6, [w.v]⟩, ⟨29, 6, [w.v]⟩, ⟨100, 6, [(.agg [(.str ⟨#[]⟩), (.bool false), (.bool false), (.bool false), (.bool false), (.bool false)])]⟩]) := rfl
 have st : fM (aV 6 (.ptr 12 1 0 0) (fW (cK w.op) F) (A.hp s [⟨29, 6, [w.v]⟩, ⟨29, 6, [w.v]⟩, ⟨100, 6, [(.agg [(.str ⟨#[]⟩), (.bool false), (.bool false), (.bool false), (.bool false), (.bool false)])]⟩])) = some (.tup [], A.hp s (TT w w F)) := rfl
 have fi0 : aA 0 (.ptr 11 1 0 0) = some (.ptr 11 1 0 0) := rfl
 have fi1 : aA 1 (.ptr 11 1 0 0) = some (.ptr 11 1 0 1) := rfl
 have fi2 : aA 2 (.ptr 11 1 0 0) = some (.ptr 11 1 0 2) := rfl
 have fi3 : aA 3 (.ptr 11 1 0 0) = some (.ptr 11 1 0 3) := rfl
 have fi4 : aA 4 (.ptr 11 1 0 0) = some (.ptr 11 1 0 4) := rfl
 have fi5 : aA 5 (.ptr 11 1 0 0) = some (.ptr 11 1 0 5) := rfl
 have ff1 : aA 1 (.ptr 12 1 0 0) = some (.ptr 12 1 0 1) := rfl
 have ff2 : aA 2 (.ptr 12 1 0 0) = some (.ptr 12 1 0 2) := rfl
 have ff3 : aA 3 (.ptr 12 1 0 0) = some (.ptr 12 1 0 3) := rfl
 have ff4 : aA 4 (.ptr 12 1 0 0) = some (.ptr 12 1 0 4) := rfl
 have l0 : aE G false 1 (.ptr 11 1 0 0) (A.hp s (TT w w F)) = some (I6 w.op) := rfl
 have l0' : aE G false 1 (.ptr 11 1 0 0) (A.hp s [⟨29, 6, [w.v]⟩, ⟨29, 6, [w.v]⟩]) = some (I6 w.op) := rfl
 have eo := pO A.L hn
 have q15 : aX Tryd.prog .eql 3 true (I6 w.op) (.int .i64 15) = some (.bool false) := gV (by omega)
 have q16 : aX Tryd.prog .eql 3 true (I6 w.op) (.int .i64 16) = some (.bool false) := gV (by omega)
 have h0 : s.out.length ≤ 800000 := hs
 have lfa : aE G false 1 (.ptr 12 1 0 2) (A.hp s (TT w w F)) = some (.bool F.a) := rfl
 have lfb : aE G false 1 (.ptr 12 1 0 3) (A.hp s (TT w w F)) = some (.bool F.b) := rfl
 have lfc : aE G false 1 (.ptr 12 1 0 4) (A.hp s (TT w w F)) = some (.bool F.c) := rfl
 have lfd : aE G false 1 (.ptr 12 1 0 1) (A.hp s (TT w w F)) = some (.bool F.d) := rfl
 have l6 : aE G true 6 (.ptr 11 1 0 0) (A.hp s (TT w w F)) = some (WI.v w) := rfl
 have pt := iC A s (TT w w F) G (k + 8) (iK w w F) w (by omega)
 have ein : A.L.ins w = ⟨w.op, w.d, w.a, w.b, w.c, w.k⟩ := by unfold LY.ins LY.rR; rw [hf, hF]; rfl
 have erd : A.L.rds w = [] := by unfold LY.rds LY.rC; rw [hf, hF]; simp
 have ewr : A.L.wrs w = [] := by unfold LY.wrs; rw [hf, hF]; rfl
 rw [ein, erd, ewr] at eo
 obtain ⟨sp, esp⟩ : ∃ t, t = s.put [⟨w.op, w.d, w.a, w.b, w.c, w.k⟩] := ⟨_, rfl⟩
 rw [← esp] at pt
 have es : s.put (A.L.one w) = sp := by rw [eo, esp]; simp only [lY, List.append_assoc, List.nil_append, List.append_nil]
 have fin := aAM A sp [⟨29, 6, [w.v]⟩] [⟨29, 6, [WI.v w]⟩, ⟨100, 6, [fW (cK w.op) F]⟩] (yH w)
 rw [es]
 have eT : [⟨29, 6, [w.v]⟩] ++ [⟨29, 6, [WI.v w]⟩, ⟨100, 6, [fW (cK w.op) F]⟩] = TT w w F := rfl
 rw [eT] at fin
 clear es eT eo ein erd ewr esp
 have gd : F.d = false := by rw [hF]
 have ga : F.a = false := by rw [hF]
 have gb : F.b = false := by rw [hF]
 have gc : F.c = false := by rw [hF]
 rw [gd] at lfd
 rw [ga] at lfa
 rw [gb] at lfb
 rw [gc] at lfc
 clear gd ga gb gc hF ha hb hc hd
 refine gQ ?_
 have fx := aMv iQ <| aMv r0 <| aMv b1 <| aMv b2 <| aMv st <| aMv fi0 <| aMv fi1 <| aMv fi2 <| aMv fi3 <| aMv fi4 <| aMv fi5 <| aMv ff1 <| aMv ff2 <| aMv ff3 <| aMv ff4 <| aMv l0 <| aMv l0' <| aMv q15 <| aMv q16 <| aMv lfa <| aMv lfb <| aMv lfc <| aMv lfd <| aMv l6 <| pt
 refine gT ?_
 exact oF fin
theorem aLc (hW : A.W) (w : WI) {fk : Bool} (F : Frm) (hF : F = ⟨false, true, false, false, fk⟩) (hf : dM w.op = F) (hn : ¬ (w.op = 15 ∨ w.op = 16)) (ha : F.a = true → 0 ≤ w.a ∧ w.a < A.R) (hb : F.b = true → 0 ≤ w.b ∧ w.b < A.R) (hc : F.c = true → 0 ≤ w.c ∧ w.c < A.R) (hd : F.d = true → 0 ≤ w.d ∧ w.d < A.R) (hs : s.out.length ≤ 800000) :
  bD (aZ.f G (k + 10)) [BX, w.v] (A.hp s [⟨29, 6, [w.v]⟩]) = some (.tup [], A.hp (s.put (A.L.one w)) [⟨29, 6, [w.v]⟩]) := by
 apply kE
 rw [aZ.step]
 unfold aZ.c
 rw [kF]
 have r0 : ∀ H, aW (dY.f G (k + 9)) [I6 w.op] H = _ := fun H => cG (H := H) (iO G (k + 5) w.op) rfl rfl
 rw [hf] at r0
 have b1 : fR 29 w.v (A.hp s [⟨29, 6, [w.v]⟩]) = some (.ptr 11 1 0 0, A.hp s [⟨29, 6, [w.v]⟩, ⟨29, 6, [w.v]⟩]) := rfl
 have b2 : fR 100 (.agg [(.str ⟨#[]⟩), (.bool false), (.bool false), (.bool false), (.bool false), (.bool false)]) (A.hp s [⟨29, 6, [w.v]⟩, ⟨29, 6, [w.v]⟩]) = some (.ptr 12 1 0 0, A.hp s [⟨29, 6, [w.v]⟩, ⟨29, 6, [w.v]⟩, ⟨100, 6, [(.agg [(.str ⟨#[]⟩), (.bool false), (.bool false), (.bool false), (.bool false), (.bool false)])]⟩]) := rfl
 have st : fM (aV 6 (.ptr 12 1 0 0) (fW (cK w.op) F) (A.hp s [⟨29, 6, [w.v]⟩, ⟨29, 6, [w.v]⟩, ⟨100, 6, [(.agg [(.str ⟨#[]⟩), (.bool false), (.bool false), (.bool false), (.bool false), (.bool false)])]⟩])) = some (.tup [], A.hp s (TT w w F)) := rfl
 have fi0 : aA 0 (.ptr 11 1 0 0) = some (.ptr 11 1 0 0) := rfl
 have fi1 : aA 1 (.ptr 11 1 0 0) = some (.ptr 11 1 0 1) := rfl
 have fi2 : aA 2 (.ptr 11 1 0 0) = some (.ptr 11 1 0 2) := rfl
 have fi3 : aA 3 (.ptr 11 1 0 0) = some (.ptr 11 1 0 3) := rfl
 have fi4 : aA 4 (.ptr 11 1 0 0) = some (.ptr 11 1 0 4) := rfl
 have fi5 : aA 5 (.ptr 11 1 0 0) = some (.ptr 11 1 0 5) := rfl
 have ff1 : aA 1 (.ptr 12 1 0 0) = some (.ptr 12 1 0 1) := rfl
 have ff2 : aA 2 (.ptr 12 1 0 0) = some (.ptr 12 1 0 2) := rfl
 have ff3 : aA 3 (.ptr 12 1 0 0) = some (.ptr 12 1 0 3) := rfl
 have ff4 : aA 4 (.ptr 12 1 0 0) = some (.ptr 12 1 0 4) := rfl
 have l0 : aE G false 1 (.ptr 11 1 0 0) (A.hp s (TT w w F)) = some (I6 w.op) := rfl
 have l0' : aE G false 1 (.ptr 11 1 0 0) (A.hp s [⟨29, 6, [w.v]⟩, ⟨29, 6, [w.v]⟩]) = some (I6 w.op) := rfl
 have eo := pO A.L hn
 have q15 : aX Tryd.prog .eql 3 true (I6 w.op) (.int .i64 15) = some (.bool false) := gV (by omega)
 have q16 : aX Tryd.prog .eql 3 true (I6 w.op) (.int .i64 16) = some (.bool false) := gV (by omega)
 have h0 : s.out.length ≤ 800000 := hs
 have lfa : aE G false 1 (.ptr 12 1 0 2) (A.hp s (TT w w F)) = some (.bool F.a) := rfl
 have va := ha (by rw [hF])
 have lia : aE G false 1 (.ptr 11 1 0 2) (A.hp s (TT w w F)) = some (I6 w.a) := rfl
 have rda := jG A s (TT w w F) G (k + 7) hW (iK w w F) w.a 1 va (by omega)
 have lna := iG A.L w.a 1
 obtain ⟨sa, esa⟩ : ∃ t, t = s.put (A.L.rdC w.a 1) := ⟨_, rfl⟩
 rw [← esa] at rda
 have hsa : sa.out.length ≤ 800001 := by rw [esa, iN]; omega
 have sta : fM (aV 1 (.ptr 11 1 0 2) (I6 (A.L.rdR w.a 1)) (A.hp sa (TT w w F))) = some (.tup [], A.hp sa (TT w ⟨w.op, w.d, (A.L.rdR w.a 1), w.b, w.c, w.k⟩ F)) := rfl
 have lfb : aE G false 1 (.ptr 12 1 0 3) (A.hp sa (TT w ⟨w.op, w.d, (A.L.rdR w.a 1), w.b, w.c, w.k⟩ F)) = some (.bool F.b) := rfl
 have lfc : aE G false 1 (.ptr 12 1 0 4) (A.hp sa (TT w ⟨w.op, w.d, (A.L.rdR w.a 1), w.b, w.c, w.k⟩ F)) = some (.bool F.c) := rfl
 have lfd : aE G false 1 (.ptr 12 1 0 1) (A.hp sa (TT w ⟨w.op, w.d, (A.L.rdR w.a 1), w.b, w.c, w.k⟩ F)) = some (.bool F.d) := rfl
 have l6 : aE G true 6 (.ptr 11 1 0 0) (A.hp sa (TT w ⟨w.op, w.d, (A.L.rdR w.a 1), w.b, w.c, w.k⟩ F)) = some (WI.v ⟨w.op, w.d, (A.L.rdR w.a 1), w.b, w.c, w.k⟩) := rfl
 have pt := iC A sa (TT w ⟨w.op, w.d, (A.L.rdR w.a 1), w.b, w.c, w.k⟩ F) G (k + 8) (iK w ⟨w.op, w.d, (A.L.rdR w.a 1), w.b, w.c, w.k⟩ F) ⟨w.op, w.d, (A.L.rdR w.a 1), w.b, w.c, w.k⟩ (by omega)
 have ein : A.L.ins w = ⟨w.op, w.d, (A.L.rdR w.a 1), w.b, w.c, w.k⟩ := by unfold LY.ins LY.rR; rw [hf, hF]; rfl
 have erd : A.L.rds w = A.L.rdC w.a 1 := by unfold LY.rds LY.rC; rw [hf, hF]; simp
 have ewr : A.L.wrs w = [] := by unfold LY.wrs; rw [hf, hF]; rfl
 rw [ein, erd, ewr] at eo
 obtain ⟨sp, esp⟩ : ∃ t, t = sa.put [⟨w.op, w.d, (A.L.rdR w.a 1), w.b, w.c, w.k⟩] := ⟨_, rfl⟩
 rw [← esp] at pt
 have es : s.put (A.L.one w) = sp := by rw [eo, esp, esa]; simp only [lY, List.append_assoc, List.nil_append, List.append_nil]
 have fin := aAM A sp [⟨29, 6, [w.v]⟩] [⟨29, 6, [WI.v ⟨w.op, w.d, (A.L.rdR w.a 1), w.b, w.c, w.k⟩]⟩, ⟨100, 6, [fW (cK w.op) F]⟩] (yH w)
 rw [es]
 have eT : [⟨29, 6, [w.v]⟩] ++ [⟨29, 6, [WI.v ⟨w.op, w.d, (A.L.rdR w.a 1), w.b, w.c, w.k⟩]⟩, ⟨100, 6, [fW (cK w.op) F]⟩] = TT w ⟨w.op, w.d, (A.L.rdR w.a 1), w.b, w.c, w.k⟩ F := rfl
 rw [eT] at fin
 clear es eT eo ein erd ewr esp esa
 have gd : F.d = false := by rw [hF]
 have ga : F.a = true := by rw [hF]
 have gb : F.b = false := by rw [hF]
 have gc : F.c = false := by rw [hF]
 rw [gd] at lfd
 rw [ga] at lfa
 rw [gb] at lfb
 rw [gc] at lfc
 clear gd ga gb gc hF ha hb hc hd
 refine gQ ?_
 have fx := aMv iQ <| aMv r0 <| aMv b1 <| aMv b2 <| aMv st <| aMv fi0 <| aMv fi1 <| aMv fi2 <| aMv fi3 <| aMv fi4 <| aMv fi5 <| aMv ff1 <| aMv ff2 <| aMv ff3 <| aMv ff4 <| aMv l0 <| aMv l0' <| aMv q15 <| aMv q16 <| aMv lfa <| aMv lia <| aMv rda <| aMv sta <| aMv lfb <| aMv lfc <| aMv lfd <| aMv l6 <| pt
 refine gT ?_
 exact oF fin
theorem aLd (hW : A.W) (w : WI) {fk : Bool} (F : Frm) (hF : F = ⟨true, false, false, false, fk⟩) (hf : dM w.op = F) (hn : ¬ (w.op = 15 ∨ w.op = 16)) (ha : F.a = true → 0 ≤ w.a ∧ w.a < A.R) (hb : F.b = true → 0 ≤ w.b ∧ w.b < A.R) (hc : F.c = true → 0 ≤ w.c ∧ w.c < A.R) (hd : F.d = true → 0 ≤ w.d ∧ w.d < A.R) (hs : s.out.length ≤ 800000) :
  bD (aZ.f G (k + 10)) [BX, w.v] (A.hp s [⟨29, 6, [w.v]⟩]) = some (.tup [], A.hp (s.put (A.L.one w)) [⟨29, 6, [w.v]⟩]) := by
 apply kE
 rw [aZ.step]
 unfold aZ.c
 rw [kF]
 have r0 : ∀ H, aW (dY.f G (k + 9)) [I6 w.op] H = _ := fun H => cG (H := H) (iO G (k + 5) w.op) rfl rfl
 rw [hf] at r0
 have b1 : fR 29 w.v (A.hp s [⟨29, 6, [w.v]⟩]) = some (.ptr 11 1 0 0, A.hp s [⟨29, 6, [w.v]⟩, ⟨29, 6, [w.v]⟩]) := rfl
 have b2 : fR 100 (.agg [(.str ⟨#[]⟩), (.bool false), (.bool false), (.bool false), (.bool false), (.bool false)]) (A.hp s [⟨29, 6, [w.v]⟩, ⟨29, 6, [w.v]⟩]) = some (.ptr 12 1 0 0, A.hp s [⟨29, 6, [w.v]⟩, ⟨29, 6, [w.v]⟩, ⟨100, 6, [(.agg [(.str ⟨#[]⟩), (.bool false), (.bool false), (.bool false), (.bool false), (.bool false)])]⟩]) := rfl
 have st : fM (aV 6 (.ptr 12 1 0 0) (fW (cK w.op) F) (A.hp s [⟨29, 6, [w.v]⟩, ⟨29, 6, [w.v]⟩, ⟨100, 6, [(.agg [(.str ⟨#[]⟩), (.bool false), (.bool false), (.bool false), (.bool false), (.bool false)])]⟩])) = some (.tup [], A.hp s (TT w w F)) := rfl
 have fi0 : aA 0 (.ptr 11 1 0 0) = some (.ptr 11 1 0 0) := rfl
 have fi1 : aA 1 (.ptr 11 1 0 0) = some (.ptr 11 1 0 1) := rfl
 have fi2 : aA 2 (.ptr 11 1 0 0) = some (.ptr 11 1 0 2) := rfl
 have fi3 : aA 3 (.ptr 11 1 0 0) = some (.ptr 11 1 0 3) := rfl
 have fi4 : aA 4 (.ptr 11 1 0 0) = some (.ptr 11 1 0 4) := rfl
 have fi5 : aA 5 (.ptr 11 1 0 0) = some (.ptr 11 1 0 5) := rfl
 have ff1 : aA 1 (.ptr 12 1 0 0) = some (.ptr 12 1 0 1) := rfl
 have ff2 : aA 2 (.ptr 12 1 0 0) = some (.ptr 12 1 0 2) := rfl
 have ff3 : aA 3 (.ptr 12 1 0 0) = some (.ptr 12 1 0 3) := rfl
 have ff4 : aA 4 (.ptr 12 1 0 0) = some (.ptr 12 1 0 4) := rfl
 have l0 : aE G false 1 (.ptr 11 1 0 0) (A.hp s (TT w w F)) = some (I6 w.op) := rfl
 have l0' : aE G false 1 (.ptr 11 1 0 0) (A.hp s [⟨29, 6, [w.v]⟩, ⟨29, 6, [w.v]⟩]) = some (I6 w.op) := rfl
 have eo := pO A.L hn
 have q15 : aX Tryd.prog .eql 3 true (I6 w.op) (.int .i64 15) = some (.bool false) := gV (by omega)
 have q16 : aX Tryd.prog .eql 3 true (I6 w.op) (.int .i64 16) = some (.bool false) := gV (by omega)
 have h0 : s.out.length ≤ 800000 := hs
 have lfa : aE G false 1 (.ptr 12 1 0 2) (A.hp s (TT w w F)) = some (.bool F.a) := rfl
 have lfb : aE G false 1 (.ptr 12 1 0 3) (A.hp s (TT w w F)) = some (.bool F.b) := rfl
 have lfc : aE G false 1 (.ptr 12 1 0 4) (A.hp s (TT w w F)) = some (.bool F.c) := rfl
 have lfd : aE G false 1 (.ptr 12 1 0 1) (A.hp s (TT w w F)) = some (.bool F.d) := rfl
 have vd := hd (by rw [hF])
 have lid : aE G false 1 (.ptr 11 1 0 1) (A.hp s (TT w w F)) = some (I6 w.d) := rfl
 have wr := mO A s (TT w w F) G (k + 8) hW (iK w w F) w.d vd
 have std : fM (aV 1 (.ptr 11 1 0 1) (I6 (A.L.wrR w.d)) (A.hp s (TT w w F))) = some (.tup [], A.hp s (TT w ⟨w.op, A.L.wrR w.d, w.a, w.b, w.c, w.k⟩ F)) := rfl
 have l6 : aE G true 6 (.ptr 11 1 0 0) (A.hp s (TT w ⟨w.op, A.L.wrR w.d, w.a, w.b, w.c, w.k⟩ F)) = some (WI.v ⟨w.op, A.L.wrR w.d, w.a, w.b, w.c, w.k⟩) := rfl
 have pt := iC A s (TT w ⟨w.op, A.L.wrR w.d, w.a, w.b, w.c, w.k⟩ F) G (k + 8) (iK w ⟨w.op, A.L.wrR w.d, w.a, w.b, w.c, w.k⟩ F) ⟨w.op, A.L.wrR w.d, w.a, w.b, w.c, w.k⟩ (by omega)
 have ein : A.L.ins w = ⟨w.op, A.L.wrR w.d, w.a, w.b, w.c, w.k⟩ := by unfold LY.ins LY.rR; rw [hf, hF]; rfl
 have erd : A.L.rds w = [] := by unfold LY.rds LY.rC; rw [hf, hF]; simp
 have ewr : A.L.wrs w = A.L.wrC w.d := by unfold LY.wrs; rw [hf, hF]; exact if_pos rfl
 rw [ein, erd, ewr] at eo
 obtain ⟨sp, esp⟩ : ∃ t, t = s.put [⟨w.op, A.L.wrR w.d, w.a, w.b, w.c, w.k⟩] := ⟨_, rfl⟩
 rw [← esp] at pt
 have wt := kN A sp (TT w ⟨w.op, A.L.wrR w.d, w.a, w.b, w.c, w.k⟩ F) G (k + 7) hW (iK w ⟨w.op, A.L.wrR w.d, w.a, w.b, w.c, w.k⟩ F) w.d vd (by rw [esp, iN]; show _ + 1 ≤ _; omega)
 have es : s.put (A.L.one w) = sp.put (A.L.wrC w.d) := by rw [eo, esp]; simp only [lY, List.append_assoc, List.nil_append]
 have fin := aAM A (sp.put (A.L.wrC w.d)) [⟨29, 6, [w.v]⟩] [⟨29, 6, [WI.v ⟨w.op, A.L.wrR w.d, w.a, w.b, w.c, w.k⟩]⟩, ⟨100, 6, [fW (cK w.op) F]⟩] (yH w)
 rw [es]
 have eT : [⟨29, 6, [w.v]⟩] ++ [⟨29, 6, [WI.v ⟨w.op, A.L.wrR w.d, w.a, w.b, w.c, w.k⟩]⟩, ⟨100, 6, [fW (cK w.op) F]⟩] = TT w ⟨w.op, A.L.wrR w.d, w.a, w.b, w.c, w.k⟩ F := rfl
 rw [eT] at fin
 clear es eT eo ein erd ewr esp
 have gd : F.d = true := by rw [hF]
 have ga : F.a = false := by rw [hF]
 have gb : F.b = false := by rw [hF]
 have gc : F.c = false := by rw [hF]
 rw [gd] at lfd
 rw [ga] at lfa
 rw [gb] at lfb
 rw [gc] at lfc
 clear gd ga gb gc hF ha hb hc hd
 refine gQ ?_
 have fx := aMv iQ <| aMv r0 <| aMv b1 <| aMv b2 <| aMv st <| aMv fi0 <| aMv fi1 <| aMv fi2 <| aMv fi3 <| aMv fi4 <| aMv fi5 <| aMv ff1 <| aMv ff2 <| aMv ff3 <| aMv ff4 <| aMv l0 <| aMv l0' <| aMv q15 <| aMv q16 <| aMv lfa <| aMv lfb <| aMv lfc <| aMv lfd <| aMv lid <| aMv wr <| aMv std <| aMv l6 <| aMv pt <| wt
 refine gT ?_
 exact oF fin
theorem aGO (hW : A.W) (w : WI) {fk : Bool} (F : Frm) (hF : F = ⟨true, true, false, false, fk⟩) (hf : dM w.op = F) (hn : ¬ (w.op = 15 ∨ w.op = 16)) (ha : F.a = true → 0 ≤ w.a ∧ w.a < A.R) (hb : F.b = true → 0 ≤ w.b ∧ w.b < A.R) (hc : F.c = true → 0 ≤ w.c ∧ w.c < A.R) (hd : F.d = true → 0 ≤ w.d ∧ w.d < A.R) (hs : s.out.length ≤ 800000) :
  bD (aZ.f G (k + 10)) [BX, w.v] (A.hp s [⟨29, 6, [w.v]⟩]) = some (.tup [], A.hp (s.put (A.L.one w)) [⟨29, 6, [w.v]⟩]) := by
 apply kE
 rw [aZ.step]
 unfold aZ.c
 rw [kF]
 have r0 : ∀ H, aW (dY.f G (k + 9)) [I6 w.op] H = _ := fun H => cG (H := H) (iO G (k + 5) w.op) rfl rfl
 rw [hf] at r0
 have b1 : fR 29 w.v (A.hp s [⟨29, 6, [w.v]⟩]) = some (.ptr 11 1 0 0, A.hp s [⟨29, 6, [w.v]⟩, ⟨29, 6, [w.v]⟩]) := rfl
 have b2 : fR 100 (.agg [(.str ⟨#[]⟩), (.bool false), (.bool false), (.bool false), (.bool false), (.bool false)]) (A.hp s [⟨29, 6, [w.v]⟩, ⟨29, 6, [w.v]⟩]) = some (.ptr 12 1 0 0, A.hp s [⟨29, 6, [w.v]⟩, ⟨29, 6, [w.v]⟩, ⟨100, 6, [(.agg [(.str ⟨#[]⟩), (.bool false), (.bool false), (.bool false), (.bool false), (.bool false)])]⟩]) := rfl
 have st : fM (aV 6 (.ptr 12 1 0 0) (fW (cK w.op) F) (A.hp s [⟨29, 6, [w.v]⟩, ⟨29, 6, [w.v]⟩, ⟨100, 6, [(.agg [(.str ⟨#[]⟩), (.bool false), (.bool false), (.bool false), (.bool false), (.bool false)])]⟩])) = some (.tup [], A.hp s (TT w w F)) := rfl
 have fi0 : aA 0 (.ptr 11 1 0 0) = some (.ptr 11 1 0 0) := rfl
 have fi1 : aA 1 (.ptr 11 1 0 0) = some (.ptr 11 1 0 1) := rfl
 have fi2 : aA 2 (.ptr 11 1 0 0) = some (.ptr 11 1 0 2) := rfl
 have fi3 : aA 3 (.ptr 11 1 0 0) = some (.ptr 11 1 0 3) := rfl
 have fi4 : aA 4 (.ptr 11 1 0 0) = some (.ptr 11 1 0 4) := rfl
 have fi5 : aA 5 (.ptr 11 1 0 0) = some (.ptr 11 1 0 5) := rfl
 have ff1 : aA 1 (.ptr 12 1 0 0) = some (.ptr 12 1 0 1) := rfl
 have ff2 : aA 2 (.ptr 12 1 0 0) = some (.ptr 12 1 0 2) := rfl
 have ff3 : aA 3 (.ptr 12 1 0 0) = some (.ptr 12 1 0 3) := rfl
 have ff4 : aA 4 (.ptr 12 1 0 0) = some (.ptr 12 1 0 4) := rfl
 have l0 : aE G false 1 (.ptr 11 1 0 0) (A.hp s (TT w w F)) = some (I6 w.op) := rfl
 have l0' : aE G false 1 (.ptr 11 1 0 0) (A.hp s [⟨29, 6, [w.v]⟩, ⟨29, 6, [w.v]⟩]) = some (I6 w.op) := rfl
 have eo := pO A.L hn
 have q15 : aX Tryd.prog .eql 3 true (I6 w.op) (.int .i64 15) = some (.bool false) := gV (by omega)
 have q16 : aX Tryd.prog .eql 3 true (I6 w.op) (.int .i64 16) = some (.bool false) := gV (by omega)
 have h0 : s.out.length ≤ 800000 := hs
 have lfa : aE G false 1 (.ptr 12 1 0 2) (A.hp s (TT w w F)) = some (.bool F.a) := rfl
 have va := ha (by rw [hF])
 have lia : aE G false 1 (.ptr 11 1 0 2) (A.hp s (TT w w F)) = some (I6 w.a) := rfl
 have rda := jG A s (TT w w F) G (k + 7) hW (iK w w F) w.a 1 va (by omega)
 have lna := iG A.L w.a 1
 obtain ⟨sa, esa⟩ : ∃ t, t = s.put (A.L.rdC w.a 1) := ⟨_, rfl⟩
 rw [← esa] at rda
 have hsa : sa.out.length ≤ 800001 := by rw [esa, iN]; omega
 have sta : fM (aV 1 (.ptr 11 1 0 2) (I6 (A.L.rdR w.a 1)) (A.hp sa (TT w w F))) = some (.tup [], A.hp sa (TT w ⟨w.op, w.d, (A.L.rdR w.a 1), w.b, w.c, w.k⟩ F)) := rfl
 have lfb : aE G false 1 (.ptr 12 1 0 3) (A.hp sa (TT w ⟨w.op, w.d, (A.L.rdR w.a 1), w.b, w.c, w.k⟩ F)) = some (.bool F.b) := rfl
 have lfc : aE G false 1 (.ptr 12 1 0 4) (A.hp sa (TT w ⟨w.op, w.d, (A.L.rdR w.a 1), w.b, w.c, w.k⟩ F)) = some (.bool F.c) := rfl
 have lfd : aE G false 1 (.ptr 12 1 0 1) (A.hp sa (TT w ⟨w.op, w.d, (A.L.rdR w.a 1), w.b, w.c, w.k⟩ F)) = some (.bool F.d) := rfl
 have vd := hd (by rw [hF])
 have lid : aE G false 1 (.ptr 11 1 0 1) (A.hp sa (TT w ⟨w.op, w.d, (A.L.rdR w.a 1), w.b, w.c, w.k⟩ F)) = some (I6 w.d) := rfl
 have wr := mO A sa (TT w ⟨w.op, w.d, (A.L.rdR w.a 1), w.b, w.c, w.k⟩ F) G (k + 8) hW (iK w ⟨w.op, w.d, (A.L.rdR w.a 1), w.b, w.c, w.k⟩ F) w.d vd
 have std : fM (aV 1 (.ptr 11 1 0 1) (I6 (A.L.wrR w.d)) (A.hp sa (TT w ⟨w.op, w.d, (A.L.rdR w.a 1), w.b, w.c, w.k⟩ F))) = some (.tup [], A.hp sa (TT w ⟨w.op, A.L.wrR w.d, (A.L.rdR w.a 1), w.b, w.c, w.k⟩ F)) := rfl
 have l6 : aE G true 6 (.ptr 11 1 0 0) (A.hp sa (TT w ⟨w.op, A.L.wrR w.d, (A.L.rdR w.a 1), w.b, w.c, w.k⟩ F)) = some (WI.v ⟨w.op, A.L.wrR w.d, (A.L.rdR w.a 1), w.b, w.c, w.k⟩) := rfl
 have pt := iC A sa (TT w ⟨w.op, A.L.wrR w.d, (A.L.rdR w.a 1), w.b, w.c, w.k⟩ F) G (k + 8) (iK w ⟨w.op, A.L.wrR w.d, (A.L.rdR w.a 1), w.b, w.c, w.k⟩ F) ⟨w.op, A.L.wrR w.d, (A.L.rdR w.a 1), w.b, w.c, w.k⟩ (by omega)
 have ein : A.L.ins w = ⟨w.op, A.L.wrR w.d, (A.L.rdR w.a 1), w.b, w.c, w.k⟩ := by unfold LY.ins LY.rR; rw [hf, hF]; rfl
 have erd : A.L.rds w = A.L.rdC w.a 1 := by unfold LY.rds LY.rC; rw [hf, hF]; simp
 have ewr : A.L.wrs w = A.L.wrC w.d := by unfold LY.wrs; rw [hf, hF]; exact if_pos rfl
 rw [ein, erd, ewr] at eo
 obtain ⟨sp, esp⟩ : ∃ t, t = sa.put [⟨w.op, A.L.wrR w.d, (A.L.rdR w.a 1), w.b, w.c, w.k⟩] := ⟨_, rfl⟩
 rw [← esp] at pt
 have wt := kN A sp (TT w ⟨w.op, A.L.wrR w.d, (A.L.rdR w.a 1), w.b, w.c, w.k⟩ F) G (k + 7) hW (iK w ⟨w.op, A.L.wrR w.d, (A.L.rdR w.a 1), w.b, w.c, w.k⟩ F) w.d vd (by rw [esp, iN]; show _ + 1 ≤ _; omega)
 have es : s.put (A.L.one w) = sp.put (A.L.wrC w.d) := by rw [eo, esp, esa]; simp only [lY, List.append_assoc, List.nil_append]
 have fin := aAM A (sp.put (A.L.wrC w.d)) [⟨29, 6, [w.v]⟩] [⟨29, 6, [WI.v ⟨w.op, A.L.wrR w.d, (A.L.rdR w.a 1), w.b, w.c, w.k⟩]⟩, ⟨100, 6, [fW (cK w.op) F]⟩] (yH w)
 rw [es]
 have eT : [⟨29, 6, [w.v]⟩] ++ [⟨29, 6, [WI.v ⟨w.op, A.L.wrR w.d, (A.L.rdR w.a 1), w.b, w.c, w.k⟩]⟩, ⟨100, 6, [fW (cK w.op) F]⟩] = TT w ⟨w.op, A.L.wrR w.d, (A.L.rdR w.a 1), w.b, w.c, w.k⟩ F := rfl
 rw [eT] at fin
 clear es eT eo ein erd ewr esp esa
 have gd : F.d = true := by rw [hF]
 have ga : F.a = true := by rw [hF]
 have gb : F.b = false := by rw [hF]
 have gc : F.c = false := by rw [hF]
 rw [gd] at lfd
 rw [ga] at lfa
 rw [gb] at lfb
 rw [gc] at lfc
 clear gd ga gb gc hF ha hb hc hd
 refine gQ ?_
 have fx := aMv iQ <| aMv r0 <| aMv b1 <| aMv b2 <| aMv st <| aMv fi0 <| aMv fi1 <| aMv fi2 <| aMv fi3 <| aMv fi4 <| aMv fi5 <| aMv ff1 <| aMv ff2 <| aMv ff3 <| aMv ff4 <| aMv l0 <| aMv l0' <| aMv q15 <| aMv q16 <| aMv lfa <| aMv lia <| aMv rda <| aMv sta <| aMv lfb <| aMv lfc <| aMv lfd <| aMv lid <| aMv wr <| aMv std <| aMv l6 <| aMv pt <| wt
 refine gT ?_
 exact oF fin
theorem aIz (hW : A.W) (w : WI) {fk : Bool} (F : Frm) (hF : F = ⟨true, true, true, false, fk⟩) (hf : dM w.op = F) (hn : ¬ (w.op = 15 ∨ w.op = 16)) (ha : F.a = true → 0 ≤ w.a ∧ w.a < A.R) (hb : F.b = true → 0 ≤ w.b ∧ w.b < A.R) (hc : F.c = true → 0 ≤ w.c ∧ w.c < A.R) (hd : F.d = true → 0 ≤ w.d ∧ w.d < A.R) (hs : s.out.length ≤ 800000) :
  bD (aZ.f G (k + 10)) [BX, w.v] (A.hp s [⟨29, 6, [w.v]⟩]) = some (.tup [], A.hp (s.put (A.L.one w)) [⟨29, 6, [w.v]⟩]) := by
 apply kE
 rw [aZ.step]
 unfold aZ.c
 rw [kF]
 have r0 : ∀ H, aW (dY.f G (k + 9)) [I6 w.op] H = _ := fun H => cG (H := H) (iO G (k + 5) w.op) rfl rfl
 rw [hf] at r0
 have b1 : fR 29 w.v (A.hp s [⟨29, 6, [w.v]⟩]) = some (.ptr 11 1 0 0, A.hp s [⟨29, 6, [w.v]⟩, ⟨29, 6, [w.v]⟩]) := rfl
 have b2 : fR 100 (.agg [(.str ⟨#[]⟩), (.bool false), (.bool false), (.bool false), (.bool false), (.bool false)]) (A.hp s [⟨29, 6, [w.v]⟩, ⟨29, 6, [w.v]⟩]) = some (.ptr 12 1 0 0, A.hp s [⟨29, 6, [w.v]⟩, ⟨29, 6, [w.v]⟩, ⟨100, 6, [(.agg [(.str ⟨#[]⟩), (.bool false), (.bool false), (.bool false), (.bool false), (.bool false)])]⟩]) := rfl
 have st : fM (aV 6 (.ptr 12 1 0 0) (fW (cK w.op) F) (A.hp s [⟨29, 6, [w.v]⟩, ⟨29, 6, [w.v]⟩, ⟨100, 6, [(.agg [(.str ⟨#[]⟩), (.bool false), (.bool false), (.bool false), (.bool false), (.bool false)])]⟩])) = some (.tup [], A.hp s (TT w w F)) := rfl
 have fi0 : aA 0 (.ptr 11 1 0 0) = some (.ptr 11 1 0 0) := rfl
 have fi1 : aA 1 (.ptr 11 1 0 0) = some (.ptr 11 1 0 1) := rfl
 have fi2 : aA 2 (.ptr 11 1 0 0) = some (.ptr 11 1 0 2) := rfl
 have fi3 : aA 3 (.ptr 11 1 0 0) = some (.ptr 11 1 0 3) := rfl
 have fi4 : aA 4 (.ptr 11 1 0 0) = some (.ptr 11 1 0 4) := rfl
 have fi5 : aA 5 (.ptr 11 1 0 0) = some (.ptr 11 1 0 5) := rfl
 have ff1 : aA 1 (.ptr 12 1 0 0) = some (.ptr 12 1 0 1) := rfl
 have ff2 : aA 2 (.ptr 12 1 0 0) = some (.ptr 12 1 0 2) := rfl
 have ff3 : aA 3 (.ptr 12 1 0 0) = some (.ptr 12 1 0 3) := rfl
 have ff4 : aA 4 (.ptr 12 1 0 0) = some (.ptr 12 1 0 4) := rfl
 have l0 : aE G false 1 (.ptr 11 1 0 0) (A.hp s (TT w w F)) = some (I6 w.op) := rfl
 have l0' : aE G false 1 (.ptr 11 1 0 0) (A.hp s [⟨29, 6, [w.v]⟩, ⟨29, 6, [w.v]⟩]) = some (I6 w.op) := rfl
 have eo := pO A.L hn
 have q15 : aX Tryd.prog .eql 3 true (I6 w.op) (.int .i64 15) = some (.bool false) := gV (by omega)
 have q16 : aX Tryd.prog .eql 3 true (I6 w.op) (.int .i64 16) = some (.bool false) := gV (by omega)
 have h0 : s.out.length ≤ 800000 := hs
 have lfa : aE G false 1 (.ptr 12 1 0 2) (A.hp s (TT w w F)) = some (.bool F.a) := rfl
 have va := ha (by rw [hF])
 have lia : aE G false 1 (.ptr 11 1 0 2) (A.hp s (TT w w F)) = some (I6 w.a) := rfl
 have rda := jG A s (TT w w F) G (k + 7) hW (iK w w F) w.a 1 va (by omega)
 have lna := iG A.L w.a 1
 obtain ⟨sa, esa⟩ : ∃ t, t = s.put (A.L.rdC w.a 1) := ⟨_, rfl⟩
 rw [← esa] at rda
 have hsa : sa.out.length ≤ 800001 := by rw [esa, iN]; omega
 have sta : fM (aV 1 (.ptr 11 1 0 2) (I6 (A.L.rdR w.a 1)) (A.hp sa (TT w w F))) = some (.tup [], A.hp sa (TT w ⟨w.op, w.d, (A.L.rdR w.a 1), w.b, w.c, w.k⟩ F)) := rfl
 have lfb : aE G false 1 (.ptr 12 1 0 3) (A.hp sa (TT w ⟨w.op, w.d, (A.L.rdR w.a 1), w.b, w.c, w.k⟩ F)) = some (.bool F.b) := rfl
 have vb := hb (by rw [hF])
 have lib : aE G false 1 (.ptr 11 1 0 3) (A.hp sa (TT w ⟨w.op, w.d, (A.L.rdR w.a 1), w.b, w.c, w.k⟩ F)) = some (I6 w.b) := rfl
 have rdb := jG A sa (TT w ⟨w.op, w.d, (A.L.rdR w.a 1), w.b, w.c, w.k⟩ F) G (k + 7) hW (iK w ⟨w.op, w.d, (A.L.rdR w.a 1), w.b, w.c, w.k⟩ F) w.b 2 vb (by omega)
 have lnb := iG A.L w.b 2
 obtain ⟨sb, esb⟩ : ∃ t, t = sa.put (A.L.rdC w.b 2) := ⟨_, rfl⟩
 rw [← esb] at rdb
 have hsb : sb.out.length ≤ 800002 := by rw [esb, iN]; omega
 have stb : fM (aV 1 (.ptr 11 1 0 3) (I6 (A.L.rdR w.b 2)) (A.hp sb (TT w ⟨w.op, w.d, (A.L.rdR w.a 1), w.b, w.c, w.k⟩ F))) = some (.tup [], A.hp sb (TT w ⟨w.op, w.d, (A.L.rdR w.a 1), (A.L.rdR w.b 2), w.c, w.k⟩ F)) := rfl
 have lfc : aE G false 1 (.ptr 12 1 0 4) (A.hp sb (TT w ⟨w.op, w.d, (A.L.rdR w.a 1), (A.L.rdR w.b 2), w.c, w.k⟩ F)) = some (.bool F.c) := rfl
 have lfd : aE G false 1 (.ptr 12 1 0 1) (A.hp sb (TT w ⟨w.op, w.d, (A.L.rdR w.a 1), (A.L.rdR w.b 2), w.c, w.k⟩ F)) = some (.bool F.d) := rfl
 have vd := hd (by rw [hF])
 have lid : aE G false 1 (.ptr 11 1 0 1) (A.hp sb (TT w ⟨w.op, w.d, (A.L.rdR w.a 1), (A.L.rdR w.b 2), w.c, w.k⟩ F)) = some (I6 w.d) := rfl
 have wr := mO A sb (TT w ⟨w.op, w.d, (A.L.rdR w.a 1), (A.L.rdR w.b 2), w.c, w.k⟩ F) G (k + 8) hW (iK w ⟨w.op, w.d, (A.L.rdR w.a 1), (A.L.rdR w.b 2), w.c, w.k⟩ F) w.d vd
 have std : fM (aV 1 (.ptr 11 1 0 1) (I6 (A.L.wrR w.d)) (A.hp sb (TT w ⟨w.op, w.d, (A.L.rdR w.a 1), (A.L.rdR w.b 2), w.c, w.k⟩ F))) = some (.tup [], A.hp sb (TT w ⟨w.op, A.L.wrR w.d, (A.L.rdR w.a 1), (A.L.rdR w.b 2), w.c, w.k⟩ F)) := rfl
 have l6 : aE G true 6 (.ptr 11 1 0 0) (A.hp sb (TT w ⟨w.op, A.L.wrR w.d, (A.L.rdR w.a 1), (A.L.rdR w.b 2), w.c, w.k⟩ F)) = some (WI.v ⟨w.op, A.L.wrR w.d, (A.L.rdR w.a 1), (A.L.rdR w.b 2), w.c, w.k⟩) := rfl
 have pt := iC A sb (TT w ⟨w.op, A.L.wrR w.d, (A.L.rdR w.a 1), (A.L.rdR w.b 2), w.c, w.k⟩ F) G (k + 8) (iK w ⟨w.op, A.L.wrR w.d, (A.L.rdR w.a 1), (A.L.rdR w.b 2), w.c, w.k⟩ F) ⟨w.op, A.L.wrR w.d, (A.L.rdR w.a 1), (A.L.rdR w.b 2), w.c, w.k⟩ (by omega)
 have ein : A.L.ins w = ⟨w.op, A.L.wrR w.d, (A.L.rdR w.a 1), (A.L.rdR w.b 2), w.c, w.k⟩ := by unfold LY.ins LY.rR; rw [hf, hF]; rfl
 have erd : A.L.rds w = A.L.rdC w.a 1 ++ A.L.rdC w.b 2 := by unfold LY.rds LY.rC; rw [hf, hF]; simp
 have ewr : A.L.wrs w = A.L.wrC w.d := by unfold LY.wrs; rw [hf, hF]; exact if_pos rfl
 rw [ein, erd, ewr] at eo
 obtain ⟨sp, esp⟩ : ∃ t, t = sb.put [⟨w.op, A.L.wrR w.d, (A.L.rdR w.a 1), (A.L.rdR w.b 2), w.c, w.k⟩] := ⟨_, rfl⟩
 rw [← esp] at pt
 have wt := kN A sp (TT w ⟨w.op, A.L.wrR w.d, (A.L.rdR w.a 1), (A.L.rdR w.b 2), w.c, w.k⟩ F) G (k + 7) hW (iK w ⟨w.op, A.L.wrR w.d, (A.L.rdR w.a 1), (A.L.rdR w.b 2), w.c, w.k⟩ F) w.d vd (by rw [esp, iN]; show _ + 1 ≤ _; omega)
 have es : s.put (A.L.one w) = sp.put (A.L.wrC w.d) := by rw [eo, esp, esb, esa]; simp only [lY, List.append_assoc, List.nil_append]
 have fin := aAM A (sp.put (A.L.wrC w.d)) [⟨29, 6, [w.v]⟩] [⟨29, 6, [WI.v ⟨w.op, A.L.wrR w.d, (A.L.rdR w.a 1), (A.L.rdR w.b 2), w.c, w.k⟩]⟩, ⟨100, 6, [fW (cK w.op) F]⟩] (yH w)
 rw [es]
 have eT : [⟨29, 6, [w.v]⟩] ++ [⟨29, 6, [WI.v ⟨w.op, A.L.wrR w.d, (A.L.rdR w.a 1), (A.L.rdR w.b 2), w.c, w.k⟩]⟩, ⟨100, 6, [fW (cK w.op) F]⟩] = TT w ⟨w.op, A.L.wrR w.d, (A.L.rdR w.a 1), (A.L.rdR w.b 2), w.c, w.k⟩ F := rfl
 rw [eT] at fin
 clear es eT eo ein erd ewr esp esb esa
 have gd : F.d = true := by rw [hF]
 have ga : F.a = true := by rw [hF]
 have gb : F.b = true := by rw [hF]
 have gc : F.c = false := by rw [hF]
 rw [gd] at lfd
 rw [ga] at lfa
 rw [gb] at lfb
 rw [gc] at lfc
 clear gd ga gb gc hF ha hb hc hd
 refine gQ ?_
 have fx := aMv iQ <| aMv r0 <| aMv b1 <| aMv b2 <| aMv st <| aMv fi0 <| aMv fi1 <| aMv fi2 <| aMv fi3 <| aMv fi4 <| aMv fi5 <| aMv ff1 <| aMv ff2 <| aMv ff3 <| aMv ff4 <| aMv l0 <| aMv l0' <| aMv q15 <| aMv q16 <| aMv lfa <| aMv lia <| aMv rda <| aMv sta <| aMv lfb <| aMv lib <| aMv rdb <| aMv stb <| aMv lfc <| aMv lfd <| aMv lid <| aMv wr <| aMv std <| aMv l6 <| aMv pt <| wt
 refine gT ?_
 exact oF fin
theorem aGP (hW : A.W) (w : WI) {fk : Bool} (F : Frm) (hF : F = ⟨true, true, true, true, fk⟩) (hf : dM w.op = F) (hn : ¬ (w.op = 15 ∨ w.op = 16)) (ha : F.a = true → 0 ≤ w.a ∧ w.a < A.R) (hb : F.b = true → 0 ≤ w.b ∧ w.b < A.R) (hc : F.c = true → 0 ≤ w.c ∧ w.c < A.R) (hd : F.d = true → 0 ≤ w.d ∧ w.d < A.R) (hs : s.out.length ≤ 800000) :
  bD (aZ.f G (k + 10)) [BX, w.v] (A.hp s [⟨29, 6, [w.v]⟩]) = some (.tup [], A.hp (s.put (A.L.one w)) [⟨29, 6, [w.v]⟩]) := by
 apply kE
 rw [aZ.step]
 unfold aZ.c
 rw [kF]
 have r0 : ∀ H, aW (dY.f G (k + 9)) [I6 w.op] H = _ := fun H => cG (H := H) (iO G (k + 5) w.op) rfl rfl
 rw [hf] at r0
 have b1 : fR 29 w.v (A.hp s [⟨29, 6, [w.v]⟩]) = some (.ptr 11 1 0 0, A.hp s [⟨29, 6, [w.v]⟩, ⟨29, 6, [w.v]⟩]) := rfl
 have b2 : fR 100 (.agg [(.str ⟨#[]⟩), (.bool false), (.bool false), (.bool false), (.bool false), (.bool false)]) (A.hp s [⟨29, 6, [w.v]⟩, ⟨29, 6, [w.v]⟩]) = some (.ptr 12 1 0 0, A.hp s [⟨29, 6, [w.v]⟩, ⟨29, 6, [w.v]⟩, ⟨100, 6, [(.agg [(.str ⟨#[]⟩), (.bool false), (.bool false), (.bool false), (.bool false), (.bool false)])]⟩]) := rfl
 have st : fM (aV 6 (.ptr 12 1 0 0) (fW (cK w.op) F) (A.hp s [⟨29, 6, [w.v]⟩, ⟨29, 6, [w.v]⟩, ⟨100, 6, [(.agg [(.str ⟨#[]⟩), (.bool false), (.bool false), (.bool false), (.bool false), (.bool false)])]⟩])) = some (.tup [], A.hp s (TT w w F)) := rfl
 have fi0 : aA 0 (.ptr 11 1 0 0) = some (.ptr 11 1 0 0) := rfl
 have fi1 : aA 1 (.ptr 11 1 0 0) = some (.ptr 11 1 0 1) := rfl
 have fi2 : aA 2 (.ptr 11 1 0 0) = some (.ptr 11 1 0 2) := rfl
 have fi3 : aA 3 (.ptr 11 1 0 0) = some (.ptr 11 1 0 3) := rfl
 have fi4 : aA 4 (.ptr 11 1 0 0) = some (.ptr 11 1 0 4) := rfl
 have fi5 : aA 5 (.ptr 11 1 0 0) = some (.ptr 11 1 0 5) := rfl
 have ff1 : aA 1 (.ptr 12 1 0 0) = some (.ptr 12 1 0 1) := rfl
 have ff2 : aA 2 (.ptr 12 1 0 0) = some (.ptr 12 1 0 2) := rfl
 have ff3 : aA 3 (.ptr 12 1 0 0) = some (.ptr 12 1 0 3) := rfl
 have ff4 : aA 4 (.ptr 12 1 0 0) = some (.ptr 12 1 0 4) := rfl
 have l0 : aE G false 1 (.ptr 11 1 0 0) (A.hp s (TT w w F)) = some (I6 w.op) := rfl
 have l0' : aE G false 1 (.ptr 11 1 0 0) (A.hp s [⟨29, 6, [w.v]⟩, ⟨29, 6, [w.v]⟩]) = some (I6 w.op) := rfl
 have eo := pO A.L hn
 have q15 : aX Tryd.prog .eql 3 true (I6 w.op) (.int .i64 15) = some (.bool false) := gV (by omega)
 have q16 : aX Tryd.prog .eql 3 true (I6 w.op) (.int .i64 16) = some (.bool false) := gV (by omega)
 have h0 : s.out.length ≤ 800000 := hs
 have lfa : aE G false 1 (.ptr 12 1 0 2) (A.hp s (TT w w F)) = some (.bool F.a) := rfl
 have va := ha (by rw [hF])
 have lia : aE G false 1 (.ptr 11 1 0 2) (A.hp s (TT w w F)) = some (I6 w.a) := rfl
 have rda := jG A s (TT w w F) G (k + 7) hW (iK w w F) w.a 1 va (by omega)
 have lna := iG A.L w.a 1
 obtain ⟨sa, esa⟩ : ∃ t, t = s.put (A.L.rdC w.a 1) := ⟨_, rfl⟩
 rw [← esa] at rda
 have hsa : sa.out.length ≤ 800001 := by rw [esa, iN]; omega
 have sta : fM (aV 1 (.ptr 11 1 0 2) (I6 (A.L.rdR w.a 1)) (A.hp sa (TT w w F))) = some (.tup [], A.hp sa (TT w ⟨w.op, w.d, (A.L.rdR w.a 1), w.b, w.c, w.k⟩ F)) := rfl
 have lfb : aE G false 1 (.ptr 12 1 0 3) (A.hp sa (TT w ⟨w.op, w.d, (A.L.rdR w.a 1), w.b, w.c, w.k⟩ F)) = some (.bool F.b) := rfl
 have vb := hb (by rw [hF])
 have lib : aE G false 1 (.ptr 11 1 0 3) (A.hp sa (TT w ⟨w.op, w.d, (A.L.rdR w.a 1), w.b, w.c, w.k⟩ F)) = some (I6 w.b) := rfl
 have rdb := jG A sa (TT w ⟨w.op, w.d, (A.L.rdR w.a 1), w.b, w.c, w.k⟩ F) G (k + 7) hW (iK w ⟨w.op, w.d, (A.L.rdR w.a 1), w.b, w.c, w.k⟩ F) w.b 2 vb (by omega)
 have lnb := iG A.L w.b 2
 obtain ⟨sb, esb⟩ : ∃ t, t = sa.put (A.L.rdC w.b 2) := ⟨_, rfl⟩
 rw [← esb] at rdb
 have hsb : sb.out.length ≤ 800002 := by rw [esb, iN]; omega
 have stb : fM (aV 1 (.ptr 11 1 0 3) (I6 (A.L.rdR w.b 2)) (A.hp sb (TT w ⟨w.op, w.d, (A.L.rdR w.a 1), w.b, w.c, w.k⟩ F))) = some (.tup [], A.hp sb (TT w ⟨w.op, w.d, (A.L.rdR w.a 1), (A.L.rdR w.b 2), w.c, w.k⟩ F)) := rfl
 have lfc : aE G false 1 (.ptr 12 1 0 4) (A.hp sb (TT w ⟨w.op, w.d, (A.L.rdR w.a 1), (A.L.rdR w.b 2), w.c, w.k⟩ F)) = some (.bool F.c) := rfl
 have vc := hc (by rw [hF])
 have lic : aE G false 1 (.ptr 11 1 0 4) (A.hp sb (TT w ⟨w.op, w.d, (A.L.rdR w.a 1), (A.L.rdR w.b 2), w.c, w.k⟩ F)) = some (I6 w.c) := rfl
 have rdc := jG A sb (TT w ⟨w.op, w.d, (A.L.rdR w.a 1), (A.L.rdR w.b 2), w.c, w.k⟩ F) G (k + 7) hW (iK w ⟨w.op, w.d, (A.L.rdR w.a 1), (A.L.rdR w.b 2), w.c, w.k⟩ F) w.c 3 vc (by omega)
 have lnc := iG A.L w.c 3
 obtain ⟨sc, esc⟩ : ∃ t, t = sb.put (A.L.rdC w.c 3) := ⟨_, rfl⟩
 rw [← esc] at rdc
 have hsc : sc.out.length ≤ 800003 := by rw [esc, iN]; omega
 have stc : fM (aV 1 (.ptr 11 1 0 4) (I6 (A.L.rdR w.c 3)) (A.hp sc (TT w ⟨w.op, w.d, (A.L.rdR w.a 1), (A.L.rdR w.b 2), w.c, w.k⟩ F))) = some (.tup [], A.hp sc (TT w ⟨w.op, w.d, (A.L.rdR w.a 1), (A.L.rdR w.b 2), (A.L.rdR w.c 3), w.k⟩ F)) := rfl
 have lfd : aE G false 1 (.ptr 12 1 0 1) (A.hp sc (TT w ⟨w.op, w.d, (A.L.rdR w.a 1), (A.L.rdR w.b 2), (A.L.rdR w.c 3), w.k⟩ F)) = some (.bool F.d) := rfl
 have vd := hd (by rw [hF])
 have lid : aE G false 1 (.ptr 11 1 0 1) (A.hp sc (TT w ⟨w.op, w.d, (A.L.rdR w.a 1), (A.L.rdR w.b 2), (A.L.rdR w.c 3), w.k⟩ F)) = some (I6 w.d) := rfl
 have wr := mO A sc (TT w ⟨w.op, w.d, (A.L.rdR w.a 1), (A.L.rdR w.b 2), (A.L.rdR w.c 3), w.k⟩ F) G (k + 8) hW (iK w ⟨w.op, w.d, (A.L.rdR w.a 1), (A.L.rdR w.b 2), (A.L.rdR w.c 3), w.k⟩ F) w.d vd
 have std : fM (aV 1 (.ptr 11 1 0 1) (I6 (A.L.wrR w.d)) (A.hp sc (TT w ⟨w.op, w.d, (A.L.rdR w.a 1), (A.L.rdR w.b 2), (A.L.rdR w.c 3), w.k⟩ F))) = some (.tup [], A.hp sc (TT w ⟨w.op, A.L.wrR w.d, (A.L.rdR w.a 1), (A.L.rdR w.b 2), (A.L.rdR w.c 3), w.k⟩ F)) := rfl
 have l6 : aE G true 6 (.ptr 11 1 0 0) (A.hp sc (TT w ⟨w.op, A.L.wrR w.d, (A.L.rdR w.a 1), (A.L.rdR w.b 2), (A.L.rdR w.c 3), w.k⟩ F)) = some (WI.v ⟨w.op, A.L.wrR w.d, (A.L.rdR w.a 1), (A.L.rdR w.b 2), (A.L.rdR w.c 3), w.k⟩) := rfl
 have pt := iC A sc (TT w ⟨w.op, A.L.wrR w.d, (A.L.rdR w.a 1), (A.L.rdR w.b 2), (A.L.rdR w.c 3), w.k⟩ F) G (k + 8) (iK w ⟨w.op, A.L.wrR w.d, (A.L.rdR w.a 1), (A.L.rdR w.b 2), (A.L.rdR w.c 3), w.k⟩ F) ⟨w.op, A.L.wrR w.d, (A.L.rdR w.a 1), (A.L.rdR w.b 2), (A.L.rdR w.c 3), w.k⟩ (by omega)
 have ein : A.L.ins w = ⟨w.op, A.L.wrR w.d, (A.L.rdR w.a 1), (A.L.rdR w.b 2), (A.L.rdR w.c 3), w.k⟩ := by unfold LY.ins LY.rR; rw [hf, hF]; rfl
 have erd : A.L.rds w = A.L.rdC w.a 1 ++ A.L.rdC w.b 2 ++ A.L.rdC w.c 3 := by unfold LY.rds LY.rC; rw [hf, hF]; simp
 have ewr : A.L.wrs w = A.L.wrC w.d := by unfold LY.wrs; rw [hf, hF]; exact if_pos rfl
 rw [ein, erd, ewr] at eo
 obtain ⟨sp, esp⟩ : ∃ t, t = sc.put [⟨w.op, A.L.wrR w.d, (A.L.rdR w.a 1), (A.L.rdR w.b 2), (A.L.rdR w.c 3), w.k⟩] := ⟨_, rfl⟩
 rw [← esp] at pt
 have wt := kN A sp (TT w ⟨w.op, A.L.wrR w.d, (A.L.rdR w.a 1), (A.L.rdR w.b 2), (A.L.rdR w.c 3), w.k⟩ F) G (k + 7) hW (iK w ⟨w.op, A.L.wrR w.d, (A.L.rdR w.a 1), (A.L.rdR w.b 2), (A.L.rdR w.c 3), w.k⟩ F) w.d vd (by rw [esp, iN]; show _ + 1 ≤ _; omega)
 have es : s.put (A.L.one w) = sp.put (A.L.wrC w.d) := by rw [eo, esp, esc, esb, esa]; simp only [lY, List.append_assoc, List.nil_append]
 have fin := aAM A (sp.put (A.L.wrC w.d)) [⟨29, 6, [w.v]⟩] [⟨29, 6, [WI.v ⟨w.op, A.L.wrR w.d, (A.L.rdR w.a 1), (A.L.rdR w.b 2), (A.L.rdR w.c 3), w.k⟩]⟩, ⟨100, 6, [fW (cK w.op) F]⟩] (yH w)
 rw [es]
 have eT : [⟨29, 6, [w.v]⟩] ++ [⟨29, 6, [WI.v ⟨w.op, A.L.wrR w.d, (A.L.rdR w.a 1), (A.L.rdR w.b 2), (A.L.rdR w.c 3), w.k⟩]⟩, ⟨100, 6, [fW (cK w.op) F]⟩] = TT w ⟨w.op, A.L.wrR w.d, (A.L.rdR w.a 1), (A.L.rdR w.b 2), (A.L.rdR w.c 3), w.k⟩ F := rfl
 rw [eT] at fin
 clear es eT eo ein erd ewr esp esc esb esa
 have gd : F.d = true := by rw [hF]
 have ga : F.a = true := by rw [hF]
 have gb : F.b = true := by rw [hF]
 have gc : F.c = true := by rw [hF]
 rw [gd] at lfd
 rw [ga] at lfa
 rw [gb] at lfb
 rw [gc] at lfc
 clear gd ga gb gc hF ha hb hc hd
 refine gQ ?_
 have fx := aMv iQ <| aMv r0 <| aMv b1 <| aMv b2 <| aMv st <| aMv fi0 <| aMv fi1 <| aMv fi2 <| aMv fi3 <| aMv fi4 <| aMv fi5 <| aMv ff1 <| aMv ff2 <| aMv ff3 <| aMv ff4 <| aMv l0 <| aMv l0' <| aMv q15 <| aMv q16 <| aMv lfa <| aMv lia <| aMv rda <| aMv sta <| aMv lfb <| aMv lib <| aMv rdb <| aMv stb <| aMv lfc <| aMv lic <| aMv rdc <| aMv stc <| aMv lfd <| aMv lid <| aMv wr <| aMv std <| aMv l6 <| aMv pt <| wt
 refine gT ?_
 exact oF fin
theorem aKl (hW : A.W) (w : WI) (F : Frm) (hf : dM w.op = F) (ho : w.op = 15) (ha : 0 ≤ w.a ∧ w.a < A.R) (hb : 0 ≤ w.b ∧ w.b < A.R) (hd : 0 ≤ w.d ∧ w.d < A.R) (hs : s.out.length ≤ 800000) :
  bD (aZ.f G (k + 10)) [BX, w.v] (A.hp s [⟨29, 6, [w.v]⟩]) = some (.tup [], A.hp (s.put (A.L.one w)) [⟨29, 6, [w.v]⟩]) := by
 apply kE
 rw [aZ.step]
 unfold aZ.c
 rw [kF]
 have r0 : ∀ H, aW (dY.f G (k + 9)) [I6 w.op] H = _ := fun H => cG (H := H) (iO G (k + 5) w.op) rfl rfl
 rw [hf] at r0
 have b1 : fR 29 w.v (A.hp s [⟨29, 6, [w.v]⟩]) = some (.ptr 11 1 0 0, A.hp s [⟨29, 6, [w.v]⟩, ⟨29, 6, [w.v]⟩]) := rfl
 have b2 : fR 100 (.agg [(.str ⟨#[]⟩), (.bool false), (.bool false), (.bool false), (.bool false), (.bool false)]) (A.hp s [⟨29, 6, [w.v]⟩, ⟨29, 6, [w.v]⟩]) = some (.ptr 12 1 0 0, A.hp s [⟨29, 6, [w.v]⟩, ⟨29, 6, [w.v]⟩, ⟨100, 6, [(.agg [(.str ⟨#[]⟩), (.bool false), (.bool false), (.bool false), (.bool false), (.bool false)])]⟩]) := rfl
 have st : fM (aV 6 (.ptr 12 1 0 0) (fW (cK w.op) F) (A.hp s [⟨29, 6, [w.v]⟩, ⟨29, 6, [w.v]⟩, ⟨100, 6, [(.agg [(.str ⟨#[]⟩), (.bool false), (.bool false), (.bool false), (.bool false), (.bool false)])]⟩])) = some (.tup [], A.hp s (TT w w F)) := rfl
 have fi0 : aA 0 (.ptr 11 1 0 0) = some (.ptr 11 1 0 0) := rfl
 have fi1 : aA 1 (.ptr 11 1 0 0) = some (.ptr 11 1 0 1) := rfl
 have fi2 : aA 2 (.ptr 11 1 0 0) = some (.ptr 11 1 0 2) := rfl
 have fi3 : aA 3 (.ptr 11 1 0 0) = some (.ptr 11 1 0 3) := rfl
 have fi4 : aA 4 (.ptr 11 1 0 0) = some (.ptr 11 1 0 4) := rfl
 have fi5 : aA 5 (.ptr 11 1 0 0) = some (.ptr 11 1 0 5) := rfl
 have ff1 : aA 1 (.ptr 12 1 0 0) = some (.ptr 12 1 0 1) := rfl
 have ff2 : aA 2 (.ptr 12 1 0 0) = some (.ptr 12 1 0 2) := rfl
 have ff3 : aA 3 (.ptr 12 1 0 0) = some (.ptr 12 1 0 3) := rfl
 have ff4 : aA 4 (.ptr 12 1 0 0) = some (.ptr 12 1 0 4) := rfl
 have l0 : aE G false 1 (.ptr 11 1 0 0) (A.hp s (TT w w F)) = some (I6 w.op) := rfl
 have l0' : aE G false 1 (.ptr 11 1 0 0) (A.hp s [⟨29, 6, [w.v]⟩, ⟨29, 6, [w.v]⟩]) = some (I6 w.op) := rfl
 have q15 : aX Tryd.prog .eql 3 true (I6 w.op) (.int .i64 15) = some (.bool true) := mX (by omega)
 have l6 : aE G true 6 (.ptr 11 1 0 0) (A.hp s (TT w w F)) = some w.v := rfl
 have ad := rH A s (TT w w F) G (k + 6) hW (iK w w F) w ha (by omega)
 have lad := vC A.L w
 have lra := iG A.L w.a 1
 obtain ⟨sa, esa⟩ : ∃ t, t = s.put (A.L.adC w) := ⟨_, rfl⟩
 rw [← esa] at ad
 have hsa : sa.out.length ≤ 800006 := by rw [esa, iN]; omega
 have eo : A.L.one w = A.L.adC w ++ ([⟨15, A.L.wrR w.d, 2, 0, 0, 0⟩] ++ A.L.wrC w.d) := by unfold LY.one; rw [if_pos ho]
 have ld1 : aE G false 1 (.ptr 11 1 0 1) (A.hp sa (TT w w F)) = some (I6 w.d) := rfl
 have wr := mO A sa (TT w w F) G (k + 8) hW (iK w w F) w.d hd
 have bs : cP [(0, 1), (1, 1), (2, 1), (3, 1), (4, 1), (5, 1)] [(.int .i64 0), (.int .i64 0), (.int .i64 0), (.int .i64 0), (.int .i64 0), (.int .i64 0)] [(0, .int .i64 15), (1, I6 (A.L.wrR w.d)), (2, .int .i64 2)] = some (WI.v ⟨15, A.L.wrR w.d, 2, 0, 0, 0⟩) := rfl
 have pt := iC A sa (TT w w F) G (k + 8) (iK w w F) ⟨15, A.L.wrR w.d, 2, 0, 0, 0⟩ (by omega)
 obtain ⟨sp, esp⟩ : ∃ t, t = sa.put [⟨15, A.L.wrR w.d, 2, 0, 0, 0⟩] := ⟨_, rfl⟩
 rw [← esp] at pt
 have hsp : sp.out.length ≤ 800007 := by rw [esp, iN]; show _ + 1 ≤ _; omega
 have ld2 : aE G false 1 (.ptr 11 1 0 1) (A.hp sp (TT w w F)) = some (I6 w.d) := rfl
 have wt := kN A sp (TT w w F) G (k + 7) hW (iK w w F) w.d hd (by omega)
 have es : s.put (A.L.one w) = sp.put (A.L.wrC w.d) := by rw [eo, esp, esa]; simp only [lY, List.append_assoc]
 have fin := aAM A (sp.put (A.L.wrC w.d)) [⟨29, 6, [w.v]⟩] [⟨29, 6, [w.v]⟩, ⟨100, 6, [fW (cK w.op) F]⟩] (yH w)
 generalize (⟨15, A.L.wrR w.d, 2, 0, 0, 0⟩ : WI) = x1 at *
 rw [es]
 have eT : [⟨29, 6, [w.v]⟩] ++ [⟨29, 6, [w.v]⟩, ⟨100, 6, [fW (cK w.op) F]⟩] = TT w w F := rfl
 rw [eT] at fin
 clear es eT eo esa esp
 refine gQ ?_
 have fx := aMv iQ <| aMv r0 <| aMv b1 <| aMv b2 <| aMv st <| aMv fi0 <| aMv fi1 <| aMv fi2 <| aMv fi3 <| aMv fi4 <| aMv fi5 <| aMv ff1 <| aMv ff2 <| aMv ff3 <| aMv ff4 <| aMv l0 <| aMv l0' <| aMv q15 <| aMv l6 <| aMv ad <| aMv ld1 <| aMv wr <| aMv bs <| aMv pt <| aMv ld2 <| wt
 refine gT ?_
 exact oF fin
theorem aKm (hW : A.W) (w : WI) (F : Frm) (hf : dM w.op = F) (ho : w.op = 16) (ha : 0 ≤ w.a ∧ w.a < A.R) (hb : 0 ≤ w.b ∧ w.b < A.R) (hd : 0 ≤ w.d ∧ w.d < A.R) (hs : s.out.length ≤ 800000) :
  bD (aZ.f G (k + 10)) [BX, w.v] (A.hp s [⟨29, 6, [w.v]⟩]) = some (.tup [], A.hp (s.put (A.L.one w)) [⟨29, 6, [w.v]⟩]) := by
 apply kE
 rw [aZ.step]
 unfold aZ.c
 rw [kF]
 have r0 : ∀ H, aW (dY.f G (k + 9)) [I6 w.op] H = _ := fun H => cG (H := H) (iO G (k + 5) w.op) rfl rfl
 rw [hf] at r0
 have b1 : fR 29 w.v (A.hp s [⟨29, 6, [w.v]⟩]) = some (.ptr 11 1 0 0, A.hp s [⟨29, 6, [w.v]⟩, ⟨29, 6, [w.v]⟩]) := rfl
 have b2 : fR 100 (.agg [(.str ⟨#[]⟩), (.bool false), (.bool false), (.bool false), (.bool false), (.bool false)]) (A.hp s [⟨29, 6, [w.v]⟩, ⟨29, 6, [w.v]⟩]) = some (.ptr 12 1 0 0, A.hp s [⟨29, 6, [w.v]⟩, ⟨29, 6, [w.v]⟩, ⟨100, 6, [(.agg [(.str ⟨#[]⟩), (.bool false), (.bool false), (.bool false), (.bool false), (.bool false)])]⟩]) := rfl
 have st : fM (aV 6 (.ptr 12 1 0 0) (fW (cK w.op) F) (A.hp s [⟨29, 6, [w.v]⟩, ⟨29, 6, [w.v]⟩, ⟨100, 6, [(.agg [(.str ⟨#[]⟩), (.bool false), (.bool false), (.bool false), (.bool false), (.bool false)])]⟩])) = some (.tup [], A.hp s (TT w w F)) := rfl
 have fi0 : aA 0 (.ptr 11 1 0 0) = some (.ptr 11 1 0 0) := rfl
 have fi1 : aA 1 (.ptr 11 1 0 0) = some (.ptr 11 1 0 1) := rfl
 have fi2 : aA 2 (.ptr 11 1 0 0) = some (.ptr 11 1 0 2) := rfl
 have fi3 : aA 3 (.ptr 11 1 0 0) = some (.ptr 11 1 0 3) := rfl
 have fi4 : aA 4 (.ptr 11 1 0 0) = some (.ptr 11 1 0 4) := rfl
 have fi5 : aA 5 (.ptr 11 1 0 0) = some (.ptr 11 1 0 5) := rfl
 have ff1 : aA 1 (.ptr 12 1 0 0) = some (.ptr 12 1 0 1) := rfl
 have ff2 : aA 2 (.ptr 12 1 0 0) = some (.ptr 12 1 0 2) := rfl
 have ff3 : aA 3 (.ptr 12 1 0 0) = some (.ptr 12 1 0 3) := rfl
 have ff4 : aA 4 (.ptr 12 1 0 0) = some (.ptr 12 1 0 4) := rfl
 have l0 : aE G false 1 (.ptr 11 1 0 0) (A.hp s (TT w w F)) = some (I6 w.op) := rfl
 have l0' : aE G false 1 (.ptr 11 1 0 0) (A.hp s [⟨29, 6, [w.v]⟩, ⟨29, 6, [w.v]⟩]) = some (I6 w.op) := rfl
 have q15 : aX Tryd.prog .eql 3 true (I6 w.op) (.int .i64 15) = some (.bool false) := gV (by omega)
 have q16 : aX Tryd.prog .eql 3 true (I6 w.op) (.int .i64 16) = some (.bool true) := mX (by omega)
 have l6 : aE G true 6 (.ptr 11 1 0 0) (A.hp s (TT w w F)) = some w.v := rfl
 have ad := rH A s (TT w w F) G (k + 6) hW (iK w w F) w ha (by omega)
 have lad := vC A.L w
 have lra := iG A.L w.a 1
 obtain ⟨sa, esa⟩ : ∃ t, t = s.put (A.L.adC w) := ⟨_, rfl⟩
 rw [← esa] at ad
 have hsa : sa.out.length ≤ 800006 := by rw [esa, iN]; omega
 have eo : A.L.one w = A.L.adC w ++ (A.L.rdC w.b 1 ++ [⟨16, 0, 2, A.L.rdR w.b 1, 0, 0⟩]) := by unfold LY.one; rw [if_neg (by omega), if_pos ho]
 have lb1 : aE G false 1 (.ptr 11 1 0 3) (A.hp sa (TT w w F)) = some (I6 w.b) := rfl
 have rd := jG A sa (TT w w F) G (k + 7) hW (iK w w F) w.b 1 hb (by omega)
 have lrb := iG A.L w.b 1
 obtain ⟨sb, esb⟩ : ∃ t, t = sa.put (A.L.rdC w.b 1) := ⟨_, rfl⟩
 rw [← esb] at rd
 have hsb : sb.out.length ≤ 800007 := by rw [esb, iN]; omega
 have bs : cP [(0, 1), (1, 1), (2, 1), (3, 1), (4, 1), (5, 1)] [(.int .i64 0), (.int .i64 0), (.int .i64 0), (.int .i64 0), (.int .i64 0), (.int .i64 0)] [(0, .int .i64 16), (2, .int .i64 2), (3, I6 (A.L.rdR w.b 1))] = some (WI.v ⟨16, 0, 2, A.L.rdR w.b 1, 0, 0⟩) := rfl
 have pt := iC A sb (TT w w F) G (k + 8) (iK w w F) ⟨16, 0, 2, A.L.rdR w.b 1, 0, 0⟩ (by omega)
 obtain ⟨sp, esp⟩ : ∃ t, t = sb.put [⟨16, 0, 2, A.L.rdR w.b 1, 0, 0⟩] := ⟨_, rfl⟩
 rw [← esp] at pt
 have es : s.put (A.L.one w) = sp := by rw [eo, esp, esb, esa]; simp only [lY, List.append_assoc]
 have fin := aAM A sp [⟨29, 6, [w.v]⟩] [⟨29, 6, [w.v]⟩, ⟨100, 6, [fW (cK w.op) F]⟩] (yH w)
 generalize (⟨16, 0, 2, A.L.rdR w.b 1, 0, 0⟩ : WI) = x1 at *
 clear esb
 rw [es]
 have eT : [⟨29, 6, [w.v]⟩] ++ [⟨29, 6, [w.v]⟩, ⟨100, 6, [fW (cK w.op) F]⟩] = TT w w F := rfl
 rw [eT] at fin
 clear es eT eo esa esp
 refine gQ ?_
 have fx := aMv iQ <| aMv r0 <| aMv b1 <| aMv b2 <| aMv st <| aMv fi0 <| aMv fi1 <| aMv fi2 <| aMv fi3 <| aMv fi4 <| aMv fi5 <| aMv ff1 <| aMv ff2 <| aMv ff3 <| aMv ff4 <| aMv l0 <| aMv l0' <| aMv q16 <| aMv q15 <| aMv l6 <| aMv ad <| aMv lb1 <| aMv rd <| aMv bs <| pt
 refine gT ?_
 exact oF fin
theorem aFG (hW : A.W) (w : WI) {n : Nat} (hg : w.Good A.R n) (hs : s.out.length ≤ 800000) :
  bD (aZ.f G (k + 10)) [BX, w.v] (A.hp s [⟨29, 6, [w.v]⟩]) = some (.tup [], A.hp (s.put (A.L.one w)) [⟨29, 6, [w.v]⟩]) := by
 obtain ⟨ga, gb, gc⟩ := tC hg
 have h20 := hg.ok2.ok.op
 have gd : (dM w.op).d = true → 0 ≤ w.d ∧ w.d < A.R := fun e => by
  refine hg.ok2.ok.d ?_
  rcases yG h20 with h | h | h | h | h | h | h | h | h | h | h | h | h | h | h | h | h | h | h | h <;> rw [h] at e ⊢ <;> first | decide | (exact absurd e (by decide))
 by_cases h15 : w.op = 15
 ·exact aKl A s G k hW w _ rfl h15 (hg.ok2.ok.a (by omega) (by omega)) (hg.ok2.ok.b (by omega)) (hg.ok2.ok.d (by omega)) hs
 by_cases h16 : w.op = 16
 ·exact aKm A s G k hW w _ rfl h16 (hg.ok2.ok.a (by omega) (by omega)) (hg.ok2.ok.b (by omega)) (hg.ok2.ok.d (by omega)) hs
 have hn : ¬ (w.op = 15 ∨ w.op = 16) := by omega
 have h0 : w.op = 17 ∨ w.op = 20 → dM w.op = ⟨false, false, false, false, true⟩ := by rintro (h | h) <;> rw [h] <;> rfl
 have h1 : w.op = 18 ∨ w.op = 19 → dM w.op = ⟨false, true, false, false, true⟩ := by rintro (h | h) <;> rw [h] <;> rfl
 have h2 : w.op = 1 → dM w.op = ⟨true, false, false, false, true⟩ := by rintro h; rw [h]; rfl
 have h3 : w.op = 2 → dM w.op = ⟨true, true, false, false, false⟩ := by rintro h; rw [h]; rfl
 have h4 : w.op = 10 ∨ w.op = 11 ∨ w.op = 12 → dM w.op = ⟨true, true, false, false, true⟩ := by rintro (h | h | h) <;> rw [h] <;> rfl
 have h5 : w.op = 3 ∨ w.op = 4 ∨ w.op = 5 ∨ w.op = 6 ∨ w.op = 7 ∨ w.op = 8 ∨ w.op = 9 ∨ w.op = 13 → dM w.op = ⟨true, true, true, false, false⟩ := by rintro (h | h | h | h | h | h | h | h) <;> rw [h] <;> rfl
 have h6 : w.op = 14 → dM w.op = ⟨true, true, true, true, false⟩ := by rintro h; rw [h]; rfl
 by_cases c0 : w.op = 17 ∨ w.op = 20
 ·exact aLb A s G k hW w _ (h0 c0) rfl hn ga gb gc gd hs
 by_cases c1 : w.op = 18 ∨ w.op = 19
 ·exact aLc A s G k hW w _ (h1 c1) rfl hn ga gb gc gd hs
 by_cases c2 : w.op = 1
 ·exact aLd A s G k hW w _ (h2 c2) rfl hn ga gb gc gd hs
 by_cases c3 : w.op = 2
 ·exact aGO A s G k hW w _ (h3 c3) rfl hn ga gb gc gd hs
 by_cases c4 : w.op = 10 ∨ w.op = 11 ∨ w.op = 12
 ·exact aGO A s G k hW w _ (h4 c4) rfl hn ga gb gc gd hs
 by_cases c6 : w.op = 14
 ·exact aGP A s G k hW w _ (h6 c6) rfl hn ga gb gc gd hs
 ·exact aIz A s G k hW w _ (h5 (by omega)) rfl hn ga gb gc gd hs
end
end Go.Proofs.YtlkgkfgkiidhdaaDoor.Mir
