/- Printed by rowgen.py: the row of LiveSays, out of its law in plain Lean. -/
import Derived.Test.YtlkgkfgkiidhdaaDoorVo9
import Derived.Test.YtlkgkfgkiidhdaaDoorTie
import Derived.Test.YtlkgkfgkiidhdaaDoorCards
import Derived.SevenTiedAt
namespace Go.Proofs.YtlkgkfgkiidhdaaDoor.Mir
open Go
set_option linter.unusedSimpArgs false
set_option linter.unusedVariables false
set_option maxHeartbeats 8000000
set_option maxRecDepth 20000
section
variable (G : aC) (k : Nat) (self : cK)
theorem aEl {v v' : AV} {l : List Int} (hv : IsL v l) (hv' : IsL v' l) (hl : l.length ≤ 100000) : ∀ (suf pre : List Int) (f : Nat), l = pre ++ suf → suf.length < f →
  cC (aT.l4 G k 0 self) f [v, v', .bool false, Nn pre.length] [] = some (.exit 0, [v, v', .bool false, Nn l.length], [])
 | suf, pre, 0, _, h => by omega
 | [], pre, f + 1, he, hf => by
  have e : pre = l := by rw [he]; simp
  subst e
  have hc : eF 0 [v, v', .bool false, Nn pre.length] [] = some [] := by simp [eF, bG, bS, hv.low, hv'.low]; simp [aV]
  have lc := hv.len
  have g1 : bC Tryd.prog .lss 3 false (Nn pre.length) (Nn pre.length) = some (.bool false) := dR (by omega)
  rw [aR, aT.l4]
  refine eM ?_
  refine eC hc ?_
  clear hc hv hv'
  generalize pre.length = pl at *
  have fx := aKI lc <| g1
  refine eH ?_
  refine fK ?_; rfl
 | y :: suf, pre, f + 1, he, hf => by
  have hj : pre.length < l.length := by rw [he]; simp
  have hy := aAC he hj
  have hc : eF 0 [v, v', .bool false, Nn pre.length] [] = some [] := by simp [eF, bG, bS, hv.low, hv'.low]; simp [aV]
  have lc := hv.len
  have g1 : bC Tryd.prog .lss 3 false (Nn pre.length) (Nn l.length) = some (.bool true) := dU (by omega)
  have q2 : bC Tryd.prog .add 3 true (Nn pre.length) (.int .i64 1) = some (Nn (pre.length + 1 : Nat)) := gR (by omega)
  obtain ⟨b1, i1⟩ := hv.at hj
  obtain ⟨b2, i2⟩ := hv'.at hj
  rw [hy] at i1 i2
  have d1 := yS G b1 y
  have d2 := yS G b2 y
  have g2 : bC Tryd.prog .eql 3 false (I6 y) (I6 y) = some (.bool true) := gH rfl
  have ih := aEl hv hv' hl suf (pre ++ [y]) f (by rw [he]; simp) (by simp only [List.length_cons] at hf; omega)
  have el : (pre ++ [y]).length = pre.length + 1 := by simp
  rw [el] at ih
  rw [aR, aT.l4]
  refine eM ?_
  refine eC hc ?_
  clear hc hv hv' he hy el
  generalize l.length = ll at *
  have fx := aKI lc <| aKI g1 <| aKI i1 <| aKI i2 <| aKI d1 <| aKI d2 <| aKI g2 <| q2
  refine eH ?_
  exact ih
theorem uU {v v' : AV} {l : List Int} (hv : IsL v l) (hv' : IsL v' l) (hl : l.length ≤ 100000) (hk : l.length < k) (H : aA) : aJ (aT.f G (k + 1)) [v, v'] H = some (.bool true, H) := by
 have lp := aEl G k (aT.f G k) hv hv' hl l [] k rfl hk
 replace lp : cC (aT.l4 G k ([] : aA).length (aT.f G k)) k [v, v', .bool false, .int .i64 0] [] = _ := lp
 have l1 := hv.len
 have l2 := hv'.len
 have g1 : bC Tryd.prog .neq 3 false (Nn l.length) (Nn l.length) = some (.bool false) := iD rfl
 refine aZ (H := H) ?_ (by simp [dK, hv.plain, hv'.plain]) rfl
 rw [aT.step]
 unfold aT.c
 refine fC ?_
 clear hv hv'
 generalize l.length = ll at *
 have fx := aKI l1 <| aKI l2 <| g1
 have lx1 := lp
 refine eH ?_
 exact w1b rfl
theorem aEm {vs vs' : List AV} {rows : List (List Int)} (hV : RowsV vs rows) (hV' : RowsV vs' rows) (hn : rows.length ≤ 1000) (hr : ∀ q, (rows.getD q []).length ≤ 1000) (hk : 2000 < k) : ∀ (d j f : Nat), j + d = rows.length → d < f →
  cC (aU.l4 G k 0 self) f [.ro false vs, .ro false vs', .bool false, Nn j] [] = some (.exit 0, [.ro false vs, .ro false vs', .bool false, Nn rows.length], [])
 | d, j, 0, _, h => by omega
 | d, j, f + 1, hd, hf => by
  have hc : eF 0 [.ro false vs, .ro false vs', .bool false, Nn j] [] = some [] := by simp [eF, bG, bS]; simp [aV, hV.below, hV'.below]
  have lc : cB (.ro false vs) = some (Nn rows.length) := by simp [cB, hV.len]
  match d, hd, hf with
  | 0, hd, hf =>
   have e : j = rows.length := by omega
   subst e
   have g1 : bC Tryd.prog .lss 3 false (Nn rows.length) (Nn rows.length) = some (.bool false) := dR (by omega)
   rw [aR, aU.l4]
   refine eM ?_
   refine eC hc ?_
   clear hc hV hV'
   generalize rows.length = pl at *
   have fx := aKI lc <| g1
   refine eH ?_
   refine fK ?_; rfl
  | d + 1, hd, hf =>
   have g1 : bC Tryd.prog .lss 3 false (Nn j) (Nn rows.length) = some (.bool true) := dU (by omega)
   have q2 : bC Tryd.prog .add 3 true (Nn j) (.int .i64 1) = some (Nn (j + 1 : Nat)) := gR (by omega)
   obtain ⟨v, a1, a2⟩ := hV.at_ j (by omega)
   obtain ⟨v', b1, b2⟩ := hV'.at_ j (by omega)
   have i1 := a2.idx a1 false
   have i2 := b2.idx b1 false
   have d1 := fun H => a2.ld G false H
   have d2 := fun H => b2.ld G false H
   have hrj := hr j
   have si := fun H => uU G (k - 1) a2.l b2.l (by omega) (by omega) H
   rw [show k - 1 + 1 = k by omega] at si
   have ih := aEm hV hV' hn hr hk d (j + 1) f (by omega) (by omega)
   rw [aR, aU.l4]
   refine eM ?_
   refine eC hc ?_
   clear hc hV hV' a1 a2 b1 b2 hrj hr
   generalize rows.length = ll at *
   have fx := aKI lc <| aKI g1 <| aKI i1 <| aKI i2 <| aKI d1 <| aKI d2 <| aKI si <| q2
   refine eH ?_
   exact ih
theorem aHv {vs vs' : List AV} {rows : List (List Int)} (hV : RowsV vs rows) (hV' : RowsV vs' rows) (hn : rows.length ≤ 1000) (hr : ∀ q, (rows.getD q []).length ≤ 1000) (hk : 2000 < k) (H : aA) : aJ (aU.f G (k + 1)) [.ro false vs, .ro false vs'] H = some (.bool true, H) := by
 have lp := aEm G k (aU.f G k) hV hV' hn hr hk rows.length 0 k (by omega) (by omega)
 replace lp : cC (aU.l4 G k ([] : aA).length (aU.f G k)) k [.ro false vs, .ro false vs', .bool false, .int .i64 0] [] = _ := lp
 have l1 : cB (.ro false vs) = some (Nn rows.length) := by simp [cB, hV.len]
 have l2 : cB (.ro false vs') = some (Nn rows.length) := by simp [cB, hV'.len]
 have g1 : bC Tryd.prog .neq 3 false (Nn rows.length) (Nn rows.length) = some (.bool false) := iD rfl
 refine aZ (H := H) ?_ (by simp [dK, bP, hV.plain, hV'.plain]) rfl
 rw [aU.step]
 unfold aU.c
 refine fC ?_
 clear hV hV'
 generalize rows.length = ll at *
 have fx := aKI l1 <| aKI l2 <| g1
 have lx1 := lp
 refine eH ?_
 exact w1b rfl
theorem aIB (a b : Nat) : nN rO (Nn a) [Nn b] = some (Nn (max a b : Nat)) := by
 have e : ((max a b : Nat) : Int) = max (a : Int) (b : Int) := by omega
 show nN rO (.int .i64 (a : Int)) [.int .i64 (b : Int)] = some (.int .i64 ((max a b : Nat) : Int))
 rw [aHP, e]
def iA (rows : List (List Int)) : Nat → Nat
 | 0 => 0
 | j + 1 => max (iA rows j) (rows.getD j []).length
theorem xJ {vs : List AV} {rows : List (List Int)} (hV : RowsV vs rows) (hn : rows.length ≤ 1000) : ∀ (d j f : Nat), j + d = rows.length → d < f →
  cC (bI.l4 G k 0 self) f [Nn (iA rows j), .ro false vs, Nn j] [] = some (.exit 0, [Nn (iA rows rows.length), .ro false vs, Nn rows.length], [])
 | d, j, 0, _, h => by omega
 | d, j, f + 1, hd, hf => by
  have hc : eF 0 [Nn (iA rows j), .ro false vs, Nn j] [] = some [] := by simp [eF, bG, bS]; simp [aV, hV.below]
  have lc : cB (.ro false vs) = some (Nn rows.length) := by simp [cB, hV.len]
  match d, hd, hf with
  | 0, hd, hf =>
   have e : j = rows.length := by omega
   subst e
   have g1 : bC Tryd.prog .lss 3 false (Nn rows.length) (Nn rows.length) = some (.bool false) := dR (by omega)
   rw [aR, bI.l4]
   refine eM ?_
   refine eC hc ?_
   clear hc hV
   generalize iA rows rows.length = mm at *
   generalize rows.length = pl at *
   have fx := aKI lc <| g1
   refine eH ?_
   refine fK ?_; rfl
  | d + 1, hd, hf =>
   have g1 : bC Tryd.prog .lss 3 false (Nn j) (Nn rows.length) = some (.bool true) := dU (by omega)
   have q2 : bC Tryd.prog .add 3 true (Nn j) (.int .i64 1) = some (Nn (j + 1 : Nat)) := gR (by omega)
   obtain ⟨v, a1, a2⟩ := hV.at_ j (by omega)
   have i1 := a2.idx a1 false
   have d1 := fun H => a2.ld G false H
   have lr := a2.l.len
   have mx := aIB (iA rows j) (rows.getD j []).length
   have ih := xJ hV hn d (j + 1) f (by omega) (by omega)
   rw [iA] at ih
   rw [aR, bI.l4]
   refine eM ?_
   refine eC hc ?_
   clear hc hV a1 a2
   generalize iA rows rows.length = mm at *
   generalize max (iA rows j) (rows.getD j []).length = mj1 at *
   generalize iA rows j = mj at *
   generalize (rows.getD j []).length = rl at *
   generalize rows.length = ll at *
   have fx := aKI lc <| aKI g1 <| aKI i1 <| aKI d1 <| aKI lr <| aKI mx <| q2
   refine eH ?_
   exact ih
theorem zB {vs : List AV} {rows : List (List Int)} (hV : RowsV vs rows) (hn : rows.length ≤ 1000) : ∀ (d j f : Nat), j + d = rows.length → d < f →
  cC (dF.l6 G k 0 self) f [Nn (iA rows j), .ro false vs, Nn rows.length, Nn j] [] = some (.exit 0, [Nn (iA rows rows.length), .ro false vs, Nn rows.length, Nn rows.length], [])
 | d, j, 0, _, h => by omega
 | d, j, f + 1, hd, hf => by
  have hc : eF 0 [Nn (iA rows j), .ro false vs, Nn rows.length, Nn j] [] = some [] := by simp [eF, bG, bS]; simp [aV, hV.below]
  match d, hd, hf with
  | 0, hd, hf =>
   have e : j = rows.length := by omega
   subst e
   have g1 : bC Tryd.prog .lss 3 false (Nn rows.length) (Nn rows.length) = some (.bool false) := dR (by omega)
   rw [aR, dF.l6]
   refine eM ?_
   refine eC hc ?_
   clear hc hV
   generalize iA rows rows.length = mm at *
   generalize rows.length = pl at *
   have fx := g1
   refine eH ?_
   refine fK ?_; rfl
  | d + 1, hd, hf =>
   have g1 : bC Tryd.prog .lss 3 false (Nn j) (Nn rows.length) = some (.bool true) := dU (by omega)
   have q2 : bC Tryd.prog .add 3 true (Nn j) (.int .i64 1) = some (Nn (j + 1 : Nat)) := gR (by omega)
   obtain ⟨v, a1, a2⟩ := hV.at_ j (by omega)
   have i1 := a2.idx a1 false
   have d1 := fun H => a2.ld G false H
   have lr := a2.l.len
   have mx := aIB (iA rows j) (rows.getD j []).length
   have ih := zB hV hn d (j + 1) f (by omega) (by omega)
   rw [iA] at ih
   rw [aR, dF.l6]
   refine eM ?_
   refine eC hc ?_
   clear hc hV a1 a2
   generalize iA rows rows.length = mm at *
   generalize max (iA rows j) (rows.getD j []).length = mj1 at *
   generalize iA rows j = mj at *
   generalize (rows.getD j []).length = rl at *
   generalize rows.length = ll at *
   have fx := aKI g1 <| aKI i1 <| aKI d1 <| aKI lr <| aKI mx <| q2
   refine eH ?_
   exact ih
theorem aDL {vs : List AV} {rows : List (List Int)} (hV : RowsV vs rows) (hn : rows.length ≤ 1000) (b : Bool) (ws : List WI) (R M : Int) (hk : 2000 < k) (hI : aN.f G k [cV b ws R M] [] = some (.ro false vs, [])) :
  bI.f G (k + 1) [cV b ws R M] [] = some (Nn (iA rows rows.length), []) := by
 have ri : ∀ H, aJ (aN.f G k) [cV b ws R M] H = _ := fun H => aZ (H := H) hI (by simp [dK, bP, cV, jA]) (by simp [dV, hV.clean])
 have lp := xJ G k (bI.f G k) hV hn rows.length 0 k (by omega) (by omega)
 replace lp : cC (bI.l4 G k ([] : aA).length (bI.f G k)) k [.int .i64 0, .ro false vs, .int .i64 0] [] = _ := lp
 have b0 : ∀ H, eE (cV b ws R M) H = some (.rp false (cV b ws R M) 0, H) := fun H => rfl
 have l0 : ∀ H, aH G true 3 (.rp false (cV b ws R M) 0) H = some (cV b ws R M) := fun H => rfl
 rw [bI.step]
 unfold bI.c
 refine fC ?_
 clear hV hI
 generalize cV b ws R M = C at *
 generalize iA rows rows.length = mm at *
 generalize rows.length = ll at *
 have fx := aKI b0 <| aKI l0 <| ri
 have lx1 := lp
 refine eH ?_
 exact w1 rfl rfl
theorem aFe {vs : List AV} {rows : List (List Int)} (hV : RowsV vs rows) (hn : rows.length ≤ 1000) (b : Bool) (ws : List WI) (R M : Int) (hk : 2000 < k) (hI : bB.f G k [cV b ws R M] [] = some (.tup [.ro false vs, .nili], [])) :
  dF.f G (k + 1) [cV b ws R M] [] = some (.tup [Nn (iA rows rows.length), .nili], []) := by
 have ri : ∀ H, aJ (bB.f G k) [cV b ws R M] H = _ := fun H => aZ (H := H) hI (by simp [dK, bP, cV, jA]) (by simp [dV, fW, hV.clean])
 have lp := zB G k (dF.f G k) hV hn rows.length 0 k (by omega) (by omega)
 replace lp : cC (dF.l6 G k ([] : aA).length (dF.f G k)) k [.int .i64 0, .ro false vs, Nn rows.length, .int .i64 0] [] = _ := lp
 have b0 : ∀ H, eE (cV b ws R M) H = some (.rp false (cV b ws R M) 0, H) := fun H => rfl
 have l0 : ∀ H, aH G true 3 (.rp false (cV b ws R M) 0) H = some (cV b ws R M) := fun H => rfl
 have q5 : bC Tryd.prog .neq 33 true .nili .nili = some (.bool false) := by kernel_rfl
 have lc : cB (.ro false vs) = some (Nn rows.length) := by simp [cB, hV.len]
 rw [dF.step]
 unfold dF.c
 refine fC ?_
 clear hV hI
 generalize cV b ws R M = C at *
 generalize iA rows rows.length = mm at *
 generalize rows.length = ll at *
 have fx := aKI b0 <| aKI l0 <| aKI ri <| aKI q5 <| lc
 have lx1 := lp
 refine eH ?_
 exact w2 rfl rfl rfl
theorem aFR (hg : GOk G) (b : Bool) (ws : List WI) (R M : Int) (hk : ws.length < k + 7) (hl : ws.length ≤ 100000) (h : fA ws R M ≠ .ok) :
  dF.f G (k + 10) [cV b ws R M] [] = some (.tup [.int .i64 0, tD (fA ws R M)], []) := by
 have ri : ∀ H, aJ (bB.f G (k + 9)) [cV b ws R M] H = _ := fun H => aZ (H := H) (aAt G hg k b ws R M hk hl h) (by simp [dK, bP, cV, jA]) (by simp [dV, fW, kW])
 have b0 : ∀ H, eE (cV b ws R M) H = some (.rp false (cV b ws R M) 0, H) := fun H => rfl
 have l0 : ∀ H, aH G true 3 (.rp false (cV b ws R M) 0) H = some (cV b ws R M) := fun H => rfl
 have q1 : bC Tryd.prog .neq 33 true (tD (fA ws R M)) .nili = some (.bool true) := sU h
 have fin : cS [.int .i64 0, tD (fA ws R M)] 0 [] = some (.ret, [.tup [.int .i64 0, tD (fA ws R M)]], []) := gY (by simp [aV, bG, iQ, aEY]) _
 rw [dF.step]
 unfold dF.c
 refine fC ?_
 generalize cV b ws R M = C at *
 generalize tD (fA ws R M) = V at *
 have fx := aKI b0 <| aKI l0 <| aKI ri <| q1
 refine eH ?_
 exact oF fin
theorem aBi (cs : List WI) (R M : Int) : bL.f G (k + 1) [cV false cs R M] [] = some (cV false cs R M, []) := by
 rw [bL.step]
 unfold bL.c cV
 refine fC ?_
 repeat' first
  | (with_reducible first | refine eT ?_ | refine eN ?_ | refine eS ?_ | refine eXn ?_ | refine eXr ?_ | refine eX ?_ | refine eI ?_ | refine eK ?_ | refine eV0 ?_ | refine wD ?_ | refine aCd ?_ | refine aBZ ?_ | refine aCc ?_ | refine aCa ?_ | refine aCb ?_)
  | ((with_reducible apply eCn); (simp only [eZ, eY]; first | done | (with_reducible exact rfl)))
  | ((with_reducible apply eJ); (rfl))
  | ((with_reducible apply wE); (first | rfl | (simp only [eZ, eY]; rfl)))
  | ((with_reducible apply eB); (first | (with_reducible exact rfl) | (simp (disch := omega) only [qa, jU, AV.cells, fP, eU, kG, dN, gQ, iV, Nat.reduceLeDiff, Nat.reduceLT, Nat.reduceAdd, ↓reduceIte]; first | done | (with_reducible exact rfl) | (with_reducible exact ⟨rfl, rfl⟩))))
  | ((with_reducible apply eR); (simp only [eZ, eY]; (with_reducible exact rfl)))
  | ((with_reducible first | refine aDP ?_ ?_ | refine aDU ?_ ?_ | refine aDT ?_ ?_ | refine aDS ?_ ?_ | refine aDR ?_ ?_ | refine aDQ ?_ ?_ | refine aDV ?_ ?_ | refine xR ?_ ?_ | refine sGd ?_ ?_ | refine wC ?_ ?_) <;> intro hq <;> try subst hq)
 refine oF ?_
 unfold jM
 exact gY (by simp [aV, bG, fH, AV.cells]) _
end
section
variable (G : aC) (k : Nat) (self : cK)
theorem yY {v : AV} {l : List Int} (hv : IsL v l) (x : Int) (hn : l.length ≤ 100000) : ∀ (suf pre : List Int) (f : Nat), l = pre ++ suf → suf.length < f →
  (x ∈ suf → ∃ j, cC (bR.l2 G k 0 self) f [v, I6 x, .bool false, Nn pre.length] [] = some (.ret, [v, I6 x, .bool true, j], [])) ∧
  (x ∉ suf → cC (bR.l2 G k 0 self) f [v, I6 x, .bool false, Nn pre.length] [] = some (.exit 0, [v, I6 x, .bool false, Nn l.length], []))
 | suf, pre, 0, _, h => by omega
 | [], pre, f + 1, hl, hf => by
  refine ⟨(fun h => by cases h), (fun _ => ?_)⟩
  have e : pre = l := by rw [hl]; simp
  subst e
  have hc : eF 0 [v, I6 x, .bool false, Nn pre.length] [] = some [] := by simp [eF, bG, bS, hv.low]; simp [aV]
  have lc := hv.len
  have g1 : bC Tryd.prog .lss 3 false (Nn pre.length) (Nn pre.length) = some (.bool false) := dR (by omega)
  rw [aR, bR.l2]
  refine eM ?_
  refine eC hc ?_
  clear hc hv
  generalize pre.length = pl at *
  have fx := aKI lc <| g1
  refine eH ?_
  refine fK ?_; rfl
 | y :: suf, pre, f + 1, hl, hf => by
  have hj : pre.length < l.length := by rw [hl]; simp
  have hy := aAC hl hj
  have hc : eF 0 [v, I6 x, .bool false, Nn pre.length] [] = some [] := by simp [eF, bG, bS, hv.low]; simp [aV]
  have lc := hv.len
  have g1 : bC Tryd.prog .lss 3 false (Nn pre.length) (Nn l.length) = some (.bool true) := dU (by omega)
  have q2 : bC Tryd.prog .add 3 true (Nn pre.length) (.int .i64 1) = some (Nn (pre.length + 1 : Nat)) := gR (by omega)
  obtain ⟨b1, ia⟩ := hv.at hj
  rw [hy] at ia
  have ld := yS G b1 y
  by_cases e : y = x
  ·have g2 : bC Tryd.prog .eql 3 false (I6 y) (I6 x) = some (.bool true) := gH e
   refine ⟨(fun _ => ⟨Nn pre.length, ?_⟩), (fun h => absurd (by rw [e]; exact List.mem_cons_self ..) h)⟩
   rw [aR, bR.l2]
   refine eM ?_
   refine eC hc ?_
   clear hc hv hl hy
   generalize l.length = ll at *
   have fx := aKI lc <| aKI g1 <| aKI ia <| aKI ld <| g2
   refine eH ?_
   refine fK ?_; rfl
  ·have g2 : bC Tryd.prog .eql 3 false (I6 y) (I6 x) = some (.bool false) := fU e
   obtain ⟨h1, h2⟩ := yY hv x hn suf (pre ++ [y]) f (by rw [hl]; simp) (by simp only [List.length_cons] at hf; omega)
   have el : (pre ++ [y]).length = pre.length + 1 := by simp
   rw [el] at h1 h2
   refine ⟨(fun h => ?_), (fun h => ?_)⟩
   ·rcases List.mem_cons.1 h with h | h
    ·exact absurd h.symm e
    obtain ⟨j, ih⟩ := h1 h
    refine ⟨j, ?_⟩
    rw [aR, bR.l2]
    refine eM ?_
    refine eC hc ?_
    clear hc hv h1 h2 hl hy h
    generalize l.length = ll at *
    have fx := aKI lc <| aKI g1 <| aKI ia <| aKI ld <| aKI g2 <| q2
    refine eH ?_
    exact ih
   ·have ih := h2 fun q => h (List.mem_cons_of_mem _ q)
    rw [aR, bR.l2]
    refine eM ?_
    refine eC hc ?_
    clear hc hv h1 h2 hl hy h
    generalize l.length = ll at *
    have fx := aKI lc <| aKI g1 <| aKI ia <| aKI ld <| aKI g2 <| q2
    refine eH ?_
    exact ih
theorem aFd {v : AV} {l : List Int} (hv : IsL v l) (x : Int) (hl : l.length ≤ 100000) (hk : l.length + 1 < k) (H : aA) : aJ (bR.f G k) [v, I6 x] H = some (.bool (l.contains x), H) := by
 obtain ⟨kk, rfl⟩ : ∃ kk, k = kk + 1 := ⟨k - 1, by omega⟩
 refine aZ (H := H) ?_ (by simp [dK, hv.plain, bP]) rfl
 rw [bR.step]
 unfold bR.c
 obtain ⟨h1, h2⟩ := yY G kk (bR.f G kk) hv x hl l [] kk rfl (by omega)
 refine fC ?_
 by_cases h : x ∈ l
 ·obtain ⟨j, lp⟩ := h1 h
  replace lp : cC (bR.l2 G kk ([] : aA).length (bR.f G kk)) kk [v, I6 x, .bool false, .int .i64 0] [] = _ := lp
  have e : l.contains x = true := by simpa using h
  rw [e]
  clear h1 h2 hv
  have fx := True.intro
  have lx1 := lp
  refine eH ?_
  exact w1b rfl
 ·have lp := h2 h
  replace lp : cC (bR.l2 G kk ([] : aA).length (bR.f G kk)) kk [v, I6 x, .bool false, .int .i64 0] [] = _ := lp
  have e : l.contains x = false := by simpa using h
  rw [e]
  clear h1 h2 hv
  generalize l.length = ll at *
  have fx := True.intro
  have lx1 := lp
  refine eH ?_
  exact w1b rfl
def pX (ws : List WI) (rows : List (List Int)) (i : Nat) : Bool :=
 (dD (ws.getD i default).op).d && !(decide ((ws.getD i default).op = 15)) && !((lX ws rows i).contains (ws.getD i default).d)
def gO (ws : List WI) (rows : List (List Int)) (i : Nat) : List Int := ((List.range i).filter (pX ws rows)).map fun q : Nat => (q : Int)
theorem aDs (ws : List WI) (rows : List (List Int)) (i : Nat) : gO ws rows (i + 1) = gO ws rows i ++ if pX ws rows i = true then [(i : Int)] else [] := by
 unfold gO
 rw [List.range_succ, List.filter_append, List.map_append]
 congr 1
 by_cases h : pX ws rows i = true <;> simp [h]
theorem aFl (ws : List WI) (rows : List (List Int)) (i : Nat) : (gO ws rows i).length ≤ i := by
 have := List.length_filter_le (pX ws rows) (List.range i)
 simpa [gO] using this
variable (ws : List WI) (R : Nat) (M : Int)
theorem xI {vs : List AV} {rows : List (List Int)} (hV : RowsV vs rows) (hO : RowsOk R ws.length rows) (b' : Bool) (hg : ∀ w ∈ ws, w.Good R ws.length) (hn : ws.length ≤ 1000) (hR : R ≤ 900) (hk : 12000 < k) : ∀ (d i f : Nat) (X : aA), i + d = ws.length → d < f →
  cC (bH.l4 G k 2 self) f [.rp false (cV b' ws R M) 0, .ro false vs, .sl 1 (gO ws rows i).length 0 (gO ws rows i).length 1, Nn i] (hI 1 (gO ws rows i) X) =
   some (.exit 0, [.rp false (cV b' ws R M) 0, .ro false vs, .sl 1 (gO ws rows ws.length).length 0 (gO ws rows ws.length).length 1, Nn ws.length], hI 1 (gO ws rows ws.length) [])
 | d, i, 0, X, _, h => by omega
 | d, i, f + 1, X, hd, hf => by
  have hC0 : aV 0 (cV b' ws R M) = true := by simp [cV, aV, bG, fH]
  have hC2 := eA (Nat.zero_le 2) hC0
  have hc := wK 1 (gO ws rows i) X (xs := [.rp false (cV b' ws R M) 0, .ro false vs, .sl 1 (gO ws rows i).length 0 (gO ws rows i).length 1, Nn i]) (by simp [bG]; simp [aV, hC2, hV.below])
  have f0 : aF 0 (.rp false (cV b' ws R M) 0) = some (.rp false (cV b' ws R M) 0) := rfl
  have lI : ∀ H, aH G false 1 (.rp false (cV b' ws R M) 0) H = some (.ro b' (cJ ws)) := fun H => rfl
  have ln : cB (.ro b' (cJ ws)) = some (Nn ws.length) := by simp [cB, fY]
  match d, hd, hf with
  | 0, hd, hf =>
   have e : i = ws.length := by omega
   subst e
   have g1 : bC Tryd.prog .lss 3 false (Nn ws.length) (Nn ws.length) = some (.bool false) := dR (by omega)
   rw [aR, bH.l4]
   refine eM ?_
   refine eC hc ?_
   clear hc hV
   generalize cV b' ws R M = C at *
   generalize cJ ws = WS at *
   have fx := aKI f0 <| aKI lI <| aKI ln <| g1
   refine eH ?_
   refine fK ?_; rfl
  | d + 1, hd, hf =>
   have hi : i < ws.length := by omega
   have g1 : bC Tryd.prog .lss 3 false (Nn i) (Nn ws.length) = some (.bool true) := dU (by omega)
   have q2 : bC Tryd.prog .add 3 true (Nn i) (.int .i64 1) = some (Nn (i + 1 : Nat)) := gR (by omega)
   have l0 : ∀ H, aH G true 3 (.rp false (cV b' ws R M) 0) H = some (cV b' ws R M) := fun H => rfl
   have ia := rG b' ws i hi
   obtain ⟨w, hw⟩ : ∃ w, w = ws.getD i default := ⟨_, rfl⟩
   rw [← hw] at ia
   have li := fun H => wS G b' w H
   have fo : aF 0 (.rp b' w.v 0) = some (.rp b' w.v 0) := rfl
   have lo : ∀ H, aH G false 1 (.rp b' w.v 0) H = some (I6 w.op) := fun H => rfl
   have hWr := nI G (k - 2) w
   rw [show k - 2 + 2 = k by omega] at hWr
   have rw_ : ∀ H, aJ (aY.f G k) [w.v] H = some (.tup [I6 (if (dD w.op).d = true then w.d else 0), .bool (dD w.op).d], H) := fun H => aZ (H := H) hWr rfl rfl
   obtain ⟨bv, hb1, hb2⟩ := tJ G (k - 1) hV false b' ws R M i hi hn hO.len (fun q => by have := hO.row q; omega) (by omega)
   rw [show k - 1 + 1 = k by omega] at hb1
   have rb : ∀ H, aJ (aP.f G k) [cV b' ws R M, .ro false vs, Nn i] H = some (bv, H) := fun H => aZ (H := H) hb1 (by simp [dK, bP, cV, jA, hV.plain]) hb2.clean
   have hbl : (lX ws rows i).length ≤ 4000 := by
    have h1 := nB rows (fun q => by have := hO.row q; omega) (nxP ws.length (ws.getD i default) i) []
    have h2 := vA ws.length (ws.getD i default) i
    unfold lX
    simp only [List.length_nil] at h1
    omega
   have rh := fun H => aFd G k hb2.l w.d (by omega) (by omega) H
   have hD := aDs ws rows i
   have hdq : pX ws rows i = ((dD w.op).d && !(decide (w.op = 15)) && !((lX ws rows i).contains w.d)) := by rw [hw]; rfl
   obtain ⟨D, hDe⟩ : ∃ D, D = gO ws rows i := ⟨_, rfl⟩
   have hDl : D.length ≤ i := by rw [hDe]; exact aFl ws rows i
   rw [← hDe] at hc hD ⊢
   have ihE := xI hV hO b' hg hn hR hk d (i + 1) f [] (by omega) (by omega)
   rw [hD] at ihE
   rw [aR, bH.l4]
   refine eM ?_
   refine eC hc ?_
   clear hc hV hO hD hw hb1 hb2 hWr hDe hbl
   generalize (lX ws rows i).contains w.d = cb at *
   cases hfd : (dD w.op).d with
   | false =>
    rw [hfd] at rw_ hdq
    have e0 : pX ws rows i = false := hdq
    rw [e0] at ihE
    simp only [Bool.false_eq_true, if_false, List.append_nil] at ihE rw_
    generalize hI 1 (gO ws rows ws.length) [] = hE at *
    generalize (gO ws rows ws.length).length = dE at *
    generalize hI 1 D [] = h1 at *
    generalize D.length = dl at *
    generalize w.v = wv at *
    generalize cV b' ws R M = C at *
    generalize cJ ws = WS at *
    generalize AV.ro false vs = VS at *
    have fx := aKI f0 <| aKI lI <| aKI ln <| aKI g1 <| aKI ia <| aKI li <| aKI rw_ <| q2
    refine eH ?_
    exact ihE
   | true =>
    rw [hfd] at rw_ hdq
    simp only [if_true] at rw_
    by_cases h15 : w.op = 15
    ·have q3 : bC Tryd.prog .neq 3 true (I6 w.op) (.int .i64 15) = some (.bool false) := iD h15
     have e0 : pX ws rows i = false := by rw [hdq, decide_eq_true h15]; rfl
     rw [e0] at ihE
     simp only [Bool.false_eq_true, if_false, List.append_nil] at ihE
     generalize hI 1 (gO ws rows ws.length) [] = hE at *
     generalize (gO ws rows ws.length).length = dE at *
     generalize hI 1 D [] = h1 at *
     generalize D.length = dl at *
     generalize w.v = wv at *
     generalize cV b' ws R M = C at *
     generalize cJ ws = WS at *
     generalize AV.ro false vs = VS at *
     have fx := aKI f0 <| aKI lI <| aKI ln <| aKI g1 <| aKI ia <| aKI li <| aKI rw_ <| aKI q2 <| aKI fo <| aKI lo <| q3
     refine eH ?_
     exact ihE
    ·have q3 : bC Tryd.prog .neq 3 true (I6 w.op) (.int .i64 15) = some (.bool true) := gW h15
     rw [decide_eq_false h15] at hdq
     cases cb with
     | true =>
      have e0 : pX ws rows i = false := hdq
      rw [e0] at ihE
      simp only [Bool.false_eq_true, if_false, List.append_nil] at ihE
      generalize hI 1 (gO ws rows ws.length) [] = hE at *
      generalize (gO ws rows ws.length).length = dE at *
      generalize hI 1 D [] = h1 at *
      generalize D.length = dl at *
      generalize w.v = wv at *
      generalize cV b' ws R M = C at *
      generalize cJ ws = WS at *
      generalize AV.ro false vs = VS at *
      have fx := aKI f0 <| aKI lI <| aKI ln <| aKI g1 <| aKI ia <| aKI li <| aKI rw_ <| aKI q2 <| aKI fo <| aKI lo <| aKI q3 <| aKI l0 <| aKI rb <| rh
      refine eH ?_
      exact ihE
     | false =>
      have e0 : pX ws rows i = true := hdq
      rw [e0, if_pos rfl] at ihE
      have br : ∀ H, dN 1 1 (.int .i64 0) [(0, Nn i)] H = some (.ro false (I3.intsI [(i : Int)]), H) := fun H => rfl
      have ap := wJ 1 D [] (IsL.ro false [(i : Int)]) (by simp only [List.length_cons, List.length_nil]; omega)
      generalize I3.intsI [(i : Int)] = yl at *
      generalize hI 1 (gO ws rows ws.length) [] = hE at *
      generalize (gO ws rows ws.length).length = dE at *
      generalize hI 1 (D ++ [(i : Int)]) [] = h2 at *
      generalize (D ++ [(i : Int)]).length = dl2 at *
      generalize hI 1 D [] = h1 at *
      generalize D.length = dl at *
      generalize w.v = wv at *
      generalize cV b' ws R M = C at *
      generalize cJ ws = WS at *
      generalize AV.ro false vs = VS at *
      have fx := aKI f0 <| aKI lI <| aKI ln <| aKI g1 <| aKI ia <| aKI li <| aKI rw_ <| aKI q2 <| aKI fo <| aKI lo <| aKI q3 <| aKI l0 <| aKI rb <| aKI rh <| aKI br <| ap
      refine eH ?_
      exact ihE
theorem aDK {vs : List AV} {rows : List (List Int)} (hV : RowsV vs rows) (hO : RowsOk R ws.length rows) (b' : Bool) (hg : ∀ w ∈ ws, w.Good R ws.length) (hn : ws.length ≤ 1000) (hR : R ≤ 900) (hk : 12000 < k) (hIn : aN.f G k [cV b' ws R M] [] = some (.ro false vs, [])) :
  bH.f G (k + 1) [cV b' ws R M] [] = some (.ro false (I3.intsI (gO ws rows ws.length)), []) := by
 have ri : ∀ H, aJ (aN.f G k) [cV b' ws R M] H = _ := fun H => aZ (H := H) hIn (by simp [dK, bP, cV, jA]) (by simp [dV, hV.clean])
 have lp := xI G k (bH.f G k) ws R M hV hO b' hg hn hR hk ws.length 0 k [] (by omega) (by omega)
 replace lp : cC (bH.l4 G k ([⟨3, 1, []⟩, ⟨3, 1, []⟩] : aA).length (bH.f G k)) k [.rp false (cV b' ws R M) 0, .ro false vs, .sl 1 0 0 0 1, .int .i64 0] [⟨3, 1, []⟩, ⟨3, 1, []⟩] = _ := lp
 have b0 : ∀ H, eE (cV b' ws R M) H = some (.rp false (cV b' ws R M) 0, H) := fun H => rfl
 have l0 : ∀ H, aH G true 3 (.rp false (cV b' ws R M) 0) H = some (cV b' ws R M) := fun H => rfl
 have fin := aAX 1 (gO ws rows ws.length) []
 rw [bH.step]
 unfold bH.c
 refine fC ?_
 clear hV hO hIn
 generalize hI 1 (gO ws rows ws.length) [] = hE at *
 generalize I3.intsI (gO ws rows ws.length) = dI at *
 generalize (gO ws rows ws.length).length = dE at *
 generalize cV b' ws R M = C at *
 generalize AV.ro false vs = VS at *
 have fx := aKI b0 <| aKI l0 <| ri
 have lx1 := lp
 refine eH ?_
 exact oF fin
end
theorem aFG {ws : List WI} {R : Nat} (hg : ∀ w ∈ ws, w.Good R ws.length) {rows : List (List Int)} {out : List (List Nat)} (hrow : ∀ p, p < ws.length → rows.getD p [] = (out.getD p []).map fun q : Nat => (q : Int)) :
  gO ws rows ws.length = (jF ws out ws.length).map fun q : Nat => (q : Int) := by
 unfold gO jF
 congr 1
 refine List.filter_congr fun i hi => ?_
 have hi' := List.mem_range.1 hi
 have hw : (ws.getD i default) ∈ ws := by rw [List.getD_eq_getElem?_getD, List.getElem?_eq_getElem hi']; exact List.getElem_mem hi'
 unfold pX pW
 cases hd : (dD (ws.getD i default).op).d with
 | false => rfl
 | true =>
  have hop := (hg _ hw).ok2.ok.op
  have h15 : (ws.getD i default).op ≤ 15 := by
   by_cases h16 : (ws.getD i default).op ≤ 15
   ·exact h16
   ·rw [aCo (by omega)] at hd; cases hd
  have hdd := (hg _ hw).ok2.ok.d (by omega)
  congr 2
  rw [Bool.eq_iff_iff]
  simp only [List.contains_iff_mem, List.any_eq_true]
  unfold lX
  rw [nC]
  constructor
  ·rintro (⟨q, h1, h2⟩ | h)
   ·have hq := aDJ q h1
    refine ⟨q.toNat, ((hU ws i).2.2.2.2 _).2 ⟨by omega, ?_⟩, ?_⟩
    ·rw [Int.toNat_of_nonneg hq.1]
     have := (pK (by omega)).1 h1
     unfold sW at this
     exact (List.mem_filter.1 this).1
    ·rw [hrow _ (by omega), List.mem_map] at h2
     obtain ⟨y, h3, h4⟩ := h2
     have : (ws.getD i default).d.toNat = y := by omega
     rw [this]; exact h3
   ·cases h
  ·rintro ⟨a, h1, h2⟩
   obtain ⟨n1, n2⟩ := ((hU ws i).2.2.2.2 a).1 h1
   refine .inl ⟨(a : Int), (pK (by omega)).2 ?_, ?_⟩
   ·unfold sW
    rw [List.mem_filter]
    exact ⟨n2, by simp [n1]⟩
   ·rw [Int.toNat_natCast, hrow a n1, List.mem_map]
    exact ⟨_, h2, Int.toNat_of_nonneg hdd.1⟩
theorem wX (l : List Nat) : bV l = I3.intsI (l.map fun q : Nat => (q : Int)) := by
 unfold bV I3.intsI
 rw [List.map_map]; rfl
theorem aHg (out : List (List Nat)) : RowsV (out.map fun l => AV.ro false (bV l)) (out.map fun l => l.map fun q : Nat => (q : Int)) := by
 refine ⟨by simp, fun q hq => ?_⟩
 simp only [List.length_map] at hq
 refine ⟨.ro false (bV (out.getD q [])), ?_, ?_⟩
 ·rw [List.getElem?_map, List.getElem?_eq_getElem hq, List.getD_eq_getElem?_getD, List.getElem?_eq_getElem hq]; rfl
 ·rw [wX]
  have e : (out.map fun l => l.map fun q : Nat => (q : Int)).getD q [] = (out.getD q []).map fun q : Nat => (q : Int) := by
   rw [List.getD_eq_getElem?_getD, List.getElem?_map, List.getElem?_eq_getElem hq, List.getD_eq_getElem?_getD, List.getElem?_eq_getElem hq]; rfl
  rw [e]
  exact .ro _
end Go.Proofs.YtlkgkfgkiidhdaaDoor.Mir
namespace Go.Proofs.YtlkgkfgkiidhdaaDoor
open Go Go.Proofs.YtlkgkfgkiidhdaaDoor.Mir
set_option linter.unusedVariables false
set_option linter.unusedSimpArgs false
set_option maxHeartbeats 8000000
set_option maxRecDepth 20000
theorem aJx (w : WI) : nX (rdF w) = rdP w := by
 obtain ⟨h1, h2⟩ := pO (aBl w)
 exact aCW h1 (aJs w) (fun x => (h2 x).trans (aES w x).symm)
theorem aJw (n : Nat) (w : WI) {a : Int} (ha : 0 ≤ a) : nX (sW n w a) = nxP n w a := by
 have hl := aBg n w a
 obtain ⟨h1, h2⟩ := pO (l := sW n w a) (by omega)
 exact aCW h1 (aJp n w a) (fun x => (h2 x).trans (pK ha).symm)
theorem aHT (G : aC) (k : Nat) (bor : Bool) (ws : List WI) (R M a : Int) (hn : ws.length ≤ 100000) (hk : 10 ≤ k) : ∃ v, cG.f G (k + 20) [cV bor ws R M, I6 a] [] = some (v, []) ∧ IsR v (if 0 ≤ a ∧ a < ws.length then nxP ws.length (ws.getD a.toNat default) a else []) := by
 have h := qD G k bor ws R M a hn hk
 by_cases e : 0 ≤ a ∧ a < ws.length
 ·rw [if_pos e] at h ⊢
  rw [aJw _ _ e.1] at h
  exact ⟨_, h, .ro _⟩
 ·rw [if_neg e] at h ⊢
  exact ⟨_, h, .nil⟩
theorem aIf {r s : List (List Int)} (hl : r.length = s.length) (h : ∀ p, p < r.length → r.getD p [] = s.getD p []) : r = s := by
 refine List.ext_getElem hl fun i h1 h2 => ?_
 have := h i h1
 rw [List.getD_eq_getElem?_getD, List.getD_eq_getElem?_getD, List.getElem?_eq_getElem h1, List.getElem?_eq_getElem h2] at this
 exact this
def oS (out : List (List Nat)) : List (List Int) := out.map fun l => l.map fun q : Nat => (q : Int)
theorem aCA {out : List (List Nat)} {p : Nat} (hp : p < out.length) : (oS out).getD p [] = (out.getD p []).map fun q : Nat => (q : Int) := by
 unfold oS
 rw [List.getD_eq_getElem?_getD, List.getElem?_map, List.getElem?_eq_getElem hp, List.getD_eq_getElem?_getD, List.getElem?_eq_getElem hp]; rfl
theorem aAk (G : aC) (k : Nat) {ws : List WI} {R : Nat} (M : Int) (hg : ∀ w ∈ ws, w.Good R ws.length) (hl : ws.length ≤ 60) (hR : R ≤ 40) (hk : 12000 < k) {out : List (List Nat)} (hP : Part ws.length (nP ws) (kL ws) (yG ws) R out) :
  ∃ vs, aN.f G (k + 1) [cV false ws R M] [] = some (.ro false vs, []) ∧ RowsV vs (oS out) ∧ RowsOk R ws.length (oS out) := by
 have hm := Nat.mul_le_mul hl hR
 obtain ⟨r, h1, h2, h3⟩ := zY hg k _ (aIR (R := R)) (by omega)
 obtain ⟨vs, e1, e2, e3⟩ := aFC G k ws R M false hg (by omega) (by omega) hk h1
 have er : r = oS out := by
  refine aIf (by rw [e3.len]; unfold oS; rw [List.length_map, hP.len]) fun p hp => ?_
  rw [e3.len] at hp
  rw [aCA (by rw [hP.len]; exact hp)]
  exact aFH hg h2 h3 hP hp
 rw [er] at e2 e3
 exact ⟨vs, e1, e2, e3⟩
theorem aIa {ws : List WI} {R : Nat} {o1 o2 : List (List Nat)} (h1 : Part ws.length (nP ws) (kL ws) (yG ws) R o1) (h2 : Part ws.length (nP ws) (kL ws) (yG ws) R o2) : o1 = o2 := by
 refine List.ext_getElem (by rw [h1.len, h2.len]) fun i a b => ?_
 have hi : i < ws.length := by rw [← h1.len]; exact a
 have e : ∀ x : Nat, x ∈ o1.getD i [] ↔ x ∈ o2.getD i [] := fun x => (h1.mem i hi x).trans (h2.mem i hi x).symm
 have e1 : o1.getD i [] = o1[i] := by rw [List.getD_eq_getElem?_getD, List.getElem?_eq_getElem a]; rfl
 have e2 : o2.getD i [] = o2[i] := by rw [List.getD_eq_getElem?_getD, List.getElem?_eq_getElem b]; rfl
 have u1 := h1.up i
 have u2 := h2.up i
 rw [e1] at e u1
 rw [e2] at e u2
 have key : (o1[i]).map (fun q : Nat => (q : Int)) = (o2[i]).map (fun q : Nat => (q : Int)) := by
  refine aCW ?_ ?_ fun x => ?_
  ·rw [List.pairwise_map]; exact u1.imp (fun h => by omega)
  ·rw [List.pairwise_map]; exact u2.imp (fun h => by omega)
  ·simp only [List.mem_map]
   exact ⟨fun ⟨y, hy, hx⟩ => ⟨y, (e y).1 hy, hx⟩, fun ⟨y, hy, hx⟩ => ⟨y, (e y).2 hy, hx⟩⟩
 have key2 := congrArg (List.map Int.toNat) key
 simpa [List.map_map, Function.comp_def] using key2
theorem aFb (G : aC) (hg : GOk G) (k : Nat) (bor : Bool) (ws : List WI) (R M : Int) (hk : ws.length < k + 7) (hl : ws.length ≤ 100000) (h : fA ws R M ≠ .ok) :
  cY.f G (k + 10) [cV bor ws R M] [] = some (.tup [.ro false [], tD (fA ws R M)], []) := by
 have ri : ∀ H, aJ (bB.f G (k + 9)) [cV bor ws R M] H = _ := fun H => aZ (H := H) (aAt G hg k bor ws R M hk hl h) (by simp [dK, bP, cV, jA]) (by simp [dV, fW, kW])
 have b0 : ∀ H, eE (cV bor ws R M) H = some (.rp false (cV bor ws R M) 0, H) := fun H => rfl
 have l0 : ∀ H, aH G true 3 (.rp false (cV bor ws R M) 0) H = some (cV bor ws R M) := fun H => rfl
 have bx : gD 56 .nils [⟨3, 1, []⟩] = some (.ptr 1 1 0 0, [⟨3, 1, []⟩, ⟨56, 1, [.nils]⟩]) := rfl
 have s1 : hX (cH 1 (.ptr 1 1 0 0) .nils [⟨3, 1, []⟩, ⟨56, 1, [.nils]⟩]) = some (.tup [], [⟨3, 1, []⟩, ⟨56, 1, [.nils]⟩]) := rfl
 have q1 : bC Tryd.prog .neq 33 true (tD (fA ws R M)) .nili = some (.bool true) := sU h
 have fin : cS [.sl 2 0 0 0 1, tD (fA ws R M)] 0 [⟨3, 1, []⟩, ⟨56, 1, [.nils]⟩, ⟨3, 1, []⟩] = some (.ret, [.tup [.ro false [], tD (fA ws R M)]], []) := by
  cases fA ws R M <;> rfl
 rw [cY.step]
 unfold cY.c
 refine fC ?_
 generalize cV bor ws R M = C at *
 generalize tD (fA ws R M) = V at *
 have fx := aKI b0 <| aKI l0 <| aKI ri <| aKI bx <| aKI s1 <| q1
 refine eH ?_
 exact oF fin
theorem aHj (ws : List WI) (r m : Int) (w : WI) (a : Int) (ha : -9223372036854775808 ≤ a ∧ a < 9223372036854775808) :
  alembiclaw20_LiveSays.f GA 20001 [cV false ws r m, w.v, I6 a] [] = some (.bool true, []) := by
 have hG := aJL
 have pc : ∀ b ds r m, bP (cV b ds r m) = true := fun b ds r m => by simp [dK, bP, cV, jA]
 have rf : ∀ H, aJ (cO.f GA 20000) [] H = _ := fun H => aZ (H := H) (aHE GA 19850) rfl rfl
 have rl : ∀ H, aJ (bW.f GA 20000) [cV false ws r m] H = _ := fun H => aZ (H := H) (aHN GA 19999 ws r m) (by simp [dK, pc]) rfl
 have b1 : ∀ H, eE (cV false ws r m) H = some (.rp false (cV false ws r m) 0, H) := fun H => rfl
 have d1 : ∀ H, aH GA true 3 (.rp false (cV false ws r m) 0) H = some (cV false ws r m) := fun H => rfl
 have b2 : ∀ H, eE w.v H = some (.rp false w.v 0, H) := fun H => rfl
 have d2 : ∀ H, aH GA true 6 (.rp false w.v 0) H = some w.v := fun H => rfl
 rw [alembiclaw20_LiveSays.step]
 unfold alembiclaw20_LiveSays.c
 refine fC ?_
 by_cases hl : ¬ (ws.length ≤ 60 ∧ r ≤ 40)
 ·rw [decide_eq_false hl] at rl
  generalize cV false ws r m = C at *
  generalize w.v = wv at *
  have fx := aKI rf <| aKI rl <| aKI b1 <| aKI d1 <| b2
  refine eH ?_
  exact w1b rfl
 replace hl := Classical.not_not.1 hl
 rw [decide_eq_true hl] at rl
 obtain ⟨wd, hwd⟩ : ∃ x, x = (if (dD w.op).d = true then w.d else 0) := ⟨_, rfl⟩
 obtain ⟨wb, hwb⟩ : ∃ x, x = (dD w.op).d := ⟨_, rfl⟩
 have hw1 := nZ GA 19994 w.op w.d w.a w.b w.c w.k []
 have hw2 := nI GA 19998 w
 rw [← hwd, ← hwb] at hw1 hw2
 have rw1 : ∀ H, aJ (cT.f GA 20000) [w.v] H = _ := fun H => aZ (H := H) hw1 rfl rfl
 have rw2 : ∀ H, aJ (aY.f GA 20000) [w.v] H = _ := fun H => aZ (H := H) hw2 rfl rfl
 have n1 : bC Tryd.prog .neq 3 false (I6 wd) (I6 wd) = some (.bool false) := iD rfl
 have n2 : bC Tryd.prog .neq 4 false (.bool wb) (.bool wb) = some (.bool false) := by rw [aAL Tryd.underlying4]; simp
 have hr1 := tI GA 19980 w (by omega)
 rw [aJx] at hr1
 have rr1 : ∀ H, aJ (cD.f GA 20000) [w.v] H = _ := fun H => aZ (H := H) hr1 rfl (by simp [dV, I3.intsI_clean])
 obtain ⟨rv, hr2, hr3⟩ := uE GA 19980 w
 have rr2 : ∀ H, aJ (aS.f GA 20000) [w.v] H = _ := fun H => aZ (H := H) hr2 rfl hr3.clean
 have hrl := aER w
 have si1 := fun H => uU GA 19999 (IsL.ro false (rdP w)) hr3.l (by omega) (by omega) H
 obtain ⟨nv1, hn1, hn2⟩ := aHT GA 19980 false ws r m a (by omega) (by omega)
 obtain ⟨nv2, hn3, hn4⟩ := xK GA 19980 false ws r m a (by omega) ha.1 ha.2
 have rn1 : ∀ H, aJ (cG.f GA 20000) [cV false ws r m, I6 a] H = _ := fun H => aZ (H := H) hn1 (by simp [dK, pc, bP]) hn2.clean
 have rn2 : ∀ H, aJ (aK.f GA 20000) [cV false ws r m, I6 a] H = _ := fun H => aZ (H := H) hn3 (by simp [dK, pc, bP]) hn4.clean
 have hnl : (if 0 ≤ a ∧ a < ws.length then nxP ws.length (ws.getD a.toNat default) a else []).length ≤ 2 := by
  split
  ·exact vA _ _ _
  ·simp
 have si2 := fun H => uU GA 19999 hn2.l hn4.l (by omega) (by omega) H
 have ro : ∀ H, aJ (bL.f GA 20000) [cV false ws r m] H = _ := fun H => aZ (H := H) (aBi GA 19999 ws r m) (by simp [dK, pc]) (by simp [dV, fW, aIY, cV])
 have rv_ : ∀ H, aJ (bE.f GA 20000) [cV false ws r m] H = _ := fun H => aZ (H := H) (aCL GA 19997 ws r m (by omega) (by omega)) (by simp [dK, pc]) (zT _)
 have hlow := aEd ws r m
 have rs : ∀ H, aJ (cI.f GA 20000) [tD (fA ws r m), sH (fA ws r m)] H = _ := fun H => aZ (H := H) (aHk 19959 (fA ws r m) hlow) (by simp [dK, aAq, zU]) rfl
 have bx0 : gD 54 (.agg [.int .i64 0, .bool false, .int .i64 0]) [] = some (.ptr 0 1 0 0, [⟨54, 3, [.agg [.int .i64 0, .bool false, .int .i64 0]]⟩]) := rfl
 have st : hX (cH 3 (.ptr 0 1 0 0) (sH (fA ws r m)) [⟨54, 3, [.agg [.int .i64 0, .bool false, .int .i64 0]]⟩]) = some (.tup [], [⟨54, 3, [sH (fA ws r m)]⟩]) := by cases fA ws r m <;> rfl
 have ld : aH GA true 3 (.ptr 0 1 0 0) [⟨54, 3, [sH (fA ws r m)]⟩] = some (sH (fA ws r m)) := by cases fA ws r m <;> rfl
 have k0 : aF 0 (.ptr 0 1 0 0) = some (.ptr 0 1 0 0) := rfl
 clear hw1 hw2 hwd hwb hr1 hr2 hr3 hrl hn1 hn2 hn3 hn4 hnl
 by_cases hv : fA ws r m ≠ .ok
 ·have ri : ∀ H, aJ (bB.f GA 20000) [cV false ws r m] H = _ := fun H => aZ (H := H) (aAt GA hG 19991 false ws r m (by omega) (by omega) hv) (by simp [dK, pc]) (by simp [dV, fW, kW])
  have rm : ∀ H, aJ (dF.f GA 20000) [cV false ws r m] H = _ := fun H => aZ (H := H) (aFR GA 19990 hG false ws r m (by omega) (by omega) hv) (by simp [dK, pc]) (by simp [dV, fW, kW])
  have rd : ∀ H, aJ (cY.f GA 20000) [cV false ws r m] H = _ := fun H => aZ (H := H) (aFb GA hG 19990 false ws r m (by omega) (by omega) hv) (by simp [dK, pc]) (by simp [dV, fW, kW])
  obtain ⟨c, p, j, hft, hc⟩ : ∃ c p j, sH (fA ws r m) = rA c p j ∧ c ≠ 0 := by
   cases h : fA ws r m with
   | ok => exact absurd h hv
   | bare e => exact ⟨_, _, _, rfl, aEr e⟩
   | at_ j e => exact ⟨_, _, _, rfl, aEr e⟩
  rw [hft] at rv_ rs st ld
  have lc : aH GA false 1 (.ptr 0 1 0 0) [⟨54, 3, [rA c p j]⟩] = some (I6 c) := rfl
  have q1 : bC Tryd.prog .neq 3 true (I6 c) (.int .i64 0) = some (.bool true) := gW hc
  have e1 : cB .nils = some (.int .i64 0) := rfl
  have e2 : cB (.ro false []) = some (.int .i64 0) := rfl
  have e3 : bC Tryd.prog .eql 3 true (.int .i64 0) (.int .i64 0) = some (.bool true) := gH rfl
  clear hft hv hlow hl
  generalize [(⟨54, 3, [rA c p j]⟩ : ABlk)] = hh at *
  generalize tD (fA ws r m) = V at *
  generalize rA c p j = Fv at *
  generalize cV false ws r m = C at *
  generalize w.v = wv at *
  generalize I3.intsI (rdP w) = rI at *
  have fx := aKI rf <| aKI rl <| aKI b1 <| aKI d1 <| aKI b2 <| aKI d2 <| aKI rw1 <| aKI rw2 <| aKI n1 <| aKI n2 <| aKI rr1 <| aKI rr2 <| aKI si1 <| aKI rn1 <| aKI rn2 <| aKI si2 <| aKI ro <| aKI rv_ <| aKI bx0 <| aKI st <| aKI ri <| aKI rm <| aKI rd <| aKI ld <| aKI rs <| aKI k0 <| aKI lc <| aKI q1 <| aKI e1 <| aKI e2 <| e3
  refine eH ?_
  exact w1b rfl
 replace hv := Classical.not_not.1 hv
 have hvb := (aAp hv).1
 obtain ⟨R, rfl⟩ : ∃ R : Nat, r = R := ⟨r.toNat, by omega⟩
 have hgood := oZ hv
 rw [Int.toNat_natCast] at hgood
 rw [hv] at rv_ rs st ld
 have f0 : sH .ok = rA 0 false 0 := rfl
 have v0 : tD .ok = .nili := rfl
 rw [f0] at rv_ rs st ld
 rw [v0] at rs
 have lc : aH GA false 1 (.ptr 0 1 0 0) [⟨54, 3, [rA 0 false 0]⟩] = some (I6 0) := rfl
 have q1 : bC Tryd.prog .neq 3 true (I6 0) (.int .i64 0) = some (.bool false) := iD rfl
 obtain ⟨out, hI1, hP⟩ := aBH GA 19999 false ws R m hG hv (by omega) (by omega) (by omega)
 obtain ⟨out2, hI2, hP2⟩ := aBH GA 19998 false ws R m hG hv (by omega) (by omega) (by omega)
 obtain rfl := aIa hP hP2
 have hV1 : RowsV (out.map fun l => AV.ro false (bV l)) (oS out) := aHg out
 have hol : (oS out).length = ws.length := by unfold oS; rw [List.length_map, hP.len]
 have co : dV (iP out) = true := by unfold iP; simp [dV, hV1.clean]
 have ri : ∀ H, aJ (bB.f GA 20000) [cV false ws R m] H = _ := fun H => aZ (H := H) hI1 (by simp [dK, pc]) (by simp [dV, fW, co])
 have rm : ∀ H, aJ (dF.f GA 20000) [cV false ws R m] H = _ := fun H => aZ (H := H) (aFe GA 19999 hV1 (by show (oS out).length ≤ 1000; omega) false ws R m (by omega) hI2) (by simp [dK, pc]) rfl
 have hD := aFc GA 19999 false ws R m out hG hv (by omega) (by omega) (by omega) hI2 hP
 have rd : ∀ H, aJ (cY.f GA 20000) [cV false ws R m] H = _ := fun H => aZ (H := H) hD (by simp [dK, pc]) (by simp [dV, fW]; exact iN _ (fun _ => rfl) _)
 obtain ⟨vs, j1, j2, j3⟩ := aAk GA 19999 m hgood (by omega) (by omega) (by omega) hP
 obtain ⟨vs2, j4, j5, j6⟩ := aAk GA 19998 m hgood (by omega) (by omega) (by omega) hP
 have rI : ∀ H, aJ (aN.f GA 20000) [cV false ws R m] H = _ := fun H => aZ (H := H) j1 (by simp [dK, pc]) (by simp [dV, j2.clean])
 have sv := fun H => aHv GA 19999 hV1 j2 (by rw [hol]; omega) (fun q => by have := j3.row q; show ((oS out).getD q []).length ≤ 1000; omega) (by omega) H
 have rM : ∀ H, aJ (bI.f GA 20000) [cV false ws R m] H = _ := fun H => aZ (H := H) (aDL GA 19999 j5 (by rw [hol]; omega) false ws R m (by omega) j4) (by simp [dK, pc]) rfl
 have hD2 := aDK GA 19999 ws R m j5 j6 false hgood (by omega) (by omega) (by omega) j4
 rw [aFG hgood (out := out) (fun p hp => aCA (by rw [hP.len]; exact hp))] at hD2
 have rD : ∀ H, aJ (bH.f GA 20000) [cV false ws R m] H = _ := fun H => aZ (H := H) hD2 (by simp [dK, pc]) (by simp [dV, I3.intsI_clean])
 have hdl := zO ws out ws.length
 have si3 := fun H => uU GA 19999 (IsL.ro false ((jF ws out ws.length).map fun q : Nat => (q : Int))) (IsL.ro false ((jF ws out ws.length).map fun q : Nat => (q : Int))) (by rw [List.length_map]; omega) (by rw [List.length_map]; omega) H
 rw [wX] at rd
 have q3 : bC Tryd.prog .eql 3 false (Nn (iA (oS out) (oS out).length)) (Nn (iA (oS out) (oS out).length)) = some (.bool true) := gH rfl
 replace sv : ∀ H, aJ (aU.f GA 20000) [iP out, .ro false vs] H = some (.bool true, H) := sv
 clear hlow hl hv hvb hI1 hI2 hP hP2 hV1 hD j1 j2 j3 j4 j5 j6 hD2 hgood co hol hdl f0 v0
 generalize [(⟨54, 3, [rA 0 false 0]⟩ : ABlk)] = hh at *
 generalize rA 0 false 0 = Fv at *
 generalize cV false ws R m = C at *
 generalize w.v = wv at *
 generalize I3.intsI (rdP w) = rI_ at *
 generalize iA (oS out) (oS out).length = MO at *
 generalize I3.intsI ((jF ws out ws.length).map fun q : Nat => (q : Int)) = DI at *
 generalize iP out = OV at *
 generalize AV.ro false vs = VS at *
 have fx := aKI rf <| aKI rl <| aKI b1 <| aKI d1 <| aKI b2 <| aKI d2 <| aKI rw1 <| aKI rw2 <| aKI n1 <| aKI n2 <| aKI rr1 <| aKI rr2 <| aKI si1 <| aKI rn1 <| aKI rn2 <| aKI si2 <| aKI ro <| aKI rv_ <| aKI bx0 <| aKI st <| aKI ri <| aKI rm <| aKI rd <| aKI ld <| aKI rs <| aKI k0 <| aKI lc <| aKI q1 <| aKI rI <| aKI sv <| aKI rM <| aKI q3 <| aKI rD <| si3
 refine eH ?_
 exact w1b rfl
theorem LLiveSays.law (xs : List AV) (h : IsTs Tryd.prog [27, 29, 3] xs) : ∃ k, alembiclaw20_LiveSays.f (xT 179 [0, 2, 1, 4, 6, 3, 7, 8, 5, 9, 10, 11, 12, 13]) k xs [] = some (.bool true, []) := by
 obtain ⟨x1, _, rfl, hx1, h⟩ := h.uncons
 obtain ⟨x2, _, rfl, hx2, h⟩ := h.uncons
 obtain ⟨x3, _, rfl, hx3, h⟩ := h.uncons
 obtain rfl := h.unnil
 obtain ⟨cs, R, M, rfl, hR, hM⟩ := aHW hx1
 obtain ⟨w, rfl, _⟩ := aGC hx2
 obtain ⟨a, rfl, hw⟩ := hx3.of_int (k := .i64) Tryd.underlying3
 exact ⟨20001, aHj cs R M w a (aBz hw)⟩
end Go.Proofs.YtlkgkfgkiidhdaaDoor
namespace Go.Proofs.YtlkgkfgkiidhdaaDoor
open Go Go.ChangeShapes Go.WideShapes Go.RowKit Mir
set_option linter.unusedVariables false
set_option linter.unusedSimpArgs false
namespace RLiveSays
noncomputable def aAb (os : Os) : World :=
 let w0 := World.holding Tryd.prog os ⟨#[.cells #[.string ⟨#[97, 32, 110, 117, 109, 98, 101, 114, 32, 111, 117, 116, 32, 111, 102, 32, 105, 116, 115, 32, 114, 97, 110, 103, 101]⟩] 196, .cells #[.string ⟨#[110, 111, 116, 32, 97, 115, 32, 108, 111, 110, 103, 32, 97, 115, 32, 105, 116, 32, 104, 97, 115, 32, 116, 111, 32, 98, 101]⟩] 196, .cells #[.string ⟨#[116, 111, 111, 32, 109, 97, 110, 121]⟩] 196, .cells #[.string ⟨#[110, 111, 116, 32, 97, 115, 32, 105, 116, 32, 104, 97, 115, 32, 116, 111, 32, 98, 101]⟩] 196, .cells #[.string ⟨#[116, 104, 101, 114, 101, 32, 105, 115, 32, 110, 111, 110, 101]⟩] 196, .cells #[.string ⟨#[110, 111, 32, 115, 117, 99, 104, 32, 116, 104, 105, 110, 103, 32, 116, 111, 32, 100, 111]⟩] 196, .cells #[.string ⟨#[110, 111, 32, 115, 117, 99, 104, 32, 118, 97, 114, 105, 97, 98, 108, 101]⟩] 196, .cells #[.string ⟨#[97, 32, 115, 101, 99, 114, 101, 116, 32, 119, 104, 101, 114, 101, 32, 105, 116, 32, 109, 97, 121, 32, 110, 111, 116, 32, 98, 101]⟩] 196, .cells #[.string ⟨#[110, 111, 32, 115, 117, 99, 104, 32, 112, 108, 97, 99, 101]⟩] 196, .cells #[.string ⟨#[116, 111, 111, 32, 102, 97, 114]⟩] 196, .cells #[.string ⟨#[105, 116, 32, 116, 97, 107, 101, 115, 32, 116, 111, 111, 32, 108, 111, 110, 103]⟩] 196, .cells #[.string ⟨#[119, 104, 101, 114, 101, 32, 116, 104, 101, 114, 101, 32, 105, 115, 32, 110, 111, 116, 104, 105, 110, 103]⟩] 196, .cells #[.string ⟨#[110, 111, 32, 115, 117, 99, 104, 32, 119, 111, 114, 100]⟩] 196, .cells #[.string ⟨#[110, 111, 116, 32, 97, 32, 110, 117, 109, 98, 101, 114]⟩] 196], #[], []⟩
 {w0 with heap := w0.heap
  |>.modify 0 (fun
   | .cells _ t frozen => .cells #[.iface 179 (.pointer (some ⟨Rk.low, 0, none⟩))] t frozen
   | o => o)
  |>.modify 2 (fun
   | .cells _ t frozen => .cells #[.iface 179 (.pointer (some ⟨Rk.low + 1, 0, none⟩))] t frozen
   | o => o)
  |>.modify 1 (fun
   | .cells _ t frozen => .cells #[.iface 179 (.pointer (some ⟨Rk.low + 2, 0, none⟩))] t frozen
   | o => o)
  |>.modify 4 (fun
   | .cells _ t frozen => .cells #[.iface 179 (.pointer (some ⟨Rk.low + 3, 0, none⟩))] t frozen
   | o => o)
  |>.modify 6 (fun
   | .cells _ t frozen => .cells #[.iface 179 (.pointer (some ⟨Rk.low + 4, 0, none⟩))] t frozen
   | o => o)
  |>.modify 3 (fun
   | .cells _ t frozen => .cells #[.iface 179 (.pointer (some ⟨Rk.low + 5, 0, none⟩))] t frozen
   | o => o)
  |>.modify 7 (fun
   | .cells _ t frozen => .cells #[.iface 179 (.pointer (some ⟨Rk.low + 6, 0, none⟩))] t frozen
   | o => o)
  |>.modify 8 (fun
   | .cells _ t frozen => .cells #[.iface 179 (.pointer (some ⟨Rk.low + 7, 0, none⟩))] t frozen
   | o => o)
  |>.modify 5 (fun
   | .cells _ t frozen => .cells #[.iface 179 (.pointer (some ⟨Rk.low + 8, 0, none⟩))] t frozen
   | o => o)
  |>.modify 9 (fun
   | .cells _ t frozen => .cells #[.iface 179 (.pointer (some ⟨Rk.low + 9, 0, none⟩))] t frozen
   | o => o)
  |>.modify 10 (fun
   | .cells _ t frozen => .cells #[.iface 179 (.pointer (some ⟨Rk.low + 10, 0, none⟩))] t frozen
   | o => o)
  |>.modify 11 (fun
   | .cells _ t frozen => .cells #[.iface 179 (.pointer (some ⟨Rk.low + 11, 0, none⟩))] t frozen
   | o => o)
  |>.modify 12 (fun
   | .cells _ t frozen => .cells #[.iface 179 (.pointer (some ⟨Rk.low + 12, 0, none⟩))] t frozen
   | o => o)
  |>.modify 13 (fun
   | .cells _ t frozen => .cells #[.iface 179 (.pointer (some ⟨Rk.low + 13, 0, none⟩))] t frozen
   | o => o) }
theorem yR (os : Os) (args : Array Value) : laidMetH Tryd.prog ([("alembic/api.ErrRange", Rows.laid_alembic_api_ErrRange), ("alembic/api.ErrLength", Rows.laid_alembic_api_ErrLength), ("alembic/api.ErrMany", Rows.laid_alembic_api_ErrMany), ("alembic/api.ErrShape", Rows.laid_alembic_api_ErrShape), ("alembic/api.ErrNone", Rows.laid_alembic_api_ErrNone), ("alembic/api.ErrOp", Rows.laid_alembic_api_ErrOp), ("alembic/api.ErrVar", Rows.laid_alembic_api_ErrVar), ("alembic/api.ErrSecret", Rows.laid_alembic_api_ErrSecret), ("alembic/api.ErrLabel", Rows.laid_alembic_api_ErrLabel), ("alembic/api.ErrFar", Rows.laid_alembic_api_ErrFar), ("alembic/api.ErrFuel", Rows.laid_alembic_api_ErrFuel), ("alembic/api.ErrFault", Rows.laid_alembic_api_ErrFault), ("alembic/api.ErrWord", Rows.laid_alembic_api_ErrWord), ("alembic/api.ErrNumber", Rows.laid_alembic_api_ErrNumber)] : List (String × DataW Unit)) ((aAb os).forCall (fun _ _ => 0) ⟨#[], args, []⟩).memory :=
 laidMet_of_run (ps := [.cell 0 0, .cell (Rk.low) 0, .cell 2 0, .cell (Rk.low + 1) 0, .cell 1 0, .cell (Rk.low + 2) 0, .cell 4 0, .cell (Rk.low + 3) 0, .cell 6 0, .cell (Rk.low + 4) 0, .cell 3 0, .cell (Rk.low + 5) 0, .cell 7 0, .cell (Rk.low + 6) 0, .cell 8 0, .cell (Rk.low + 7) 0, .cell 5 0, .cell (Rk.low + 8) 0, .cell 9 0, .cell (Rk.low + 9) 0, .cell 10 0, .cell (Rk.low + 10) 0, .cell 11 0, .cell (Rk.low + 11) 0, .cell 12 0, .cell (Rk.low + 12) 0, .cell 13 0, .cell (Rk.low + 13) 0]) 8 (by kernel_rfl) (by kernel_rfl) (by kernel_rfl)
theorem aJX : aEn Tryd.prog 33 [("alembic/api.ErrRange", Rows.laid_alembic_api_ErrRange), ("alembic/api.ErrLength", Rows.laid_alembic_api_ErrLength), ("alembic/api.ErrMany", Rows.laid_alembic_api_ErrMany), ("alembic/api.ErrShape", Rows.laid_alembic_api_ErrShape), ("alembic/api.ErrNone", Rows.laid_alembic_api_ErrNone), ("alembic/api.ErrOp", Rows.laid_alembic_api_ErrOp), ("alembic/api.ErrVar", Rows.laid_alembic_api_ErrVar), ("alembic/api.ErrSecret", Rows.laid_alembic_api_ErrSecret), ("alembic/api.ErrLabel", Rows.laid_alembic_api_ErrLabel), ("alembic/api.ErrFar", Rows.laid_alembic_api_ErrFar), ("alembic/api.ErrFuel", Rows.laid_alembic_api_ErrFuel), ("alembic/api.ErrFault", Rows.laid_alembic_api_ErrFault), ("alembic/api.ErrWord", Rows.laid_alembic_api_ErrWord), ("alembic/api.ErrNumber", Rows.laid_alembic_api_ErrNumber)] [0, 2, 1, 4, 6, 3, 7, 8, 5, 9, 10, 11, 12, 13] := ⟨by kernel_rfl, by kernel_rfl, ⟨_, rfl⟩, by kernel_rfl, by kernel_rfl, ⟨_, rfl⟩, by kernel_rfl, by kernel_rfl, ⟨_, rfl⟩, by kernel_rfl, by kernel_rfl, ⟨_, rfl⟩, by kernel_rfl, by kernel_rfl, ⟨_, rfl⟩, by kernel_rfl, by kernel_rfl, ⟨_, rfl⟩, by kernel_rfl, by kernel_rfl, ⟨_, rfl⟩, by kernel_rfl, by kernel_rfl, ⟨_, rfl⟩, by kernel_rfl, by kernel_rfl, ⟨_, rfl⟩, by kernel_rfl, by kernel_rfl, ⟨_, rfl⟩, by kernel_rfl, by kernel_rfl, ⟨_, rfl⟩, by kernel_rfl, by kernel_rfl, ⟨_, rfl⟩, by kernel_rfl, by kernel_rfl, ⟨_, rfl⟩, by kernel_rfl, by kernel_rfl, ⟨_, rfl⟩, trivial⟩
theorem sent {W : World} (h : laidMetH Tryd.prog ([("alembic/api.ErrRange", Rows.laid_alembic_api_ErrRange), ("alembic/api.ErrLength", Rows.laid_alembic_api_ErrLength), ("alembic/api.ErrMany", Rows.laid_alembic_api_ErrMany), ("alembic/api.ErrShape", Rows.laid_alembic_api_ErrShape), ("alembic/api.ErrNone", Rows.laid_alembic_api_ErrNone), ("alembic/api.ErrOp", Rows.laid_alembic_api_ErrOp), ("alembic/api.ErrVar", Rows.laid_alembic_api_ErrVar), ("alembic/api.ErrSecret", Rows.laid_alembic_api_ErrSecret), ("alembic/api.ErrLabel", Rows.laid_alembic_api_ErrLabel), ("alembic/api.ErrFar", Rows.laid_alembic_api_ErrFar), ("alembic/api.ErrFuel", Rows.laid_alembic_api_ErrFuel), ("alembic/api.ErrFault", Rows.laid_alembic_api_ErrFault), ("alembic/api.ErrWord", Rows.laid_alembic_api_ErrWord), ("alembic/api.ErrNumber", Rows.laid_alembic_api_ErrNumber)] : List (String × DataW Unit)) W) : ∃ S, SentS W 179 [0, 2, 1, 4, 6, 3, 7, 8, 5, 9, 10, 11, 12, 13] S :=
 aBq Tryd.underlying33 Rk.row Tryd.underlying179 Tryd.underlying196 rfl rfl Tryd.underlying9 (by kernel_rfl) (by kernel_rfl) aJX (by decide) h
theorem aIb : ∀ t ∈ ([27, 25, 29, 3, 2] : List Nat), xG Tryd.prog [27, 25, 29, 3, 2] t = true := List.all_eq_true.1 (by kernel_rfl)
set_option maxRecDepth 100000 in
theorem aJk (os : Os) (started : os.Started) (H : Type) (enc : TypeId × Value → H) :
  ReturnsInHanded {} Tryd.checked os 4 .any (fun w args => (Rows.liveSaysSpec.pre enc Tryd.prog Tryd.f4 [] false w args ∧ laidMetH Tryd.prog ([("alembic/api.ErrRange", Rows.laid_alembic_api_ErrRange), ("alembic/api.ErrLength", Rows.laid_alembic_api_ErrLength), ("alembic/api.ErrMany", Rows.laid_alembic_api_ErrMany), ("alembic/api.ErrShape", Rows.laid_alembic_api_ErrShape), ("alembic/api.ErrNone", Rows.laid_alembic_api_ErrNone), ("alembic/api.ErrOp", Rows.laid_alembic_api_ErrOp), ("alembic/api.ErrVar", Rows.laid_alembic_api_ErrVar), ("alembic/api.ErrSecret", Rows.laid_alembic_api_ErrSecret), ("alembic/api.ErrLabel", Rows.laid_alembic_api_ErrLabel), ("alembic/api.ErrFar", Rows.laid_alembic_api_ErrFar), ("alembic/api.ErrFuel", Rows.laid_alembic_api_ErrFuel), ("alembic/api.ErrFault", Rows.laid_alembic_api_ErrFault), ("alembic/api.ErrWord", Rows.laid_alembic_api_ErrWord), ("alembic/api.ErrNumber", Rows.laid_alembic_api_ErrNumber)] : List (String × DataW Unit)) w) ∧ sizedMet enc Tryd.prog Tryd.f4 (OpenSpec.ofChange Rows.liveSaysSpec) false w args)
   (Rows.liveSaysSpec.post enc Tryd.prog Tryd.f4 false true false false) := by
 refine returnsInHanded_of_change_and (C := Tryd.checked) (X := fun w _ => laidMetH Tryd.prog ([("alembic/api.ErrRange", Rows.laid_alembic_api_ErrRange), ("alembic/api.ErrLength", Rows.laid_alembic_api_ErrLength), ("alembic/api.ErrMany", Rows.laid_alembic_api_ErrMany), ("alembic/api.ErrShape", Rows.laid_alembic_api_ErrShape), ("alembic/api.ErrNone", Rows.laid_alembic_api_ErrNone), ("alembic/api.ErrOp", Rows.laid_alembic_api_ErrOp), ("alembic/api.ErrVar", Rows.laid_alembic_api_ErrVar), ("alembic/api.ErrSecret", Rows.laid_alembic_api_ErrSecret), ("alembic/api.ErrLabel", Rows.laid_alembic_api_ErrLabel), ("alembic/api.ErrFar", Rows.laid_alembic_api_ErrFar), ("alembic/api.ErrFuel", Rows.laid_alembic_api_ErrFuel), ("alembic/api.ErrFault", Rows.laid_alembic_api_ErrFault), ("alembic/api.ErrWord", Rows.laid_alembic_api_ErrWord), ("alembic/api.ErrNumber", Rows.laid_alembic_api_ErrNumber)] : List (String × DataW Unit)) w) (fun _ _ _ hh h => h.of_heap hh) Rk.own started (by kernel_rfl) Tryd.func4
  (ChangeSpec.witness_at (enc := enc) (C := Tryd.checked) (os := os) (X := fun w _ => laidMetH Tryd.prog ([("alembic/api.ErrRange", Rows.laid_alembic_api_ErrRange), ("alembic/api.ErrLength", Rows.laid_alembic_api_ErrLength), ("alembic/api.ErrMany", Rows.laid_alembic_api_ErrMany), ("alembic/api.ErrShape", Rows.laid_alembic_api_ErrShape), ("alembic/api.ErrNone", Rows.laid_alembic_api_ErrNone), ("alembic/api.ErrOp", Rows.laid_alembic_api_ErrOp), ("alembic/api.ErrVar", Rows.laid_alembic_api_ErrVar), ("alembic/api.ErrSecret", Rows.laid_alembic_api_ErrSecret), ("alembic/api.ErrLabel", Rows.laid_alembic_api_ErrLabel), ("alembic/api.ErrFar", Rows.laid_alembic_api_ErrFar), ("alembic/api.ErrFuel", Rows.laid_alembic_api_ErrFuel), ("alembic/api.ErrFault", Rows.laid_alembic_api_ErrFault), ("alembic/api.ErrWord", Rows.laid_alembic_api_ErrWord), ("alembic/api.ErrNumber", Rows.laid_alembic_api_ErrNumber)] : List (String × DataW Unit)) w) false (aAb os) #[.agg #[.slice none 0 0, .int .i64 0, .int .i64 0], .agg #[.int .i64 0, .int .i64 0, .int .i64 0, .int .i64 0, .int .i64 0, .int .i64 0], .int .i64 0] 8 rfl (by kernel_rfl) (by kernel_rfl) (by kernel_rfl) (by kernel_rfl) (by kernel_rfl) (yR os _)) ?_
 intro W base args ds gs before hval0 hW _ _ hL _
 obtain ⟨S, hS⟩ := sent hL
 have hval : ∀ (j : Nat) t v, Tryd.f4.params.toList[j]? = some t → args.toList[j]? = some v → Value.okWide Tryd.prog W .any base t v := fun j t v h1 h2 => hval0 j t v (by simpa using h1) (by simpa using h2)
 have hW' := hW
 obtain ⟨p, q, hA, _, _, _, _⟩ := hW
 have hpar : Tryd.f4.params.toList = [27, 29, 3] := by rw [Tryd.params4]
 rw [hpar] at hval
 replace hA : DataW.TrodAll enc Tryd.prog W 0 (fun _ => true) true Tryd.f4.params.toList args.toList ds p := hA
 rw [hpar] at hA
 obtain ⟨xs, h1, h2⟩ := aAl aIb (by decide) hval hA
 obtain ⟨k, hk⟩ := LLiveSays.law xs h1
 have hc := aFj (Mir.alembiclaw20_LiveSays.sound (aCQ _ _) k) hk (aGp hS) h2
 rw [Array.toArray_toList] at hc
 refine hc.mono fun e W' ⟨he, hb⟩ => ⟨_, he, ?_⟩
 exact aGG rfl hpar (by kernel_rfl) Tryd.underlying4 (fun ds hd => by
  obtain ⟨d0, d1, d2, rfl⟩ : ∃ d0 d1 d2, ds = [d0, d1, d2] := by
   match ds, hd with
   | [d0, d1, d2], _ => exact ⟨d0, d1, d2, rfl⟩
  rfl) Rk.laidOut (by kernel_rfl) hW' hb
theorem holds : Rows.LiveSaysSaid :=
 OpenClaim.holds_of_wide 4 Tryd.f4 rfl rfl rfl rfl rfl rfl rfl ⟨rfl, rfl, rfl, rfl, rfl⟩ rfl rfl rfl rfl rfl (by kernel_rfl) Tryd.func4 (by kernel_rfl)
  (of_decide_eq_true (by kernel_rfl)) (by unfold Func.isWrapper; first | (rw [if_pos (by decide +kernel)]; kernel_rfl) | (rw [if_neg (by decide +kernel)]; exact ⟨rfl, rfl⟩))
  (fun os started H enc _ => aJk os started H enc)
theorem cardHolds : Rows.LiveSaysCardSaid :=
 Claim7.holds_tied_plain_at .later [] [.sentinel, .sentinel, .sentinel, .sentinel, .sentinel, .sentinel, .sentinel, .sentinel, .sentinel, .sentinel, .sentinel, .sentinel, .sentinel, .sentinel] true (true, "864f508a8b0e81602785229ebc0405c57cf7b6a36a11fb1b2a55f1a5fb117935") true
  holds (fun _ h => by cases h) (by kernel_rfl) (fun _ h => by cases h) liveSays_row_tie rfl ⟨rfl, rfl⟩ (by kernel_rfl) rfl
  (fun f fn hf hfn => by
   obtain rfl : f = 4 := Option.some.inj ((show Tryd.prog.funcNamed "alembic/alembiclaw20.LiveSays" = some 4 by kernel_rfl).symm.trans hf) |>.symm
   obtain rfl : fn = Tryd.f4 := (Option.some.inj (Tryd.func4.symm.trans hfn)).symm
   exact ⟨by kernel_rfl, fun j t ht => by
    have hm : t ∈ ([27, 29, 3] : List Nat) := by
     have := List.mem_of_getElem? (l := Tryd.f4.params.toList) (i := j) (by simpa using ht)
     rw [Tryd.params4] at this
     exact this
    have := List.all_eq_true.1 (show ([27, 29, 3] : List Nat).all (fun t => !Tryd.prog.wantsStandIn t) = true by kernel_rfl) t hm
    exact (by simpa using this : Tryd.prog.wantsStandIn t = false)⟩)
  (by kernel_rfl)
end RLiveSays
end Go.Proofs.YtlkgkfgkiidhdaaDoor
