/- Part 9 of the proof: what these functions do. -/
import Derived.Test.YtlkgkfgkiidhdaaDoorVo8
namespace Go.Proofs.YtlkgkfgkiidhdaaDoor.Mir
open Go
set_option linter.unusedSimpArgs false
set_option linter.unusedVariables false
set_option maxHeartbeats 8000000
set_option maxRecDepth 20000
theorem vI (G : aC) (k : Nat) (self : cK) (x : Nat) : ∀ (suf pre l : List Nat) (f : Nat), l = pre ++ suf → l.length ≤ 100000 → suf.length < f →
  (x ∈ suf → ∃ j : Nat, cC (aO.l2 G k 0 self) f [.ro false (bV l), Nn x, .int .i64 0, Nn l.length, Nn pre.length] [] = some (.ret, [.ro false (bV l), Nn x, Nn j, Nn l.length, Nn j], [])) ∧
  (x ∉ suf → cC (aO.l2 G k 0 self) f [.ro false (bV l), Nn x, .int .i64 0, Nn l.length, Nn pre.length] [] = some (.exit 0, [.ro false (bV l), Nn x, .int .i64 0, Nn l.length, Nn l.length], []))
 | suf, pre, l, 0, _, _, h => by omega
 | [], pre, l, f + 1, hl, hn, hf => by
  refine ⟨fun h => by (cases h), fun _ => ?_⟩
  have e : pre = l := by rw [hl]; simp
  subst e
  have g1 : bC Tryd.prog .lss 3 false (Nn pre.length) (Nn pre.length) = some (.bool false) := dR (by omega)
  rw [aR, aO.l2]
  refine eM ?_
  refine eC (by simp [eF, bG, aV, eW, bS]; rfl) ?_
  generalize bV pre = L at *
  have fx := g1
  refine eH ?_
  refine fK ?_; rfl
 | y :: suf, pre, l, f + 1, hl, hn, hf => by
  have hj : pre.length < l.length := by rw [hl]; simp
  have hy : l[pre.length] = y := by simp [hl]
  have g1 : bC Tryd.prog .lss 3 false (Nn pre.length) (Nn l.length) = some (.bool true) := dU (by omega)
  have ia := aCu false hj
  rw [hy] at ia
  have ld : ∀ H, aH G false 1 (.rp false (Nn y) 0) H = some (Nn y) := fun H => rfl
  have q2 : bC Tryd.prog .add 3 true (Nn pre.length) (.int .i64 1) = some (Nn (pre.length + 1 : Nat)) := gR (by omega)
  by_cases e : y = x
  ·have g2 : bC Tryd.prog .eql 3 false (Nn x) (Nn y) = some (.bool true) := gH (by rw [e])
   refine ⟨fun _ => ⟨pre.length, ?_⟩, fun h => absurd (by rw [e]; exact List.mem_cons_self ..) h⟩
   rw [aR, aO.l2]
   refine eM ?_
   refine eC (by simp [eF, bG, aV, eW, bS]; rfl) ?_
   clear hl hy
   generalize bV l = L at *
   generalize l.length = ll at *
   have fx := aKI g1 <| aKI ia <| aKI ld <| g2
   refine eH ?_
   refine fK ?_; rfl
  ·have g2 : bC Tryd.prog .eql 3 false (Nn x) (Nn y) = some (.bool false) := fU (by omega)
   obtain ⟨h1, h2⟩ := vI G k self x suf (pre ++ [y]) l f (by rw [hl]; simp) hn (by simp only [List.length_cons] at hf; omega)
   have el : (pre ++ [y]).length = pre.length + 1 := by simp
   rw [el] at h1 h2
   refine ⟨fun h => ?_, fun h => ?_⟩
   ·rcases List.mem_cons.1 h with h | h
    ·exact absurd h.symm e
    obtain ⟨j, ih⟩ := h1 h
    refine ⟨j, ?_⟩
    rw [aR, aO.l2]
    refine eM ?_
    refine eC (by simp [eF, bG, aV, eW, bS]; rfl) ?_
    clear h1 h2 hl hy
    generalize bV l = L at *
    generalize l.length = ll at *
    have fx := aKI g1 <| aKI ia <| aKI ld <| aKI g2 <| q2
    refine eH ?_
    exact ih
   ·have ih := h2 fun q => h (List.mem_cons_of_mem _ q)
    rw [aR, aO.l2]
    refine eM ?_
    refine eC (by simp [eF, bG, aV, eW, bS]; rfl) ?_
    clear h1 h2 hl hy
    generalize bV l = L at *
    generalize l.length = ll at *
    have fx := aKI g1 <| aKI ia <| aKI ld <| aKI g2 <| q2
    refine eH ?_
    exact ih
theorem yP (G : aC) (k : Nat) (l : List Nat) (x : Nat) (hl : l.length ≤ 100000) (hk : l.length < k) : aW.f G (k + 2) [.ro false (bV l), Nn x] [] = some (.bool (l.contains x), []) := by
 have lc : cB (.ro false (bV l)) = some (Nn l.length) := by simp [cB, dZ]
 have pl : dK [AV.ro false (bV l), Nn x] = true := by simp [dK, bP]; exact kZ _ (fun _ => rfl) _
 obtain ⟨h1, h2⟩ := vI G k (aO.f G k) x l [] l k rfl hl hk
 rw [aW.step]
 unfold aW.c
 refine fC ?_
 by_cases h : x ∈ l
 ·obtain ⟨j, lp⟩ := h1 h
  have e : l.contains x = true := by simpa using h
  have key : aO.f G (k + 1) [.ro false (bV l), Nn x] [] = some (Nn j, []) := by
   rw [aO.step]
   unfold aO.c
   refine fC ?_
   clear h1 h2 pl
   generalize bV l = L at *
   generalize l.length = ll at *
   have fx := lc
   have lx1 := lp
   refine eH ?_
   exact w1 rfl rfl
  have ri : ∀ H, aJ (aO.f G (k + 1)) [.ro false (bV l), Nn x] H = some (Nn j, H) := fun H => aZ (H := H) key pl rfl
  have g1 : bC Tryd.prog .geq 3 true (Nn j) (.int .i64 0) = some (.bool true) := by rw [iI, decide_eq_true (by omega)]
  rw [e]
  clear h1 h2 pl key
  generalize bV l = L at *
  have fx := aKI ri <| g1
  refine eH ?_
  exact w1b rfl
 ·have lp := h2 h
  have e : l.contains x = false := by simpa using h
  have key : aO.f G (k + 1) [.ro false (bV l), Nn x] [] = some (I6 (-1), []) := by
   rw [aO.step]
   unfold aO.c
   refine fC ?_
   clear h1 h2 pl
   generalize bV l = L at *
   generalize l.length = ll at *
   have fx := lc
   have lx1 := lp
   refine eH ?_
   exact w1 rfl rfl
  have ri : ∀ H, aJ (aO.f G (k + 1)) [.ro false (bV l), Nn x] H = some (I6 (-1), H) := fun H => aZ (H := H) key pl rfl
  have g1 : bC Tryd.prog .geq 3 true (I6 (-1)) (.int .i64 0) = some (.bool false) := by rw [iI, decide_eq_false (by omega)]
  rw [e]
  clear h1 h2 pl key
  generalize bV l = L at *
  have fx := aKI ri <| g1
  refine eH ?_
  exact w1b rfl
theorem wB {H : aA} (hb : bS H.length H = true) {xs : List AV} (hx : bG H.length xs = true) : eF H.length xs H = some H := by
 unfold eF
 rw [List.take_length, hx, hb]; rfl
theorem wG {H : aA} (hb : bS H.length H = true) {x : AV} (hx : aV 0 x = true) : cS [x] H.length H = some (.ret, [x], H) := by
 have e := wB hb (xs := []) rfl
 have e2 : lO H H.length 6 (iQ [x]) = some x := by
  simp only [iQ]
  unfold lO
  rw [eA (Nat.zero_le _) hx]
 unfold cS
 rw [e2, e]
section
variable (G : aC) (k : Nat) (self : cK) {H : aA} (hb : bS H.length H = true) {F : AV} (hF : aV H.length F = true) (p : Nat → Bool)
include hb hF in
theorem tG : ∀ (suf pre l : List Nat) (f : Nat), l = pre ++ suf → l.length ≤ 100000 → suf.length < f → (∀ q ∈ suf, kX (fI (aI.env G k self)) F [Nn q] H = some (.bool (p q), H)) →
  (suf.any p = true → ∃ j : Nat, cC (aI.l2 G k H.length self) f [.ro false (bV l), F, .int .i64 0, Nn l.length, Nn pre.length] H = some (.ret, [.ro false (bV l), F, Nn j, Nn l.length, Nn j], H)) ∧
  (suf.any p = false → cC (aI.l2 G k H.length self) f [.ro false (bV l), F, .int .i64 0, Nn l.length, Nn pre.length] H = some (.exit 0, [.ro false (bV l), F, .int .i64 0, Nn l.length, Nn l.length], H))
 | suf, pre, l, 0, _, _, h, _ => by omega
 | [], pre, l, f + 1, hl, hn, hf, _ => by
  refine ⟨fun h => by (cases h), fun _ => ?_⟩
  have e : pre = l := by rw [hl]; simp
  subst e
  have hc : eF H.length [.ro false (bV pre), F, .int .i64 0, Nn pre.length, Nn pre.length] H = some H := wB hb (by simp [bG, hF]; simp [aV, eW])
  have g1 : bC Tryd.prog .lss 3 false (Nn pre.length) (Nn pre.length) = some (.bool false) := dR (by omega)
  rw [aR, aI.l2]
  refine eM ?_
  refine eC hc ?_
  clear hb hF hc
  generalize bV pre = L at *
  have fx := g1
  refine eH ?_
  refine fK ?_; rfl
 | y :: suf, pre, l, f + 1, hl, hn, hf, hp => by
  have hj : pre.length < l.length := by rw [hl]; simp
  have hy : l[pre.length] = y := by simp [hl]
  have hc : eF H.length [.ro false (bV l), F, .int .i64 0, Nn l.length, Nn pre.length] H = some H := wB hb (by simp [bG, hF]; simp [aV, eW])
  have g1 : bC Tryd.prog .lss 3 false (Nn pre.length) (Nn l.length) = some (.bool true) := dU (by omega)
  have ia := aCu false hj
  rw [hy] at ia
  have ld : ∀ H, aH G false 1 (.rp false (Nn y) 0) H = some (Nn y) := fun H => rfl
  have q2 : bC Tryd.prog .add 3 true (Nn pre.length) (.int .i64 1) = some (Nn (pre.length + 1 : Nat)) := gR (by omega)
  have cl := hp y (List.mem_cons_self ..)
  obtain ⟨h1, h2⟩ := tG suf (pre ++ [y]) l f (by rw [hl]; simp) hn (by simp only [List.length_cons] at hf; omega) (fun q hq => hp q (List.mem_cons_of_mem _ hq))
  have el : (pre ++ [y]).length = pre.length + 1 := by simp
  rw [el] at h1 h2
  cases hpy : p y with
  | true =>
   rw [hpy] at cl
   refine ⟨fun _ => ⟨pre.length, ?_⟩, fun h => by simp [List.any_cons, hpy] at h⟩
   rw [aR, aI.l2]
   refine eM ?_
   refine eC hc ?_
   clear hb hF hc h1 h2 hl hy hp
   generalize bV l = L at *
   generalize l.length = ll at *
   generalize fI (aI.env G k self) = EN at *
   have fx := aKI g1 <| aKI ia <| aKI ld <| cl
   refine eH ?_
   refine fK ?_; rfl
  | false =>
   rw [hpy] at cl
   refine ⟨fun h => ?_, fun h => ?_⟩
   ·obtain ⟨j, ih⟩ := h1 (by simpa [List.any_cons, hpy] using h)
    refine ⟨j, ?_⟩
    rw [aR, aI.l2]
    refine eM ?_
    refine eC hc ?_
    clear hb hF hc h1 h2 hl hy hp h
    generalize bV l = L at *
    generalize l.length = ll at *
    generalize fI (aI.env G k self) = EN at *
    have fx := aKI g1 <| aKI ia <| aKI ld <| aKI cl <| q2
    refine eH ?_
    exact ih
   ·have ih := h2 (by simpa [List.any_cons, hpy] using h)
    rw [aR, aI.l2]
    refine eM ?_
    refine eC hc ?_
    clear hb hF hc h1 h2 hl hy hp h
    generalize bV l = L at *
    generalize l.length = ll at *
    generalize fI (aI.env G k self) = EN at *
    have fx := aKI g1 <| aKI ia <| aKI ld <| aKI cl <| q2
    refine eH ?_
    exact ih
end
theorem vH (G : aC) (k : Nat) {H : aA} (hb : bS H.length H = true) {F : AV} (hF : aV H.length F = true) (p : Nat → Bool) (l : List Nat) (hl : l.length ≤ 100000) (hk : l.length < k)
  (hp : ∀ q ∈ l, kX (fI (aI.env G k (aI.f G k))) F [Nn q] H = some (.bool (p q), H)) :
  dG (aQ.f G (k + 2)) [.ro false (bV l), F] H = some (.bool (l.any p), H) := by
 refine kI ?_ (Nat.le_refl _)
 have lc : cB (.ro false (bV l)) = some (Nn l.length) := by simp [cB, dZ]
 obtain ⟨h1, h2⟩ := tG G k (aI.f G k) hb hF p l [] l k rfl hl hk hp
 have f1 := fun (n : Int) => wG hb (x := I6 n) rfl
 have f2 := fun (b : Bool) => wG hb (x := .bool b) rfl
 rw [aQ.step]
 unfold aQ.c
 refine fC ?_
 cases h : l.any p with
 | true =>
  obtain ⟨j, lp⟩ := h1 h
  have key : aI.f G (k + 1) [.ro false (bV l), F] H = some (Nn j, H) := by
   rw [aI.step]
   unfold aI.c
   have f1' := f1 j
   refine fC ?_
   clear h1 h2 hp h hb hF
   generalize bV l = L at *
   generalize l.length = ll at *
   have fx := lc
   have lx1 := lp
   refine eH ?_
   exact oF f1'
  have ri := kI key (Nat.le_refl _)
  have g1 : bC Tryd.prog .geq 3 true (Nn j) (.int .i64 0) = some (.bool true) := by rw [iI, decide_eq_true (by omega)]
  have f2' := f2 true
  clear h1 h2 hp key h hb hF
  generalize bV l = L at *
  have fx := aKI ri <| g1
  refine eH ?_
  exact oF f2'
 | false =>
  have lp := h2 h
  have key : aI.f G (k + 1) [.ro false (bV l), F] H = some (I6 (-1), H) := by
   rw [aI.step]
   unfold aI.c
   have f1' := f1 (-1)
   refine fC ?_
   clear h1 h2 hp h hb hF
   generalize bV l = L at *
   generalize l.length = ll at *
   have fx := lc
   have lx1 := lp
   refine eH ?_
   exact oF f1'
  have ri := kI key (Nat.le_refl _)
  have g1 : bC Tryd.prog .geq 3 true (I6 (-1)) (.int .i64 0) = some (.bool false) := by rw [iI, decide_eq_false (by omega)]
  have f2' := f2 false
  clear h1 h2 hp key h hb hF
  generalize bV l = L at *
  have fx := aKI ri <| g1
  refine eH ?_
  exact oF f2'
def pW (ws : List WI) (out : List (List Nat)) (i : Nat) : Bool :=
 (dD (ws.getD i default).op).d && !(decide ((ws.getD i default).op = 15)) && !((kL ws i).any fun q => (out.getD q []).contains (ws.getD i default).d.toNat)
def jF (ws : List WI) (out : List (List Nat)) (i : Nat) : List Nat := (List.range i).filter (pW ws out)
theorem aDr (ws : List WI) (out : List (List Nat)) (i : Nat) : jF ws out (i + 1) = jF ws out i ++ if pW ws out i = true then [i] else [] := by
 unfold jF
 rw [List.range_succ, List.filter_append]
 congr 1
 by_cases h : pW ws out i = true <;> simp [h]
theorem zO (ws : List WI) (out : List (List Nat)) (i : Nat) : (jF ws out i).length ≤ i := by
 have := List.length_filter_le (pW ws out) (List.range i)
 simpa [jF] using this
def nW (out : List (List Nat)) (dead : List Nat) (T : aA) : aA := ⟨3, 1, []⟩ :: ⟨56, 1, [iP out]⟩ :: ⟨3, 1, bV dead⟩ :: T
theorem aHI (out : List (List Nat)) (dead : List Nat) (X : aA) {xs : List AV} (hx : bG 3 xs = true) : eF 3 xs (nW out dead X) = some (nW out dead []) := by
 have hb : bS 3 (nW out dead []) = true := by simp [nW, bS, bG, eW, oT]
 unfold eF
 have e : (nW out dead X).take 3 = nW out dead [] := rfl
 rw [e, hx, hb]; rfl
def HK (out : List (List Nat)) (dead : List Nat) (w : WI) (x : AV) : aA := nW out dead [⟨29, 6, [w.v]⟩, ⟨3, 1, [x]⟩]
def FK : AV := .fn 62 [.ptr 1 1 0 0, .ptr 4 1 0 0]
theorem aGF {out : List (List Nat)} {q : Nat} (h : q < out.length) : aM 1 (iP out) (Nn q) = some (.rp false (.ro false (bV (out.getD q []))) 0) := by
 have e : (out.map fun l => AV.ro false (bV l))[q]? = some (.ro false (bV (out.getD q []))) := by
  rw [List.getElem?_map, List.getElem?_eq_getElem h, List.getD_eq_getElem?_getD, List.getElem?_eq_getElem h]; rfl
 unfold iP
 simp [aM, e, AV.cells]
section
variable (G : aC) (k : Nat) (self : cK)
theorem aIS (k : Nat) (self : cK) {out : List (List Nat)} {dead : List Nat} {w : WI} {d q : Nat} (hq : q < out.length) (hl : (out.getD q []).length ≤ 10000) (hk : 10010 < k) :
  kX (fI (aI.env G k self)) FK [Nn q] (HK out dead w (Nn d)) = some (.bool ((out.getD q []).contains d), HK out dead w (Nn d)) := by
 obtain ⟨kk, rfl⟩ : ∃ kk, k = kk + 1 := ⟨k - 1, by omega⟩
 have hb : bS (HK out dead w (Nn d)).length (HK out dead w (Nn d)) = true := by
  show bS 5 _ = true
  simp [HK, nW, bS, bG, eW, oT]
  simp [WI.v, aV, bG]
 have hc := yP G (kk - 2) (out.getD q []) d (by omega) (by omega)
 rw [show kk - 2 + 2 = kk by omega] at hc
 have rc : ∀ H, aJ (aW.f G kk) [.ro false (bV (out.getD q [])), Nn d] H = some (.bool ((out.getD q []).contains d), H) := fun H => aZ (H := H) hc (by simp [dK, bP]; exact kZ _ (fun _ => rfl) _) rfl
 have l1 : aH G false 1 (.ptr 1 1 0 0) (HK out dead w (Nn d)) = some (iP out) := rfl
 have l2 : aH G false 1 (.ptr 4 1 0 0) (HK out dead w (Nn d)) = some (Nn d) := rfl
 have i1 := aGF hq
 have l3 : ∀ H, aH G false 1 (.rp false (.ro false (bV (out.getD q []))) 0) H = some (.ro false (bV (out.getD q []))) := fun H => rfl
 have fin := wG hb (x := .bool ((out.getD q []).contains d)) rfl
 have key : dH.f G (kk + 1) [Nn q, .ptr 1 1 0 0, .ptr 4 1 0 0] (HK out dead w (Nn d)) = some (.bool ((out.getD q []).contains d), HK out dead w (Nn d)) := by
  rw [dH.step]
  unfold dH.c
  refine fC ?_
  clear hb hc hl hq
  generalize HK out dead w (Nn d) = H at *
  generalize bV (out.getD q []) = L at *
  generalize iP out = O at *
  have fx := aKI l1 <| aKI i1 <| aKI l3 <| aKI l2 <| rc
  refine eH ?_
  exact oF fin
 show dG (dH.f G (kk + 1)) ([Nn q] ++ [.ptr 1 1 0 0, .ptr 4 1 0 0]) _ = _
 exact kI key (Nat.le_refl _)
def xsD (C : AV) (is_ : AV) (n m i : Nat) : List AV := [.rp false C 0, .ptr 1 1 0 0, .sl 2 m 0 m 1, is_, Nn n, Nn i]
theorem aJI (out : List (List Nat)) (dead : List Nat) (x : Nat) (T : aA) (hl : dead.length ≤ 100000) : eQ 3 1 (.sl 2 dead.length 0 dead.length 1) (.ro false [Nn x]) (nW out dead T) = some (.sl 2 (dead ++ [x]).length 0 (dead ++ [x]).length 1, nW out (dead ++ [x]) T) := by
 have e : (nW out dead T)[2]? = some ⟨3, 1, bV dead⟩ := rfl
 have e1 : fN (.ro false [Nn x]) (nW out dead T) = some [Nn x] := rfl
 unfold eQ
 simp only [e, e1, dZ]
 rw [if_pos (by refine ⟨?_, ?_, ?_, ?_, ?_⟩ <;> first | trivial | rfl | (show dead.length + 1 ≤ _; omega))]
 have e2 : (bV dead).take dead.length = bV dead := List.take_of_length_le (by rw [dZ]; exact Nat.le_refl _)
 have e3 : (bV dead).drop (dead.length + [Nn x].length) = [] := List.drop_of_length_le (by rw [dZ]; exact Nat.le_add_right _ _)
 have e4 : bV dead ++ [Nn x] = bV (dead ++ [x]) := by simp [bV]
 rw [e2, e3, List.append_nil, e4, dZ, List.length_append]
 rfl
variable (bor : Bool) (ws : List WI) (R : Nat) (M : Int) (out : List (List Nat))
theorem zP (hgood : ∀ w ∈ ws, w.Good R ws.length) (hn : ws.length ≤ 1000) (ho : out.length = ws.length) (hrow : ∀ q, (out.getD q []).length ≤ 10000) (hk : 12000 ≤ k) : ∀ (d i f : Nat) (X : aA), i + d = ws.length → d < f →
  cC (cY.l6 G k 3 self) f (xsD (cV bor ws R M) (.ro bor (cJ ws)) ws.length (jF ws out i).length i) (nW out (jF ws out i) X) = some (.exit 0, xsD (cV bor ws R M) (.ro bor (cJ ws)) ws.length (jF ws out ws.length).length ws.length, nW out (jF ws out ws.length) [])
 | d, i, 0, X, _, h => by omega
 | d, i, f + 1, X, hd, hf => by
  have hx : bG 3 (xsD (cV bor ws R M) (.ro bor (cJ ws)) ws.length (jF ws out i).length i) = true := by simp [xsD, bG, aV, cV, fH]
  have hc := aHI out (jF ws out i) X hx
  match d, hd, hf with
  | 0, hd, hf =>
   have e : i = ws.length := by omega
   subst e
   have g1 : bC Tryd.prog .lss 3 false (Nn ws.length) (Nn ws.length) = some (.bool false) := dR (by omega)
   rw [aR, cY.l6]
   refine eM ?_
   refine eC hc ?_
   unfold xsD
   generalize cV bor ws R M = C at *
   generalize cJ ws = WS at *
   have fx := g1
   refine eH ?_
   refine fK ?_; rfl
  | d + 1, hd, hf =>
   have hi : i < ws.length := by omega
   have g1 : bC Tryd.prog .lss 3 false (Nn i) (Nn ws.length) = some (.bool true) := dU (by omega)
   have q2 : bC Tryd.prog .add 3 true (Nn i) (.int .i64 1) = some (Nn (i + 1 : Nat)) := gR (by omega)
   have ia := rG bor ws i hi
   obtain ⟨w, hw⟩ : ∃ w, w = ws.getD i default := ⟨_, rfl⟩
   rw [← hw] at ia
   have hmem : w ∈ ws := by rw [hw, List.getD_eq_getElem?_getD, List.getElem?_eq_getElem hi]; exact List.getElem_mem hi
   have hg := hgood w hmem
   have li := fun H => wS G bor w H
   have hD := aDr ws out i
   obtain ⟨D, hDe⟩ : ∃ D, D = jF ws out i := ⟨_, rfl⟩
   have hDl : D.length ≤ i := by rw [hDe]; exact zO ws out i
   rw [← hDe] at hc hD ⊢
   have hWr := nZ G (k - 6) w.op w.d w.a w.b w.c w.k []
   rw [show k - 6 + 6 = k by omega] at hWr
   have rw_ : ∀ H, aJ (cT.f G k) [w.v] H = some (.tup [I6 (if (dD w.op).d = true then w.d else 0), .bool (dD w.op).d], H) := fun H => aZ (H := H) hWr rfl rfl
   have hNx := qD G (k - 20) bor ws R M (i : Int) (by omega) (by omega)
   rw [show k - 20 + 20 = k by omega, if_pos ⟨by omega, by omega⟩, Int.toNat_natCast] at hNx
   obtain ⟨n1, n2, n3, n4, n5⟩ := hU ws i
   rw [n3] at hNx
   have rn : ∀ H, aJ (cG.f G k) [cV bor ws R M, Nn i] H = some (.ro false (bV (kL ws i)), H) := fun H => aZ (H := H) hNx (by simp [dK, bP, cV, jA]) (by simp [dV]; exact iN _ (fun _ => rfl) _)
   have bx : gD 29 (.agg [.int .i64 0, .int .i64 0, .int .i64 0, .int .i64 0, .int .i64 0, .int .i64 0]) (nW out D []) = some (.ptr 3 1 0 0, nW out D [⟨29, 6, [WI.v ⟨0, 0, 0, 0, 0, 0⟩]⟩]) := rfl
   have s0_ : hX (cH 6 (.ptr 3 1 0 0) w.v (nW out D [⟨29, 6, [WI.v ⟨0, 0, 0, 0, 0, 0⟩]⟩])) = some (.tup [], nW out D [⟨29, 6, [w.v]⟩]) := rfl
   have lw : aH G true 6 (.ptr 3 1 0 0) (nW out D [⟨29, 6, [w.v]⟩]) = some w.v := rfl
   have fa0 : aF 0 (.ptr 3 1 0 0) = some (.ptr 3 1 0 0) := rfl
   have bx2 : gD 3 (.int .i64 0) (nW out D [⟨29, 6, [w.v]⟩]) = some (.ptr 4 1 0 0, HK out D w (.int .i64 0)) := rfl
   have s1 : ∀ x : Int, hX (cH 1 (.ptr 4 1 0 0) (I6 x) (HK out D w (.int .i64 0))) = some (.tup [], HK out D w (I6 x)) := fun x => rfl
   have lo : ∀ x, aH G false 1 (.ptr 3 1 0 0) (HK out D w x) = some (I6 w.op) := fun x => rfl
   have ldC : ∀ H, aH G true 3 (.rp false (cV bor ws R M) 0) H = some (cV bor ws R M) := fun H => rfl
   have ihE := zP hgood hn ho hrow hk d (i + 1) f
   rw [hD] at ihE
   rw [aR, cY.l6]
   refine eM ?_
   refine eC hc ?_
   have hdq : pW ws out i = ((dD w.op).d && !(decide (w.op = 15)) && !((kL ws i).any fun q => (out.getD q []).contains w.d.toNat)) := by rw [hw]; rfl
   cases hfd : (dD w.op).d with
   | false =>
    have e0 : pW ws out i = false := by rw [hdq, hfd]; rfl
    rw [e0] at ihE
    simp only [Bool.false_eq_true, if_false, List.append_nil] at ihE
    have ih := ihE (⟨29, 6, [w.v]⟩ :: [⟨3, 1, [.int .i64 0]⟩]) (by omega) (by omega)
    rw [hfd] at rw_
    simp only [Bool.false_eq_true, if_false] at rw_
    have s1' := s1 0
    replace ih : cC (cY.l6 G k 3 self) f (xsD (cV bor ws R M) (.ro bor (cJ ws)) ws.length D.length (i + 1)) (HK out D w (I6 0)) = _ := ih
    clear hc hD ihE hdq hNx hWr n5 n3 hx
    unfold xsD at ih ⊢
    generalize HK out D w (I6 0) = h2 at *
    generalize HK out D w (.int .i64 0) = h1 at *
    generalize nW out D [⟨29, 6, [w.v]⟩] = h3 at *
    generalize nW out D [] = h4 at *
    generalize w.v = wv at *
    generalize cV bor ws R M = C at *
    generalize cJ ws = WS at *
    have fx := aKI g1 <| aKI ia <| aKI li <| aKI bx <| aKI s0_ <| aKI lw <| aKI rw_ <| aKI bx2 <| aKI s1' <| q2
    refine eH ?_
    exact ih
   | true =>
    rw [hfd] at rw_ hdq
    simp only [if_true] at rw_
    by_cases h15 : w.op = 15
    ·have e0 : pW ws out i = false := by rw [hdq, decide_eq_true h15]; rfl
     rw [e0] at ihE
     simp only [Bool.false_eq_true, if_false, List.append_nil] at ihE
     have ih := ihE (⟨29, 6, [w.v]⟩ :: [⟨3, 1, [I6 w.d]⟩]) (by omega) (by omega)
     have s1' := s1 w.d
     have lo' := lo (I6 w.d)
     have q3 : bC Tryd.prog .eql 3 true (I6 w.op) (.int .i64 15) = some (.bool true) := gH h15
     replace ih : cC (cY.l6 G k 3 self) f (xsD (cV bor ws R M) (.ro bor (cJ ws)) ws.length D.length (i + 1)) (HK out D w (I6 w.d)) = _ := ih
     clear hc hD ihE hdq hNx hWr n5 n3 hx lo s1
     unfold xsD at ih ⊢
     generalize HK out D w (I6 w.d) = h2 at *
     generalize HK out D w (.int .i64 0) = h1 at *
     generalize nW out D [⟨29, 6, [w.v]⟩] = h3 at *
     generalize nW out D [] = h4 at *
     generalize w.v = wv at *
     generalize cV bor ws R M = C at *
     generalize cJ ws = WS at *
     have fx := aKI g1 <| aKI ia <| aKI li <| aKI bx <| aKI s0_ <| aKI lw <| aKI rw_ <| aKI bx2 <| aKI s1' <| aKI q2 <| aKI fa0 <| aKI lo' <| q3
     refine eH ?_
     exact ih
    ·have q3 : bC Tryd.prog .eql 3 true (I6 w.op) (.int .i64 15) = some (.bool false) := fU h15
     have hdn : 0 ≤ w.d := by
      have hop := hg.ok2.ok.op
      by_cases h16 : w.op ≤ 15
      ·exact (hg.ok2.ok.d (by omega)).1
      ·rw [aCo (by omega)] at hfd; cases hfd
     obtain ⟨dn, hdn2⟩ : ∃ dn : Nat, w.d = dn := ⟨w.d.toNat, by omega⟩
     rw [hdn2] at rw_ hdq
     rw [Int.toNat_natCast] at hdq
     have s1' := s1 dn
     have lo' := lo (I6 dn)
     have hbK : bS (HK out D w (Nn dn)).length (HK out D w (Nn dn)) = true := by
      show bS 5 _ = true
      simp [HK, nW, bS, bG, eW, oT]
      simp [WI.v, aV, bG]
     have cf := vH G (k - 2) hbK (F := FK) (by show aV 5 FK = true; rfl) (fun q => (out.getD q []).contains dn) (kL ws i) (by omega) (by omega)
      (fun q hq => aIS G _ _ (by rw [ho]; exact n1 q hq) (hrow q) (by omega))
     rw [show k - 2 + 2 = k by omega] at cf
     replace cf : dG (aQ.f G k) [.ro false (bV (kL ws i)), .fn 62 [.ptr 1 1 0 0, .ptr 4 1 0 0]] (HK out D w (I6 dn)) = some (.bool ((kL ws i).any fun q => (out.getD q []).contains dn), HK out D w (I6 dn)) := cf
     cases hany : (kL ws i).any fun q => (out.getD q []).contains dn with
     | true =>
      rw [hany] at cf hdq
      have e0 : pW ws out i = false := by rw [hdq, decide_eq_false h15]; rfl
      rw [e0] at ihE
      simp only [Bool.false_eq_true, if_false, List.append_nil] at ihE
      have ih := ihE (⟨29, 6, [w.v]⟩ :: [⟨3, 1, [I6 dn]⟩]) (by omega) (by omega)
      replace ih : cC (cY.l6 G k 3 self) f (xsD (cV bor ws R M) (.ro bor (cJ ws)) ws.length D.length (i + 1)) (HK out D w (I6 dn)) = _ := ih
      clear hc hD ihE hdq hNx hWr n5 n3 hx lo s1 hbK
      unfold xsD at ih ⊢
      generalize HK out D w (I6 dn) = h2 at *
      generalize HK out D w (.int .i64 0) = h1 at *
      generalize nW out D [⟨29, 6, [w.v]⟩] = h3 at *
      generalize nW out D [] = h4 at *
      generalize w.v = wv at *
      generalize cV bor ws R M = C at *
      generalize cJ ws = WS at *
      have fx := aKI g1 <| aKI ia <| aKI li <| aKI bx <| aKI s0_ <| aKI lw <| aKI rw_ <| aKI bx2 <| aKI s1' <| aKI q2 <| aKI fa0 <| aKI lo' <| aKI q3 <| aKI ldC <| aKI rn <| cf
      refine eH ?_
      exact ih
     | false =>
      rw [hany] at cf hdq
      have e0 : pW ws out i = true := by rw [hdq, decide_eq_false h15]; rfl
      rw [e0, if_pos rfl] at ihE
      have ih := ihE (⟨29, 6, [w.v]⟩ :: [⟨3, 1, [I6 dn]⟩]) (by omega) (by omega)
      have br : ∀ H, dN 1 1 (.int .i64 0) [(0, Nn i)] H = some (.ro false [Nn i], H) := fun H => rfl
      have ap := aJI out D i [⟨29, 6, [w.v]⟩, ⟨3, 1, [I6 dn]⟩] (by omega)
      replace ap : eQ 3 1 (.sl 2 D.length 0 D.length 1) (.ro false [Nn i]) (HK out D w (I6 dn)) = some (.sl 2 (D ++ [i]).length 0 (D ++ [i]).length 1, HK out (D ++ [i]) w (I6 dn)) := ap
      replace ih : cC (cY.l6 G k 3 self) f (xsD (cV bor ws R M) (.ro bor (cJ ws)) ws.length (D ++ [i]).length (i + 1)) (HK out (D ++ [i]) w (I6 dn)) = _ := ih
      clear hc hD ihE hdq hNx hWr n5 n3 hx lo s1 hbK
      unfold xsD at ih ⊢
      generalize HK out (D ++ [i]) w (I6 dn) = h5 at *
      generalize HK out D w (I6 dn) = h2 at *
      generalize HK out D w (.int .i64 0) = h1 at *
      generalize nW out D [⟨29, 6, [w.v]⟩] = h3 at *
      generalize nW out D [] = h4 at *
      generalize w.v = wv at *
      generalize cV bor ws R M = C at *
      generalize cJ ws = WS at *
      generalize (D ++ [i]).length = DL at *
      have fx := aKI g1 <| aKI ia <| aKI li <| aKI bx <| aKI s0_ <| aKI lw <| aKI rw_ <| aKI bx2 <| aKI s1' <| aKI q2 <| aKI fa0 <| aKI lo' <| aKI q3 <| aKI ldC <| aKI rn <| aKI cf <| aKI br <| ap
      refine eH ?_
      exact ih
theorem aFc (hg : GOk G) (hv : fA ws R M = .ok) (hn : ws.length ≤ 1000) (hR : R ≤ 1000) (hk : 12000 ≤ k) (hI : bB.f G k [cV bor ws R M] [] = some (.tup [iP out, .nili], [])) (hP : Part ws.length (nP ws) (kL ws) (yG ws) R out) :
  cY.f G (k + 1) [cV bor ws R M] [] = some (.tup [.ro false (bV (jF ws out ws.length)), .nili], []) := by
 have hgood := oZ hv
 rw [Int.toNat_natCast] at hgood
 have co : dV (iP out) = true := by
  unfold iP
  simp only [dV]
  exact iN _ (fun l => by simp [dV]; exact iN _ (fun _ => rfl) _) out
 have ri : ∀ H, aJ (bB.f G k) [cV bor ws R M] H = _ := fun H => aZ (H := H) hI (by simp [dK, bP, cV, jA]) (by simp [dV, fW, co])
 have b0 : ∀ H, eE (cV bor ws R M) H = some (.rp false (cV bor ws R M) 0, H) := fun H => rfl
 have l0 : ∀ H, aH G true 3 (.rp false (cV bor ws R M) 0) H = some (cV bor ws R M) := fun H => rfl
 have f0 : aF 0 (.rp false (cV bor ws R M) 0) = some (.rp false (cV bor ws R M) 0) := rfl
 have lI : ∀ H, aH G false 1 (.rp false (cV bor ws R M) 0) H = some (.ro bor (cJ ws)) := fun H => rfl
 have ln : cB (.ro bor (cJ ws)) = some (Nn ws.length) := by simp [cB, fY]
 have bx : gD 56 .nils [⟨3, 1, []⟩] = some (.ptr 1 1 0 0, [⟨3, 1, []⟩, ⟨56, 1, [.nils]⟩]) := rfl
 have s1 : hX (cH 1 (.ptr 1 1 0 0) (iP out) [⟨3, 1, []⟩, ⟨56, 1, [.nils]⟩]) = some (.tup [], [⟨3, 1, []⟩, ⟨56, 1, [iP out]⟩]) := rfl
 have q1 : bC Tryd.prog .neq 33 true .nili .nili = some (.bool false) := by kernel_rfl
 obtain ⟨self, hself⟩ : ∃ self, self = cY.f G k := ⟨_, rfl⟩
 have hrow : ∀ q, (out.getD q []).length ≤ 10000 := fun q => by
  have hnd : (out.getD q []).Nodup := (hP.up q).imp (fun h => Nat.ne_of_lt h)
  have := List.Nodup.length_le_of_subset hnd (l₂ := List.range R) (fun x hx => by simpa using hP.low q x hx)
  have : (out.getD q []).length ≤ R := by simpa using this
  omega
 have lp := zP G k self bor ws R M out hgood hn hP.len hrow hk ws.length 0 k [] (by omega) (by omega)
 replace lp : cC (cY.l6 G k ([⟨3, 1, []⟩, ⟨56, 1, [iP out]⟩, ⟨3, 1, []⟩] : aA).length self) k (xsD (cV bor ws R M) (.ro bor (cJ ws)) ws.length 0 0) [⟨3, 1, []⟩, ⟨56, 1, [iP out]⟩, ⟨3, 1, []⟩] = _ := lp
 obtain ⟨D, hD⟩ : ∃ D, D = jF ws out ws.length := ⟨_, rfl⟩
 rw [← hD] at lp ⊢
 have fin : cS [.sl 2 D.length 0 D.length 1, .nili] 0 (nW out D []) = some (.ret, [.tup [.ro false (bV D), .nili]], []) := by
  have e1 : fN (.sl 2 D.length 0 D.length 1) (nW out D []) = some (bV D) := by
   have : (nW out D [])[2]? = some ⟨3, 1, bV D⟩ := rfl
   simp only [fN, this, dZ, if_true, List.drop_zero]
   rw [List.take_of_length_le (by rw [dZ]; exact Nat.le_refl _)]
  have e2 : nG (nM (lO (nW out D []) 0 4)) (bV D) = some (bV D) := mM fun x h => pF (jS (eW 0 _) x h)
  have e3 : lO (nW out D []) 0 5 (.sl 2 D.length 0 D.length 1) = some (.ro false (bV D)) := by
   unfold lO
   simp only [aV, e1, aCv, e2]
   rfl
  have e5 : lO (nW out D []) 0 6 (iQ [.sl 2 D.length 0 D.length 1, .nili]) = some (.tup [.ro false (bV D), .nili]) := by
   have hb : aV 0 (AV.tup [.sl 2 D.length 0 D.length 1, .nili]) = false := by simp [aV, bG]
   have hn : lO (nW out D []) 0 5 .nili = some .nili := by unfold lO; simp [aV]
   simp only [iQ]
   unfold lO
   simp only [hb, nG, e3, hn]
  unfold cS
  rw [e5, pE]
 rw [cY.step]
 unfold cY.c
 rw [← hself]
 refine fC ?_
 unfold xsD at lp
 clear hI hP hrow hgood co hself
 generalize cV bor ws R M = C at *
 generalize cJ ws = WS at *
 generalize iP out = O at *
 generalize nW out D [] = HD at *
 have fx := aKI b0 <| aKI l0 <| aKI ri <| aKI bx <| aKI s1 <| aKI q1 <| aKI f0 <| aKI lI <| ln
 have lx1 := lp
 refine eH ?_
 exact oF fin
end
def fE (n : Int) : List Int → List Int
 | [] => [n]
 | x :: l => if x < n then x :: fE n l else if x = n then x :: l else n :: x :: l
theorem oU (n y : Int) : ∀ l : List Int, y ∈ fE n l ↔ y = n ∨ y ∈ l
 | [] => by simp [fE]
 | x :: l => by
  unfold fE
  split
  ·rw [List.mem_cons, oU n y l, List.mem_cons]
   constructor
   ·rintro (h | h | h) <;> simp [h]
   ·rintro (h | h | h) <;> simp [h]
  ·split
   ·rename_i h; subst h; simp
   ·simp
theorem pL (n : Int) : ∀ {l : List Int}, l.Pairwise (· < ·) → (fE n l).Pairwise (· < ·)
 | [], _ => by simp [fE]
 | x :: l, h => by
  have h0 := h
  rw [List.pairwise_cons] at h
  unfold fE
  split
  ·rename_i hx
   rw [List.pairwise_cons]
   refine ⟨fun y hy => ?_, pL n h.2⟩
   rcases (oU n y l).1 hy with rfl | hy
   ·exact hx
   ·exact h.1 y hy
  ·split
   ·exact h0
   ·rw [List.pairwise_cons]
    refine ⟨fun y hy => ?_, h0⟩
    rcases List.mem_cons.1 hy with rfl | hy
    ·omega
    ·have := h.1 y hy; omega
theorem gS (n : Int) : ∀ l : List Int, (fE n l).length ≤ l.length + 1
 | [] => by simp [fE]
 | x :: l => by
  unfold fE
  split
  ·have := gS n l; simp only [List.length_cons]; omega
  ·split <;> simp
theorem aCF (n : Int) : ∀ (pre suf : List Int), (∀ x ∈ pre, x < n) → fE n (pre ++ suf) = pre ++ fE n suf
 | [], suf, _ => rfl
 | x :: pre, suf, h => by
  show fE n (x :: (pre ++ suf)) = x :: (pre ++ fE n suf)
  rw [← aCF n pre suf (fun y hy => h y (List.mem_cons_of_mem _ hy))]
  show (if x < n then x :: fE n (pre ++ suf) else _) = _
  rw [if_pos (h x (List.mem_cons_self ..))]
inductive IsL : AV → List Int → Prop where
 | nil : IsL .nils []
 | ro (b : Bool) (l : List Int) : IsL (.ro b (I3.intsI l)) l
theorem IsL.low {v : AV} {l : List Int} (h : IsL v l) (n : Nat) : aV n v = true := by
 cases h with
 | nil => rfl
 | ro b l => simp [aV, I3.intsI_below]
theorem IsL.plain {v : AV} {l : List Int} (h : IsL v l) : bP v = true := by
 cases h with
 | nil => rfl
 | ro b l => simp [bP, I3.intsI_plain]
theorem IsL.len {v : AV} {l : List Int} (h : IsL v l) : cB v = some (Nn l.length) := by
 cases h with
 | nil => rfl
 | ro b l => simp [cB, I3.intsI_len]
theorem IsL.at {v : AV} {l : List Int} (h : IsL v l) {j : Nat} (hj : j < l.length) : ∃ b, aM 1 v (Nn j) = some (.rp b (I6 l[j]) 0) := by
 cases h with
 | nil => simp at hj
 | ro b l =>
  refine ⟨b, ?_⟩
  have e := I3.intsI_get l j hj
  have e2 : l.getD j 0 = l[j] := by rw [List.getD_eq_getElem?_getD, List.getElem?_eq_getElem hj]; rfl
  rw [e2] at e
  have e1 : (I6 l[j]).cells.length = 1 := rfl
  simp [aM, e, e1]
theorem IsL.elems {v : AV} {l : List Int} (h : IsL v l) (H : aA) : fN v H = some (I3.intsI l) := by cases h <;> rfl
theorem yS (G : aC) (b : Bool) (n : Int) (H : aA) : aH G false 1 (.rp b (I6 n) 0) H = some (I6 n) := rfl
theorem IsL.lo {v : AV} {l : List Int} (h : IsL v l) {m : Nat} (hm : m ≤ l.length) : ∃ v', fO 1 v none (some (Nn m)) = some v' ∧ IsL v' (l.take m) := by
 cases h with
 | nil =>
  simp at hm
  subst hm
  exact ⟨.nils, rfl, .nil⟩
 | ro b l =>
  refine ⟨.ro b (I3.intsI (l.take m)), ?_, .ro b _⟩
  unfold fO
  simp only [iM, Int.toNat_natCast, I3.intsI_len, I3.intsI_sz]
  rw [if_pos (by omega)]
  simp only
  rw [if_pos ⟨Nat.zero_le _, hm, trivial⟩]
  unfold I3.intsI
  simp [List.map_take]
theorem IsL.hi {v : AV} {l : List Int} (h : IsL v l) {m : Nat} (hm : m ≤ l.length) : ∃ v', fO 1 v (some (Nn m)) none = some v' ∧ IsL v' (l.drop m) := by
 cases h with
 | nil =>
  simp at hm
  subst hm
  exact ⟨.nils, rfl, .nil⟩
 | ro b l =>
  refine ⟨.ro b (I3.intsI (l.drop m)), ?_, .ro b _⟩
  unfold fO
  simp only [iM, Int.toNat_natCast, I3.intsI_len, I3.intsI_sz]
  rw [if_pos (by omega)]
  simp only
  rw [if_pos ⟨hm, Nat.le_refl _, trivial⟩]
  have e : ((I3.intsI l).drop m).take (l.length - m) = (I3.intsI l).drop m := List.take_of_length_le (by rw [List.length_drop, I3.intsI_len]; exact Nat.le_refl _)
  rw [e]
  unfold I3.intsI
  rw [List.map_drop]
def hI (n : Nat) (l : List Int) (T : aA) : aA := List.replicate n ⟨3, 1, []⟩ ++ ⟨3, 1, I3.intsI l⟩ :: T
theorem aIx (n : Nat) (l : List Int) (T : aA) : (hI n l T)[n]? = some ⟨3, 1, I3.intsI l⟩ := by unfold hI; rw [List.getElem?_append_right (by simp)]; simp
theorem aJf (n : Nat) (l m : List Int) (T : aA) : (hI n l T).set n ⟨3, 1, I3.intsI m⟩ = hI n m T := by unfold hI; rw [List.set_append_right _ _ (by simp)]; simp
theorem wK (n : Nat) (l : List Int) (T : aA) {xs : List AV} (hx : bG (n + 1) xs = true) : eF (n + 1) xs (hI n l T) = some (hI n l []) := by
 have e : (hI n l T).take (n + 1) = hI n l [] := by
  unfold hI
  rw [List.take_append, List.length_replicate, List.take_of_length_le (by simp), show n + 1 - n = 1 by omega]
  rfl
 have hb : bS (n + 1) (hI n l []) = true := by
  unfold hI
  have : ∀ (k : Nat) (T : aA), bS (n + 1) (List.replicate k ⟨3, 1, []⟩ ++ T) = bS (n + 1) T := fun k T => by
   induction k with
   | zero => rfl
   | succ k ih => simp only [List.replicate_succ, List.cons_append, bS, bG, Bool.true_and, ih]
  rw [this]
  simp [bS, I3.intsI_below]
 unfold eF
 rw [e, hx, hb]; rfl
theorem wJ (n : Nat) (l : List Int) (T : aA) {v : AV} {m : List Int} (hv : IsL v m) (hl : l.length + m.length ≤ 1000000) : eQ 3 1 (.sl n l.length 0 l.length 1) v (hI n l T) = some (.sl n (l ++ m).length 0 (l ++ m).length 1, hI n (l ++ m) T) := by
 have e := aIx n l T
 have e1 := hv.elems (hI n l T)
 unfold eQ
 simp only [e, e1, I3.intsI_len, I3.intsI_sz]
 rw [if_pos (by refine ⟨?_, ?_, ?_, ?_, ?_⟩ <;> first | trivial | rfl | omega)]
 have e2 : (I3.intsI l).take l.length = I3.intsI l := List.take_of_length_le (by rw [I3.intsI_len]; exact Nat.le_refl _)
 have e3 : (I3.intsI l).drop (l.length + m.length) = [] := List.drop_of_length_le (by rw [I3.intsI_len]; omega)
 have e4 : I3.intsI l ++ I3.intsI m = I3.intsI (l ++ m) := by simp [I3.intsI]
 rw [e2, e3, List.append_nil, e4, I3.intsI_len, aJf]
 simp
theorem aAX (n : Nat) (l : List Int) (T : aA) : cS [.sl n l.length 0 l.length 1] 0 (hI n l T) = some (.ret, [.ro false (I3.intsI l)], []) := by
 have h4 := aGh (d := 5) (aIx n l T) (Nat.zero_le n) (I3.intsI_len l) (I3.intsI_sz l) (I3.intsI_below 0 l)
 have := aAV h4 (by rfl)
 rw [this]; rfl
section
variable (G : aC) (k : Nat) (self : cK)
theorem yZ {v : AV} {l : List Int} (hv : IsL v l) (hl : l.length ≤ 100000) : ∀ (suf pre : List Int) (f : Nat) (X : aA), l = pre ++ suf → suf.length < f →
  cC (bQ.l3 G k 3 self) f [v, .sl 2 pre.length 0 pre.length 1, Nn pre.length] (hI 2 pre X) = some (.exit 0, [v, .sl 2 l.length 0 l.length 1, Nn l.length], hI 2 l [])
 | suf, pre, 0, X, _, h => by omega
 | [], pre, f + 1, X, he, hf => by
  have e : pre = l := by rw [he]; simp
  subst e
  have hc := wK 2 pre X (xs := [v, .sl 2 pre.length 0 pre.length 1, Nn pre.length]) (by simp [bG, hv.low]; simp [aV])
  have lc := hv.len
  have g1 : bC Tryd.prog .lss 3 false (Nn pre.length) (Nn pre.length) = some (.bool false) := dR (by omega)
  rw [aR, bQ.l3]
  refine eM ?_
  refine eC hc ?_
  clear hc hv
  generalize pre.length = pl at *
  have fx := aKI lc <| g1
  refine eH ?_
  refine fK ?_; rfl
 | y :: suf, pre, f + 1, X, he, hf => by
  have hj : pre.length < l.length := by rw [he]; simp
  have hy : l[pre.length] = y := by simp [he]
  have hc := wK 2 pre X (xs := [v, .sl 2 pre.length 0 pre.length 1, Nn pre.length]) (by simp [bG, hv.low]; simp [aV])
  have lc := hv.len
  have g1 : bC Tryd.prog .lss 3 false (Nn pre.length) (Nn l.length) = some (.bool true) := dU (by omega)
  have q2 : bC Tryd.prog .add 3 true (Nn pre.length) (.int .i64 1) = some (Nn (pre.length + 1 : Nat)) := gR (by omega)
  obtain ⟨b, ia⟩ := hv.at hj
  rw [hy] at ia
  have ld := yS G b y
  have br : ∀ H, dN 1 1 (.int .i64 0) [(0, I6 y)] H = some (.ro false (I3.intsI [y]), H) := fun H => rfl
  have ap := wJ 2 pre [] (IsL.ro false [y]) (by simp only [List.length_cons, List.length_nil]; omega)
  have ih := yZ hv hl suf (pre ++ [y]) f [] (by rw [he]; simp) (by simp only [List.length_cons] at hf; omega)
  have el : (pre ++ [y]).length = pre.length + 1 := by simp
  rw [el] at ih ap
  rw [aR, bQ.l3]
  refine eM ?_
  refine eC hc ?_
  clear hc hv he el hy
  generalize I3.intsI [y] = yl at *
  generalize hI 2 (pre ++ [y]) [] = h1 at *
  generalize hI 2 pre [] = h2 at *
  generalize l.length = ll at *
  have fx := aKI lc <| aKI g1 <| aKI ia <| aKI ld <| aKI br <| aKI ap <| q2
  refine eH ?_
  exact ih
theorem zA {v : AV} {l : List Int} (hv : IsL v l) (hl : l.length ≤ 100000) (hk : l.length < k) :
  dG (bQ.f G (k + 1)) [v] [⟨3, 1, []⟩] = some (.sl 2 l.length 0 l.length 1, hI 2 l []) := by
 have lp := yZ G k (bQ.f G k) hv hl l [] k [] rfl hk
 have lc := hv.len
 have mk_ : fR 3 1 (.int .i64 0) (.int .i64 0) (Nn l.length) [⟨3, 1, []⟩, ⟨3, 1, []⟩] = some (.sl 2 0 0 0 1, hI 2 [] []) := by
  show (if (0 : Int) ≤ 0 ∧ (0 : Int) ≤ (l.length : Int) ∧ (l.length : Int) ≤ 1099511627776 then _ else _) = _
  rw [if_pos (by omega)]
  rfl
 have fin : aAU [.sl 2 l.length 0 l.length 1] (hI 2 l []) = some (.ret, [.sl 2 l.length 0 l.length 1], hI 2 l []) := rfl
 refine kI ?_ (by simp [hI])
 rw [bQ.step]
 unfold bQ.c
 refine fC ?_
 replace lp : cC (bQ.l3 G k (hI 2 [] []).length (bQ.f G k)) k [v, .sl 2 0 0 0 1, .int .i64 0] (hI 2 [] []) = _ := lp
 clear hv
 generalize hI 2 [] [] = h1 at *
 generalize hI 2 l [] = h2 at *
 generalize l.length = ll at *
 have fx := aKI lc <| mk_
 have lx1 := lp
 refine eH ?_
 exact oF fin
theorem aBK {v : AV} {l : List Int} (hv : IsL v l) (n : Int) (hl : l.length ≤ 100000) : ∀ (suf pre : List Int) (f : Nat), l = pre ++ suf → suf.length < f → (∀ x ∈ pre, x < n) →
  ∃ (p s : List Int), l = p ++ s ∧ (∀ x ∈ p, x < n) ∧ (∀ y t, s = y :: t → ¬ y < n) ∧
  cC (bA.l2 G k 1 self) f [v, I6 n, Nn pre.length] [⟨3, 1, []⟩] = some (.exit 0, [v, I6 n, Nn p.length], [⟨3, 1, []⟩])
 | suf, pre, 0, _, h, _ => by omega
 | [], pre, f + 1, he, hf, hp => by
  have e : pre = l := by rw [he]; simp
  subst e
  refine ⟨pre, [], by simp, hp, fun y t q => by (cases q), ?_⟩
  have hc : eF 1 [v, I6 n, Nn pre.length] [⟨3, 1, []⟩] = some [⟨3, 1, []⟩] := by simp [eF, bG, bS, hv.low]; simp [aV]
  have lc := hv.len
  have g1 : bC Tryd.prog .lss 3 false (Nn pre.length) (Nn pre.length) = some (.bool false) := dR (by omega)
  rw [aR, bA.l2]
  refine eM ?_
  refine eC hc ?_
  clear hc hv
  generalize pre.length = pl at *
  have fx := aKI lc <| g1
  refine eH ?_
  refine fK ?_; rfl
 | y :: suf, pre, f + 1, he, hf, hp => by
  have hj : pre.length < l.length := by rw [he]; simp
  have hy : l[pre.length] = y := by simp [he]
  have hc : eF 1 [v, I6 n, Nn pre.length] [⟨3, 1, []⟩] = some [⟨3, 1, []⟩] := by simp [eF, bG, bS, hv.low]; simp [aV]
  have lc := hv.len
  have g1 : bC Tryd.prog .lss 3 false (Nn pre.length) (Nn l.length) = some (.bool true) := dU (by omega)
  have q2 : bC Tryd.prog .add 3 true (Nn pre.length) (.int .i64 1) = some (Nn (pre.length + 1 : Nat)) := gR (by omega)
  obtain ⟨b, ia⟩ := hv.at hj
  rw [hy] at ia
  have ld := yS G b y
  by_cases h : y < n
  ·have g2 : bC Tryd.prog .lss 3 false (I6 y) (I6 n) = some (.bool true) := dU h
   obtain ⟨p, s, a1, a2, a3, ih⟩ := aBK hv n hl suf (pre ++ [y]) f (by rw [he]; simp) (by simp only [List.length_cons] at hf; omega) (fun x hx => by
    rcases List.mem_append.1 hx with hx | hx
    ·exact hp x hx
    ·rw [List.mem_singleton.1 hx]; exact h)
   have el : (pre ++ [y]).length = pre.length + 1 := by simp
   rw [el] at ih
   refine ⟨p, s, a1, a2, a3, ?_⟩
   rw [aR, bA.l2]
   refine eM ?_
   refine eC hc ?_
   clear hc hv he el hy a1 a2 a3 hp
   generalize l.length = ll at *
   have fx := aKI lc <| aKI g1 <| aKI ia <| aKI ld <| aKI g2 <| q2
   refine eH ?_
   exact ih
  ·have g2 : bC Tryd.prog .lss 3 false (I6 y) (I6 n) = some (.bool false) := dR (by omega)
   refine ⟨pre, y :: suf, he, hp, fun z t q => by (cases q; exact h), ?_⟩
   rw [aR, bA.l2]
   refine eM ?_
   refine eC hc ?_
   clear hc hv he hy hp
   generalize l.length = ll at *
   have fx := aKI lc <| aKI g1 <| aKI ia <| aKI ld <| g2
   refine eH ?_
   refine fK ?_; rfl
theorem aFT {v : AV} {l : List Int} (hv : IsL v l) (n : Int) (hl : l.length ≤ 100000) (hk : l.length + 1 < k) :
  bA.f G (k + 1) [v, I6 n] [] = some (.ro false (I3.intsI (fE n l)), []) := by
 obtain ⟨p, s, he, hp, hs, lp⟩ := aBK G k (bA.f G k) hv n hl l [] k rfl (by omega) (fun x hx => by cases hx)
 replace lp : cC (bA.l2 G k ([⟨3, 1, []⟩] : aA).length (bA.f G k)) k [v, I6 n, .int .i64 0] [⟨3, 1, []⟩] = _ := lp
 have hpl : p.length ≤ l.length := by rw [he]; simp
 have lc := hv.len
 have tk : l.take p.length = p := by rw [he]; simp
 have dr : l.drop p.length = s := by rw [he]; simp
 have pI : fE n l = p ++ fE n s := by rw [he]; exact aCF n p s hp
 rw [bA.step]
 unfold bA.c
 refine fC ?_
 have insert : s = [] ∨ (∃ y t, s = y :: t ∧ y ≠ n) → ∀ K : Prop, (∀ (v1 v2 : AV) (h1 h2 h3 : aA), fO 1 v none (some (Nn p.length)) = some v1 → dG (bQ.f G k) [v1] [⟨3, 1, []⟩] = some (.sl 2 p.length 0 p.length 1, h1) →
   eQ 3 1 (.sl 2 p.length 0 p.length 1) (.ro false (I3.intsI [n])) h1 = some (.sl 2 (p.length + 1) 0 (p.length + 1) 1, h2) → fO 1 v (some (Nn p.length)) none = some v2 →
   eQ 3 1 (.sl 2 (p.length + 1) 0 (p.length + 1) 1) v2 h2 = some (.sl 2 (fE n l).length 0 (fE n l).length 1, h3) → cS [.sl 2 (fE n l).length 0 (fE n l).length 1] 0 h3 = some (.ret, [.ro false (I3.intsI (fE n l))], []) → K) → K := fun hc K q => by
  obtain ⟨v1, b1, b2⟩ := hv.lo hpl
  obtain ⟨v2, c1, c2⟩ := hv.hi hpl
  rw [tk] at b2
  rw [dr] at c2
  have i1 := zA G (k - 1) b2 (by omega) (by omega)
  rw [show k - 1 + 1 = k by omega] at i1
  have a1 := wJ 2 p [] (IsL.ro false [n]) (by simp only [List.length_cons, List.length_nil]; omega)
  have a2 := wJ 2 (p ++ [n]) [] c2 (by
   have : s.length ≤ l.length := by rw [he]; simp
   simp only [List.length_append, List.length_cons, List.length_nil]; omega)
  have ep : p ++ [n] ++ s = fE n l := by
   rw [pI]
   rcases hc with rfl | ⟨y, t, rfl, hy⟩
   ·simp [fE]
   ·have := hs y t rfl
    unfold fE
    rw [if_neg this, if_neg hy]
    simp
  have el : (p ++ [n]).length = p.length + 1 := by simp
  rw [el] at a1 a2
  rw [ep] at a2
  exact q v1 v2 _ _ _ b1 i1 a1 c1 a2 (aAX 2 _ [])
 have br : ∀ H, dN 1 1 (.int .i64 0) [(0, I6 n)] H = some (.ro false (I3.intsI [n]), H) := fun H => rfl
 cases hss : s with
 | nil =>
  have g1 : bC Tryd.prog .lss 3 false (Nn p.length) (Nn l.length) = some (.bool false) := dR (by rw [he, hss]; simp)
  refine insert (.inl hss) _ fun v1 v2 h1 h2 h3 b1 i1 a1 c1 a2 fin => ?_
  clear insert hs hp he tk dr pI hv
  generalize I3.intsI [n] = nl at *
  generalize l.length = ll at *
  generalize (fE n l).length = pl at *
  have fx := aKI lc <| aKI g1 <| aKI b1 <| aKI i1 <| aKI br <| aKI a1 <| aKI c1 <| a2
  have lx1 := lp
  refine eH ?_
  exact oF fin
 | cons y t =>
  have hj : p.length < l.length := by rw [he, hss]; simp
  have hy : l[p.length] = y := by simp [he, hss]
  have g1 : bC Tryd.prog .lss 3 false (Nn p.length) (Nn l.length) = some (.bool true) := dU (by omega)
  obtain ⟨b, ia⟩ := hv.at hj
  rw [hy] at ia
  have ld := yS G b y
  by_cases hyn : y = n
  ·have g2 : bC Tryd.prog .eql 3 false (I6 y) (I6 n) = some (.bool true) := gH hyn
   have i1 := zA G (k - 1) hv (by omega) (by omega)
   rw [show k - 1 + 1 = k by omega] at i1
   have fin := aAX 2 l []
   have ep : fE n l = l := by
    rw [pI, hss, hyn]
    unfold fE
    rw [if_neg (by omega), if_pos rfl, he, hss, hyn]
   rw [ep]
   clear insert hs hp he tk dr pI hv hy ep
   generalize hI 2 l [] = h1 at *
   generalize I3.intsI l = il at *
   generalize l.length = ll at *
   have fx := aKI lc <| aKI g1 <| aKI ia <| aKI ld <| aKI g2 <| i1
   have lx1 := lp
   refine eH ?_
   exact oF fin
  ·have g2 : bC Tryd.prog .eql 3 false (I6 y) (I6 n) = some (.bool false) := fU hyn
   refine insert (.inr ⟨y, t, hss, hyn⟩) _ fun v1 v2 h1 h2 h3 b1 i1 a1 c1 a2 fin => ?_
   clear insert hs hp he tk dr pI hv hy
   generalize I3.intsI [n] = nl at *
   generalize l.length = ll at *
   generalize (fE n l).length = pl at *
   have fx := aKI lc <| aKI g1 <| aKI ia <| aKI ld <| aKI g2 <| aKI b1 <| aKI i1 <| aKI br <| aKI a1 <| aKI c1 <| a2
   have lx1 := lp
   refine eH ?_
   exact oF fin
def iK (n : Int) (l : List Int) : List Int := l.filter fun x => decide (x ≠ n)
theorem aBE {v : AV} {l : List Int} (hv : IsL v l) (n : Int) (hl : l.length ≤ 100000) : ∀ (suf pre : List Int) (f : Nat) (X : aA), l = pre ++ suf → suf.length < f →
  cC (cA.l3 G k 2 self) f [v, I6 n, .sl 1 (iK n pre).length 0 (iK n pre).length 1, Nn pre.length] (hI 1 (iK n pre) X) = some (.exit 0, [v, I6 n, .sl 1 (iK n l).length 0 (iK n l).length 1, Nn l.length], hI 1 (iK n l) [])
 | suf, pre, 0, X, _, h => by omega
 | [], pre, f + 1, X, he, hf => by
  have e : pre = l := by rw [he]; simp
  subst e
  have hc := wK 1 (iK n pre) X (xs := [v, I6 n, .sl 1 (iK n pre).length 0 (iK n pre).length 1, Nn pre.length]) (by simp [bG, hv.low]; simp [aV])
  have lc := hv.len
  have g1 : bC Tryd.prog .lss 3 false (Nn pre.length) (Nn pre.length) = some (.bool false) := dR (by omega)
  rw [aR, cA.l3]
  refine eM ?_
  refine eC hc ?_
  clear hc hv
  generalize pre.length = pl at *
  have fx := aKI lc <| g1
  refine eH ?_
  refine fK ?_; rfl
 | y :: suf, pre, f + 1, X, he, hf => by
  have hj : pre.length < l.length := by rw [he]; simp
  have hy : l[pre.length] = y := by simp [he]
  have hc := wK 1 (iK n pre) X (xs := [v, I6 n, .sl 1 (iK n pre).length 0 (iK n pre).length 1, Nn pre.length]) (by simp [bG, hv.low]; simp [aV])
  have lc := hv.len
  have g1 : bC Tryd.prog .lss 3 false (Nn pre.length) (Nn l.length) = some (.bool true) := dU (by omega)
  have q2 : bC Tryd.prog .add 3 true (Nn pre.length) (.int .i64 1) = some (Nn (pre.length + 1 : Nat)) := gR (by omega)
  obtain ⟨b, ia⟩ := hv.at hj
  rw [hy] at ia
  have ld := yS G b y
  have ih := aBE hv n hl suf (pre ++ [y]) f [] (by rw [he]; simp) (by simp only [List.length_cons] at hf; omega)
  have el : (pre ++ [y]).length = pre.length + 1 := by simp
  have ed : iK n (pre ++ [y]) = iK n pre ++ if y ≠ n then [y] else [] := by
   unfold iK
   rw [List.filter_append]
   congr 1
   by_cases h : y = n <;> simp [h]
  have hdl : (iK n pre).length ≤ pre.length := List.length_filter_le _ _
  rw [el, ed] at ih
  rw [aR, cA.l3]
  refine eM ?_
  refine eC hc ?_
  by_cases h : y = n
  ·have g2 : bC Tryd.prog .neq 3 false (I6 y) (I6 n) = some (.bool false) := iD h
   rw [if_neg (not_not_intro h), List.append_nil] at ih
   clear hc hv he el hy ed
   generalize hI 1 (iK n pre) [] = h1 at *
   generalize l.length = ll at *
   generalize (iK n pre).length = dl at *
   have fx := aKI lc <| aKI g1 <| aKI ia <| aKI ld <| aKI g2 <| q2
   refine eH ?_
   exact ih
  ·have g2 : bC Tryd.prog .neq 3 false (I6 y) (I6 n) = some (.bool true) := gW h
   rw [if_pos h] at ih
   have br : ∀ H, dN 1 1 (.int .i64 0) [(0, I6 y)] H = some (.ro false (I3.intsI [y]), H) := fun H => rfl
   have ap := wJ 1 (iK n pre) [] (IsL.ro false [y]) (by simp only [List.length_cons, List.length_nil]; omega)
   clear hc hv he el hy ed
   generalize I3.intsI [y] = yl at *
   generalize hI 1 (iK n pre ++ [y]) [] = h2 at *
   generalize (iK n pre ++ [y]).length = dl2 at *
   generalize hI 1 (iK n pre) [] = h1 at *
   generalize l.length = ll at *
   generalize (iK n pre).length = dl at *
   have fx := aKI lc <| aKI g1 <| aKI ia <| aKI ld <| aKI g2 <| aKI br <| aKI ap <| q2
   refine eH ?_
   exact ih
theorem aFQ {v : AV} {l : List Int} (hv : IsL v l) (n : Int) (hl : l.length ≤ 100000) (hk : l.length < k) :
  cA.f G (k + 1) [v, I6 n] [] = some (.ro false (I3.intsI (iK n l)), []) := by
 have lp := aBE G k (cA.f G k) hv n hl l [] k [] rfl hk
 replace lp : cC (cA.l3 G k ([⟨3, 1, []⟩, ⟨3, 1, []⟩] : aA).length (cA.f G k)) k [v, I6 n, .sl 1 0 0 0 1, .int .i64 0] [⟨3, 1, []⟩, ⟨3, 1, []⟩] = _ := lp
 have fin := aAX 1 (iK n l) []
 rw [cA.step]
 unfold cA.c
 refine fC ?_
 clear hv
 generalize hI 1 (iK n l) [] = h1 at *
 generalize I3.intsI (iK n l) = il at *
 generalize (iK n l).length = dl at *
 generalize l.length = ll at *
 have fx := True.intro
 have lx1 := lp
 refine eH ?_
 exact oF fin
end
theorem IsL.fin {v : AV} {l : List Int} (h : IsL v l) (T : aA) : cS [v] 0 T = some (.ret, [v], []) := gY (h.low 0) T
theorem IsL.clean {v : AV} {l : List Int} (h : IsL v l) (hb : ∀ b, v ≠ .ro true b) : dV v = true := by
 cases h with
 | nil => rfl
 | ro b l => cases b with
  | false => simp [dV, I3.intsI_clean]
  | true => exact absurd rfl (hb _)
inductive IsR : AV → List Int → Prop where
 | nil : IsR .nils []
 | ro (l : List Int) : IsR (.ro false (I3.intsI l)) l
theorem IsR.l {v : AV} {l : List Int} (h : IsR v l) : IsL v l := by
 cases h with
 | nil => exact .nil
 | ro l => exact .ro false l
theorem IsR.clean {v : AV} {l : List Int} (h : IsR v l) : dV v = true := by
 cases h with
 | nil => rfl
 | ro l => simp [dV, I3.intsI_clean]
section
variable (G : aC) (k : Nat)
theorem iE {v : AV} {l : List Int} (hv : IsL v l) (n : Int) (hl : l.length ≤ 100000) (hk : l.length + 2 < k) (H : aA) :
  aJ (bA.f G k) [v, I6 n] H = some (.ro false (I3.intsI (fE n l)), H) := by
 have h := aFT G (k - 1) hv n hl (by omega)
 rw [show k - 1 + 1 = k by omega] at h
 exact aZ (H := H) h (by simp [dK, hv.plain, bP]) (by simp [dV, I3.intsI_clean])
variable (w : WI)
theorem nI : aY.f G (k + 2) [w.v] [] = some (.tup [I6 (if (dD w.op).d = true then w.d else 0), .bool (dD w.op).d], []) := by
 have r0 : ∀ H, aJ (bT.f G (k + 1)) [I6 w.op] H = _ := fun H => aZ (H := H) (xP G k w.op) rfl rfl
 have b0 := aIo w
 have f0 := gi0 w
 have f1 := gi1 w
 have l0 := aEZ G w
 have l1 := aIP G w
 have bx : gD 104 (.agg [.bool false, .bool false, .bool false, .bool false, .int .i64 0]) [] = some (.ptr 0 1 0 0, [⟨104, 5, [.agg [.bool false, .bool false, .bool false, .bool false, .int .i64 0]]⟩]) := rfl
 have st : hX (cH 5 (.ptr 0 1 0 0) (tS (dD w.op) (gZ w.op)) [⟨104, 5, [.agg [.bool false, .bool false, .bool false, .bool false, .int .i64 0]]⟩]) = some (.tup [], [⟨104, 5, [tS (dD w.op) (gZ w.op)]⟩]) := rfl
 have k0 : aF 0 (.ptr 0 1 0 0) = some (.ptr 0 1 0 0) := rfl
 have h0 : aH G false 1 (.ptr 0 1 0 0) [⟨104, 5, [tS (dD w.op) (gZ w.op)]⟩] = some (.bool (dD w.op).d) := rfl
 rw [aY.step]
 unfold aY.c
 refine fC ?_
 generalize tS (dD w.op) (gZ w.op) = HV at *
 cases hd : (dD w.op).d with
 | false =>
  rw [hd] at h0
  generalize w.v = wv at *
  generalize [(⟨104, 5, [HV]⟩ : ABlk)] = h1 at *
  have fx := aKI r0 <| aKI b0 <| aKI f0 <| aKI f1 <| aKI l0 <| aKI l1 <| aKI bx <| aKI st <| aKI k0 <| h0
  refine eH ?_
  exact w2 rfl rfl rfl
 | true =>
  rw [hd] at h0
  generalize w.v = wv at *
  generalize [(⟨104, 5, [HV]⟩ : ABlk)] = h1 at *
  have fx := aKI r0 <| aKI b0 <| aKI f0 <| aKI f1 <| aKI l0 <| aKI l1 <| aKI bx <| aKI st <| aKI k0 <| h0
  refine eH ?_
  exact w2 rfl rfl rfl
def rdP : List Int :=
 let l0 := if (dD w.op).a = true then fE w.a [] else []
 let l1 := if (dD w.op).b = true then fE w.b l0 else l0
 if (dD w.op).c = true then fE w.c l1 else l1
theorem aES (x : Int) : x ∈ rdP w ↔ x ∈ rdF w := by
 unfold rdP rdF
 cases (dD w.op).a <;> cases (dD w.op).b <;> cases (dD w.op).c <;> simp only [if_true, if_false, Bool.false_eq_true, oU, List.mem_append, List.mem_singleton, List.not_mem_nil, or_false, false_or] <;> (constructor <;> (intro h; simp only [or_comm, or_left_comm] at h ⊢; exact h))
theorem aJs : (rdP w).Pairwise (· < ·) := by
 unfold rdP
 cases (dD w.op).a <;> cases (dD w.op).b <;> cases (dD w.op).c <;> simp only [if_true, if_false, Bool.false_eq_true] <;> (first | exact .nil | (repeat (first | exact pL _ .nil | refine pL _ ?_)))
theorem aER : (rdP w).length ≤ 3 := by
 unfold rdP
 have h1 := gS w.a []
 have h2 := fun l => gS w.b l
 have h3 := fun l => gS w.c l
 have g1 := h2 []
 have g2 := h2 (fE w.a [])
 have g3 := h3 []
 have g4 := h3 (fE w.a [])
 have g5 := h3 (fE w.b [])
 have g6 := h3 (fE w.b (fE w.a []))
 simp only [List.length_nil] at *
 cases (dD w.op).a <;> cases (dD w.op).b <;> cases (dD w.op).c <;> simp only [if_true, if_false, Bool.false_eq_true, List.length_nil] <;> omega
theorem uE : ∃ v, aS.f G (k + 20) [w.v] [] = some (v, []) ∧ IsR v (rdP w) := by
 have r0 : ∀ H, aJ (bT.f G (k + 19)) [I6 w.op] H = _ := fun H => aZ (H := H) (xP G (k + 18) w.op) rfl rfl
 have b0 := aIo w
 have f0 := gi0 w
 have f2 := gi2 w
 have f3 := gi3 w
 have f4 := gi4 w
 have l0 := aEZ G w
 have l2 := aIQ G w
 have l3 : ∀ H, aH G false 1 (.rp false w.v 3) H = some (I6 w.b) := fun H => rfl
 have l4 : ∀ H, aH G false 1 (.rp false w.v 4) H = some (I6 w.c) := fun H => rfl
 have bx : gD 104 (.agg [.bool false, .bool false, .bool false, .bool false, .int .i64 0]) [] = some (.ptr 0 1 0 0, [⟨104, 5, [.agg [.bool false, .bool false, .bool false, .bool false, .int .i64 0]]⟩]) := rfl
 have st : hX (cH 5 (.ptr 0 1 0 0) (tS (dD w.op) (gZ w.op)) [⟨104, 5, [.agg [.bool false, .bool false, .bool false, .bool false, .int .i64 0]]⟩]) = some (.tup [], [⟨104, 5, [tS (dD w.op) (gZ w.op)]⟩]) := rfl
 have k1 : aF 1 (.ptr 0 1 0 0) = some (.ptr 0 1 0 1) := rfl
 have k2 : aF 2 (.ptr 0 1 0 0) = some (.ptr 0 1 0 2) := rfl
 have k3 : aF 3 (.ptr 0 1 0 0) = some (.ptr 0 1 0 3) := rfl
 have h1 : aH G false 1 (.ptr 0 1 0 1) [⟨104, 5, [tS (dD w.op) (gZ w.op)]⟩] = some (.bool (dD w.op).a) := rfl
 have h2 : aH G false 1 (.ptr 0 1 0 2) [⟨104, 5, [tS (dD w.op) (gZ w.op)]⟩] = some (.bool (dD w.op).b) := rfl
 have h3 : aH G false 1 (.ptr 0 1 0 3) [⟨104, 5, [tS (dD w.op) (gZ w.op)]⟩] = some (.bool (dD w.op).c) := rfl
 have n1 := gS w.a []
 have n2 := gS w.b []
 have n3 := gS w.b (fE w.a [])
 simp only [List.length_nil] at n1 n2
 have pa := fun H => iE G (k + 19) IsL.nil w.a (by simp) (by simp) H
 have pb := fun H => iE G (k + 19) IsL.nil w.b (by simp) (by simp) H
 have pc := fun H => iE G (k + 19) IsL.nil w.c (by simp) (by simp) H
 have pab := fun H => iE G (k + 19) (IsL.ro false (fE w.a [])) w.b (by omega) (by omega) H
 have pac := fun H => iE G (k + 19) (IsL.ro false (fE w.a [])) w.c (by omega) (by omega) H
 have pbc := fun H => iE G (k + 19) (IsL.ro false (fE w.b [])) w.c (by omega) (by omega) H
 have pabc := fun H => iE G (k + 19) (IsL.ro false (fE w.b (fE w.a []))) w.c (by omega) (by omega) H
 have e : ∀ l : List Int, ∀ T, cS [.ro false (I3.intsI l)] 0 T = some (.ret, [.ro false (I3.intsI l)], []) := fun l T => (IsL.ro false l).fin T
 have e0 : ∀ T, cS [.nils] 0 T = some (.ret, [.nils], []) := fun T => IsL.nil.fin T
 unfold rdP
 cases ha : (dD w.op).a with
 | false =>
  cases hb : (dD w.op).b with
  | false =>
   cases hc : (dD w.op).c with
   | false =>
    refine ⟨.nils, ?_, IsR.nil⟩
    rw [aS.step]
    unfold aS.c
    refine fC ?_
    rw [ha] at h1
    rw [hb] at h2
    rw [hc] at h3
    generalize tS (dD w.op) (gZ w.op) = HV at *
    generalize [(⟨104, 5, [HV]⟩ : ABlk)] = hh at *
    generalize w.v = wv at *
    have fx := aKI r0 <| aKI b0 <| aKI f0 <| aKI f2 <| aKI f3 <| aKI f4 <| aKI l0 <| aKI l2 <| aKI l3 <| aKI l4 <| aKI bx <| aKI st <| aKI k1 <| aKI k2 <| aKI k3 <| aKI h1 <| aKI h2 <| aKI h3 <| aKI pa <| aKI pb <| aKI pc <| aKI pab <| aKI pac <| aKI pbc <| pabc
    refine eH ?_
    exact oF (e0 _)
   | true =>
    refine ⟨.ro false (I3.intsI (fE w.c [])), ?_, IsR.ro _⟩
    rw [aS.step]
    unfold aS.c
    refine fC ?_
    rw [ha] at h1
    rw [hb] at h2
    rw [hc] at h3
    generalize tS (dD w.op) (gZ w.op) = HV at *
    generalize [(⟨104, 5, [HV]⟩ : ABlk)] = hh at *
    generalize w.v = wv at *
    have fx := aKI r0 <| aKI b0 <| aKI f0 <| aKI f2 <| aKI f3 <| aKI f4 <| aKI l0 <| aKI l2 <| aKI l3 <| aKI l4 <| aKI bx <| aKI st <| aKI k1 <| aKI k2 <| aKI k3 <| aKI h1 <| aKI h2 <| aKI h3 <| aKI pa <| aKI pb <| aKI pc <| aKI pab <| aKI pac <| aKI pbc <| pabc
    refine eH ?_
    exact oF (e _ _)
  | true =>
   cases hc : (dD w.op).c with
   | false =>
    refine ⟨.ro false (I3.intsI (fE w.b [])), ?_, IsR.ro _⟩
    rw [aS.step]
    unfold aS.c
    refine fC ?_
    rw [ha] at h1
    rw [hb] at h2
    rw [hc] at h3
    generalize tS (dD w.op) (gZ w.op) = HV at *
    generalize [(⟨104, 5, [HV]⟩ : ABlk)] = hh at *
    generalize w.v = wv at *
    have fx := aKI r0 <| aKI b0 <| aKI f0 <| aKI f2 <| aKI f3 <| aKI f4 <| aKI l0 <| aKI l2 <| aKI l3 <| aKI l4 <| aKI bx <| aKI st <| aKI k1 <| aKI k2 <| aKI k3 <| aKI h1 <| aKI h2 <| aKI h3 <| aKI pa <| aKI pb <| aKI pc <| aKI pab <| aKI pac <| aKI pbc <| pabc
    refine eH ?_
    exact oF (e _ _)
   | true =>
    refine ⟨.ro false (I3.intsI (fE w.c (fE w.b []))), ?_, IsR.ro _⟩
    rw [aS.step]
    unfold aS.c
    refine fC ?_
    rw [ha] at h1
    rw [hb] at h2
    rw [hc] at h3
    generalize tS (dD w.op) (gZ w.op) = HV at *
    generalize [(⟨104, 5, [HV]⟩ : ABlk)] = hh at *
    generalize w.v = wv at *
    have fx := aKI r0 <| aKI b0 <| aKI f0 <| aKI f2 <| aKI f3 <| aKI f4 <| aKI l0 <| aKI l2 <| aKI l3 <| aKI l4 <| aKI bx <| aKI st <| aKI k1 <| aKI k2 <| aKI k3 <| aKI h1 <| aKI h2 <| aKI h3 <| aKI pa <| aKI pb <| aKI pc <| aKI pab <| aKI pac <| aKI pbc <| pabc
    refine eH ?_
    exact oF (e _ _)
 | true =>
  cases hb : (dD w.op).b with
  | false =>
   cases hc : (dD w.op).c with
   | false =>
    refine ⟨.ro false (I3.intsI (fE w.a [])), ?_, IsR.ro _⟩
    rw [aS.step]
    unfold aS.c
    refine fC ?_
    rw [ha] at h1
    rw [hb] at h2
    rw [hc] at h3
    generalize tS (dD w.op) (gZ w.op) = HV at *
    generalize [(⟨104, 5, [HV]⟩ : ABlk)] = hh at *
    generalize w.v = wv at *
    have fx := aKI r0 <| aKI b0 <| aKI f0 <| aKI f2 <| aKI f3 <| aKI f4 <| aKI l0 <| aKI l2 <| aKI l3 <| aKI l4 <| aKI bx <| aKI st <| aKI k1 <| aKI k2 <| aKI k3 <| aKI h1 <| aKI h2 <| aKI h3 <| aKI pa <| aKI pb <| aKI pc <| aKI pab <| aKI pac <| aKI pbc <| pabc
    refine eH ?_
    exact oF (e _ _)
   | true =>
    refine ⟨.ro false (I3.intsI (fE w.c (fE w.a []))), ?_, IsR.ro _⟩
    rw [aS.step]
    unfold aS.c
    refine fC ?_
    rw [ha] at h1
    rw [hb] at h2
    rw [hc] at h3
    generalize tS (dD w.op) (gZ w.op) = HV at *
    generalize [(⟨104, 5, [HV]⟩ : ABlk)] = hh at *
    generalize w.v = wv at *
    have fx := aKI r0 <| aKI b0 <| aKI f0 <| aKI f2 <| aKI f3 <| aKI f4 <| aKI l0 <| aKI l2 <| aKI l3 <| aKI l4 <| aKI bx <| aKI st <| aKI k1 <| aKI k2 <| aKI k3 <| aKI h1 <| aKI h2 <| aKI h3 <| aKI pa <| aKI pb <| aKI pc <| aKI pab <| aKI pac <| aKI pbc <| pabc
    refine eH ?_
    exact oF (e _ _)
  | true =>
   cases hc : (dD w.op).c with
   | false =>
    refine ⟨.ro false (I3.intsI (fE w.b (fE w.a []))), ?_, IsR.ro _⟩
    rw [aS.step]
    unfold aS.c
    refine fC ?_
    rw [ha] at h1
    rw [hb] at h2
    rw [hc] at h3
    generalize tS (dD w.op) (gZ w.op) = HV at *
    generalize [(⟨104, 5, [HV]⟩ : ABlk)] = hh at *
    generalize w.v = wv at *
    have fx := aKI r0 <| aKI b0 <| aKI f0 <| aKI f2 <| aKI f3 <| aKI f4 <| aKI l0 <| aKI l2 <| aKI l3 <| aKI l4 <| aKI bx <| aKI st <| aKI k1 <| aKI k2 <| aKI k3 <| aKI h1 <| aKI h2 <| aKI h3 <| aKI pa <| aKI pb <| aKI pc <| aKI pab <| aKI pac <| aKI pbc <| pabc
    refine eH ?_
    exact oF (e _ _)
   | true =>
    refine ⟨.ro false (I3.intsI (fE w.c (fE w.b (fE w.a [])))), ?_, IsR.ro _⟩
    rw [aS.step]
    unfold aS.c
    refine fC ?_
    rw [ha] at h1
    rw [hb] at h2
    rw [hc] at h3
    generalize tS (dD w.op) (gZ w.op) = HV at *
    generalize [(⟨104, 5, [HV]⟩ : ABlk)] = hh at *
    generalize w.v = wv at *
    have fx := aKI r0 <| aKI b0 <| aKI f0 <| aKI f2 <| aKI f3 <| aKI f4 <| aKI l0 <| aKI l2 <| aKI l3 <| aKI l4 <| aKI bx <| aKI st <| aKI k1 <| aKI k2 <| aKI k3 <| aKI h1 <| aKI h2 <| aKI h3 <| aKI pa <| aKI pb <| aKI pc <| aKI pab <| aKI pac <| aKI pbc <| pabc
    refine eH ?_
    exact oF (e _ _)
end
def fS (n : Nat) (w : WI) (a : Int) : Prop := w.op ≠ 17 ∧ w.op ≠ 20 ∧ a + 1 < n
def fT (n : Nat) (w : WI) : Prop := (w.op = 17 ∨ w.op = 18 ∨ w.op = 19) ∧ 0 ≤ w.k ∧ w.k < n
instance (n : Nat) (w : WI) (a : Int) : Decidable (fS n w a) := by unfold fS; infer_instance
instance (n : Nat) (w : WI) : Decidable (fT n w) := by unfold fT; infer_instance
def nxP (n : Nat) (w : WI) (a : Int) : List Int :=
 let l0 := if fS n w a then fE (a + 1) [] else []
 if fT n w then fE w.k l0 else l0
theorem aJp (n : Nat) (w : WI) (a : Int) : (nxP n w a).Pairwise (· < ·) := by
 unfold nxP
 by_cases h1 : fS n w a <;> by_cases h2 : fT n w <;> simp only [h1, h2, if_true, if_false] <;> (first | exact .nil | (repeat (first | exact pL _ .nil | refine pL _ ?_)))
theorem vA (n : Nat) (w : WI) (a : Int) : (nxP n w a).length ≤ 2 := by
 unfold nxP
 have h1 := gS (a + 1) []
 have h2 := gS w.k []
 have h3 := gS w.k (fE (a + 1) [])
 simp only [List.length_nil] at *
 by_cases e1 : fS n w a <;> by_cases e2 : fT n w <;> simp only [e1, e2, if_true, if_false, List.length_nil] <;> omega
theorem pK {n : Nat} {w : WI} {a x : Int} (ha : 0 ≤ a) : x ∈ nxP n w a ↔ x ∈ sW n w a := by
 have e : x ∈ nxP n w a ↔ (fS n w a ∧ x = a + 1) ∨ (fT n w ∧ x = w.k) := by
  unfold nxP
  by_cases e1 : fS n w a <;> by_cases e2 : fT n w <;> simp only [e1, e2, if_true, if_false, oU, List.not_mem_nil, or_false, false_or, true_and, false_and]
  exact or_comm
 rw [e]
 unfold sW nL fS fT
 by_cases h20 : w.op = 20
 ·rw [if_pos h20]
  simp only [List.filter_nil, List.not_mem_nil, iff_false]
  omega
 rw [if_neg h20]
 by_cases h17 : w.op = 17
 ·rw [if_pos h17]
  simp only [List.mem_filter, List.mem_singleton, Bool.and_eq_true, decide_eq_true_eq]
  constructor
  ·rintro (h | h) <;> omega
  ·rintro ⟨rfl, h⟩; exact .inr (by omega)
 rw [if_neg h17]
 by_cases h18 : w.op = 18 ∨ w.op = 19
 ·rw [if_pos h18]
  simp only [List.mem_filter, List.mem_cons, List.not_mem_nil, or_false, Bool.and_eq_true, decide_eq_true_eq]
  constructor
  ·rintro (⟨h, rfl⟩ | ⟨h, rfl⟩)
   ·exact ⟨.inl rfl, by omega⟩
   ·exact ⟨.inr rfl, by omega⟩
  ·rintro ⟨rfl | rfl, h⟩
   ·exact .inl ⟨by omega, rfl⟩
   ·exact .inr ⟨by omega, rfl⟩
 ·rw [if_neg h18]
  simp only [List.mem_filter, List.mem_singleton, Bool.and_eq_true, decide_eq_true_eq]
  constructor
  ·rintro (h | h)
   ·exact ⟨h.2, by omega⟩
   ·omega
  ·rintro ⟨rfl, h⟩; exact .inl (by omega)
theorem xK (G : aC) (k : Nat) (b : Bool) (ws : List WI) (R M a : Int) (hn : ws.length ≤ 100000) (ha1 : -9223372036854775808 ≤ a) (ha2 : a < 9223372036854775808) :
  ∃ v, aK.f G (k + 20) [cV b ws R M, I6 a] [] = some (v, []) ∧ IsR v (if 0 ≤ a ∧ a < ws.length then nxP ws.length (ws.getD a.toNat default) a else []) := by
 have b0 : ∀ H, eE (cV b ws R M) H = some (.rp false (cV b ws R M) 0, H) := fun H => rfl
 have f0 : aF 0 (.rp false (cV b ws R M) 0) = some (.rp false (cV b ws R M) 0) := rfl
 have l0 : ∀ H, aH G false 1 (.rp false (cV b ws R M) 0) H = some (.ro b (cJ ws)) := fun H => rfl
 have ln : cB (.ro b (cJ ws)) = some (Nn ws.length) := by simp [cB, fY]
 have e : ∀ l : List Int, ∀ T, cS [.ro false (I3.intsI l)] 0 T = some (.ret, [.ro false (I3.intsI l)], []) := fun l T => (IsL.ro false l).fin T
 have e0 : ∀ T, cS [.nils] 0 T = some (.ret, [.nils], []) := fun T => IsL.nil.fin T
 by_cases h0 : a < 0
 ·rw [if_neg (by omega)]
  refine ⟨.nils, ?_, .nil⟩
  have g1 : bC Tryd.prog .lss 3 true (I6 a) (.int .i64 0) = some (.bool true) := dU h0
  rw [aK.step]
  unfold aK.c
  refine fC ?_
  generalize cV b ws R M = C at *
  have fx := aKI b0 <| g1
  refine eH ?_
  exact oF (e0 _)
 have g1 : bC Tryd.prog .lss 3 true (I6 a) (.int .i64 0) = some (.bool false) := dR (by omega)
 by_cases h1 : (ws.length : Int) ≤ a
 ·rw [if_neg (by omega)]
  refine ⟨.nils, ?_, .nil⟩
  have g2 : bC Tryd.prog .geq 3 false (I6 a) (Nn ws.length) = some (.bool true) := by rw [iI, decide_eq_true (by omega)]
  rw [aK.step]
  unfold aK.c
  refine fC ?_
  generalize cV b ws R M = C at *
  generalize cJ ws = WS at *
  have fx := aKI b0 <| aKI g1 <| aKI f0 <| aKI l0 <| aKI ln <| g2
  refine eH ?_
  exact oF (e0 _)
 have g2 : bC Tryd.prog .geq 3 false (I6 a) (Nn ws.length) = some (.bool false) := jI (by omega)
 rw [if_pos (by omega)]
 obtain ⟨i, rfl⟩ : ∃ i : Nat, a = i := ⟨a.toNat, by omega⟩
 rw [Int.toNat_natCast]
 have ia := rG b ws i (by omega)
 obtain ⟨w, hw⟩ : ∃ w, w = ws.getD i default := ⟨_, rfl⟩
 rw [← hw] at ia ⊢
 have li := fun H => wS G b w H
 have bx : gD 29 (.agg [.int .i64 0, .int .i64 0, .int .i64 0, .int .i64 0, .int .i64 0, .int .i64 0]) [] = some (.ptr 0 1 0 0, [⟨29, 6, [WI.v ⟨0, 0, 0, 0, 0, 0⟩]⟩]) := rfl
 have st : hX (cH 6 (.ptr 0 1 0 0) w.v [⟨29, 6, [WI.v ⟨0, 0, 0, 0, 0, 0⟩]⟩]) = some (.tup [], [⟨29, 6, [w.v]⟩]) := rfl
 have k0 : aF 0 (.ptr 0 1 0 0) = some (.ptr 0 1 0 0) := rfl
 have k5 : aF 5 (.ptr 0 1 0 0) = some (.ptr 0 1 0 5) := rfl
 have lo : aH G false 1 (.ptr 0 1 0 0) [⟨29, 6, [w.v]⟩] = some (I6 w.op) := rfl
 have lk : aH G false 1 (.ptr 0 1 0 5) [⟨29, 6, [w.v]⟩] = some (I6 w.k) := rfl
 have q2 : bC Tryd.prog .add 3 true (Nn i) (.int .i64 1) = some (I6 ((i : Int) + 1)) := by rw [jE, eG (by omega) (by omega)]
 have n1 := gS ((i : Int) + 1) []
 simp only [List.length_nil] at n1
 have p1 := fun H => iE G (k + 19) IsL.nil ((i : Int) + 1) (by simp) (by simp) H
 have p2 := fun H => iE G (k + 19) IsL.nil w.k (by simp) (by simp) H
 have p12 := fun H => iE G (k + 19) (IsL.ro false (fE ((i : Int) + 1) [])) w.k (by omega) (by omega) H
 clear hw
 unfold nxP
 obtain ⟨op, hop⟩ : ∃ op, op = w.op := ⟨_, rfl⟩
 rw [← hop] at lo
 obtain ⟨kk, hkk⟩ : ∃ kk, kk = w.k := ⟨_, rfl⟩
 rw [← hkk] at lk p2 p12
 by_cases o17 : op = 17
 ·have hc : op = 17 := by omega
  have m17 : bC Tryd.prog .eql 3 true (I6 op) (.int .i64 17) = some (.bool true) := gH (by omega)
  have m18 : bC Tryd.prog .eql 3 true (I6 op) (.int .i64 18) = some (.bool false) := fU (by omega)
  have m19 : bC Tryd.prog .eql 3 true (I6 op) (.int .i64 19) = some (.bool false) := fU (by omega)
  have u17 : bC Tryd.prog .neq 3 true (I6 op) (.int .i64 17) = some (.bool false) := iD (by omega)
  have u20 : bC Tryd.prog .neq 3 true (I6 op) (.int .i64 20) = some (.bool true) := gW (by omega)
  by_cases hk0 : kk < 0
  ·have gk : bC Tryd.prog .geq 2 true (I6 kk) (.int .i64 0) = some (.bool false) := jI hk0
   rw [if_neg (show ¬ fS ws.length w i by unfold fS; omega), if_neg (show ¬ fT ws.length w by unfold fT; omega)]
   refine ⟨.nils, ?_, IsR.nil⟩
   rw [aK.step]
   unfold aK.c
   refine fC ?_
   clear hkk hop hc
   generalize cV b ws R M = C at *
   generalize cJ ws = WS at *
   generalize [(⟨29, 6, [w.v]⟩ : ABlk)] = hh at *
   generalize w.v = wv at *
   have fx := aKI b0 <| aKI g1 <| aKI f0 <| aKI l0 <| aKI ln <| aKI g2 <| aKI ia <| aKI li <| aKI bx <| aKI st <| aKI k0 <| aKI k5 <| aKI lo <| aKI lk <| aKI q2 <| aKI p1 <| aKI p2 <| aKI p12 <| aKI m17 <| aKI m18 <| aKI m19 <| aKI u17 <| aKI u20 <| gk
   refine eH ?_
   exact oF (e0 _)
  have gk : bC Tryd.prog .geq 2 true (I6 kk) (.int .i64 0) = some (.bool true) := by rw [iI, decide_eq_true (by omega)]
  by_cases hk1 : kk < ws.length
  ·have gl : bC Tryd.prog .lss 2 false (I6 kk) (Nn ws.length) = some (.bool true) := dU hk1
   rw [if_neg (show ¬ fS ws.length w i by unfold fS; omega), if_pos (show fT ws.length w by unfold fT; omega)]
   rw [← hkk]
   refine ⟨.ro false (I3.intsI (fE kk [])), ?_, IsR.ro _⟩
   rw [aK.step]
   unfold aK.c
   refine fC ?_
   clear hkk hop hc
   generalize cV b ws R M = C at *
   generalize cJ ws = WS at *
   generalize [(⟨29, 6, [w.v]⟩ : ABlk)] = hh at *
   generalize w.v = wv at *
   have fx := aKI b0 <| aKI g1 <| aKI f0 <| aKI l0 <| aKI ln <| aKI g2 <| aKI ia <| aKI li <| aKI bx <| aKI st <| aKI k0 <| aKI k5 <| aKI lo <| aKI lk <| aKI q2 <| aKI p1 <| aKI p2 <| aKI p12 <| aKI m17 <| aKI m18 <| aKI m19 <| aKI u17 <| aKI u20 <| aKI gk <| gl
   refine eH ?_
   exact oF (e _ _)
  ·have gl : bC Tryd.prog .lss 2 false (I6 kk) (Nn ws.length) = some (.bool false) := dR (by omega)
   rw [if_neg (show ¬ fS ws.length w i by unfold fS; omega), if_neg (show ¬ fT ws.length w by unfold fT; omega)]
   refine ⟨.nils, ?_, IsR.nil⟩
   rw [aK.step]
   unfold aK.c
   refine fC ?_
   clear hkk hop hc
   generalize cV b ws R M = C at *
   generalize cJ ws = WS at *
   generalize [(⟨29, 6, [w.v]⟩ : ABlk)] = hh at *
   generalize w.v = wv at *
   have fx := aKI b0 <| aKI g1 <| aKI f0 <| aKI l0 <| aKI ln <| aKI g2 <| aKI ia <| aKI li <| aKI bx <| aKI st <| aKI k0 <| aKI k5 <| aKI lo <| aKI lk <| aKI q2 <| aKI p1 <| aKI p2 <| aKI p12 <| aKI m17 <| aKI m18 <| aKI m19 <| aKI u17 <| aKI u20 <| aKI gk <| gl
   refine eH ?_
   exact oF (e0 _)
 by_cases o18 : op = 18
 ·have hc : op = 18 := by omega
  have m17 : bC Tryd.prog .eql 3 true (I6 op) (.int .i64 17) = some (.bool false) := fU (by omega)
  have m18 : bC Tryd.prog .eql 3 true (I6 op) (.int .i64 18) = some (.bool true) := gH (by omega)
  have m19 : bC Tryd.prog .eql 3 true (I6 op) (.int .i64 19) = some (.bool false) := fU (by omega)
  have u17 : bC Tryd.prog .neq 3 true (I6 op) (.int .i64 17) = some (.bool true) := gW (by omega)
  have u20 : bC Tryd.prog .neq 3 true (I6 op) (.int .i64 20) = some (.bool true) := gW (by omega)
  by_cases hg : (i : Int) + 1 < ws.length
  ·have ga : bC Tryd.prog .lss 3 false (I6 ((i : Int) + 1)) (Nn ws.length) = some (.bool true) := dU hg
   by_cases hk0 : kk < 0
   ·have gk : bC Tryd.prog .geq 2 true (I6 kk) (.int .i64 0) = some (.bool false) := jI hk0
    rw [if_pos (show fS ws.length w i by unfold fS; omega), if_neg (show ¬ fT ws.length w by unfold fT; omega)]
    refine ⟨.ro false (I3.intsI (fE ((i : Int) + 1) [])), ?_, IsR.ro _⟩
    rw [aK.step]
    unfold aK.c
    refine fC ?_
    clear hkk hop hc
    generalize cV b ws R M = C at *
    generalize cJ ws = WS at *
    generalize [(⟨29, 6, [w.v]⟩ : ABlk)] = hh at *
    generalize w.v = wv at *
    have fx := aKI b0 <| aKI g1 <| aKI f0 <| aKI l0 <| aKI ln <| aKI g2 <| aKI ia <| aKI li <| aKI bx <| aKI st <| aKI k0 <| aKI k5 <| aKI lo <| aKI lk <| aKI q2 <| aKI p1 <| aKI p2 <| aKI p12 <| aKI m17 <| aKI m18 <| aKI m19 <| aKI u17 <| aKI u20 <| aKI ga <| gk
    refine eH ?_
    exact oF (e _ _)
   have gk : bC Tryd.prog .geq 2 true (I6 kk) (.int .i64 0) = some (.bool true) := by rw [iI, decide_eq_true (by omega)]
   by_cases hk1 : kk < ws.length
   ·have gl : bC Tryd.prog .lss 2 false (I6 kk) (Nn ws.length) = some (.bool true) := dU hk1
    rw [if_pos (show fS ws.length w i by unfold fS; omega), if_pos (show fT ws.length w by unfold fT; omega)]
    rw [← hkk]
    refine ⟨.ro false (I3.intsI (fE kk (fE ((i : Int) + 1) []))), ?_, IsR.ro _⟩
    rw [aK.step]
    unfold aK.c
    refine fC ?_
    clear hkk hop hc
    generalize cV b ws R M = C at *
    generalize cJ ws = WS at *
    generalize [(⟨29, 6, [w.v]⟩ : ABlk)] = hh at *
    generalize w.v = wv at *
    have fx := aKI b0 <| aKI g1 <| aKI f0 <| aKI l0 <| aKI ln <| aKI g2 <| aKI ia <| aKI li <| aKI bx <| aKI st <| aKI k0 <| aKI k5 <| aKI lo <| aKI lk <| aKI q2 <| aKI p1 <| aKI p2 <| aKI p12 <| aKI m17 <| aKI m18 <| aKI m19 <| aKI u17 <| aKI u20 <| aKI ga <| aKI gk <| gl
    refine eH ?_
    exact oF (e _ _)
   ·have gl : bC Tryd.prog .lss 2 false (I6 kk) (Nn ws.length) = some (.bool false) := dR (by omega)
    rw [if_pos (show fS ws.length w i by unfold fS; omega), if_neg (show ¬ fT ws.length w by unfold fT; omega)]
    refine ⟨.ro false (I3.intsI (fE ((i : Int) + 1) [])), ?_, IsR.ro _⟩
    rw [aK.step]
    unfold aK.c
    refine fC ?_
    clear hkk hop hc
    generalize cV b ws R M = C at *
    generalize cJ ws = WS at *
    generalize [(⟨29, 6, [w.v]⟩ : ABlk)] = hh at *
    generalize w.v = wv at *
    have fx := aKI b0 <| aKI g1 <| aKI f0 <| aKI l0 <| aKI ln <| aKI g2 <| aKI ia <| aKI li <| aKI bx <| aKI st <| aKI k0 <| aKI k5 <| aKI lo <| aKI lk <| aKI q2 <| aKI p1 <| aKI p2 <| aKI p12 <| aKI m17 <| aKI m18 <| aKI m19 <| aKI u17 <| aKI u20 <| aKI ga <| aKI gk <| gl
    refine eH ?_
    exact oF (e _ _)
  ·have ga : bC Tryd.prog .lss 3 false (I6 ((i : Int) + 1)) (Nn ws.length) = some (.bool false) := dR (by omega)
   by_cases hk0 : kk < 0
   ·have gk : bC Tryd.prog .geq 2 true (I6 kk) (.int .i64 0) = some (.bool false) := jI hk0
    rw [if_neg (show ¬ fS ws.length w i by unfold fS; omega), if_neg (show ¬ fT ws.length w by unfold fT; omega)]
    refine ⟨.nils, ?_, IsR.nil⟩
    rw [aK.step]
    unfold aK.c
    refine fC ?_
    clear hkk hop hc
    generalize cV b ws R M = C at *
    generalize cJ ws = WS at *
    generalize [(⟨29, 6, [w.v]⟩ : ABlk)] = hh at *
    generalize w.v = wv at *
    have fx := aKI b0 <| aKI g1 <| aKI f0 <| aKI l0 <| aKI ln <| aKI g2 <| aKI ia <| aKI li <| aKI bx <| aKI st <| aKI k0 <| aKI k5 <| aKI lo <| aKI lk <| aKI q2 <| aKI p1 <| aKI p2 <| aKI p12 <| aKI m17 <| aKI m18 <| aKI m19 <| aKI u17 <| aKI u20 <| aKI ga <| gk
    refine eH ?_
    exact oF (e0 _)
   have gk : bC Tryd.prog .geq 2 true (I6 kk) (.int .i64 0) = some (.bool true) := by rw [iI, decide_eq_true (by omega)]
   by_cases hk1 : kk < ws.length
   ·have gl : bC Tryd.prog .lss 2 false (I6 kk) (Nn ws.length) = some (.bool true) := dU hk1
    rw [if_neg (show ¬ fS ws.length w i by unfold fS; omega), if_pos (show fT ws.length w by unfold fT; omega)]
    rw [← hkk]
    refine ⟨.ro false (I3.intsI (fE kk [])), ?_, IsR.ro _⟩
    rw [aK.step]
    unfold aK.c
    refine fC ?_
    clear hkk hop hc
    generalize cV b ws R M = C at *
    generalize cJ ws = WS at *
    generalize [(⟨29, 6, [w.v]⟩ : ABlk)] = hh at *
    generalize w.v = wv at *
    have fx := aKI b0 <| aKI g1 <| aKI f0 <| aKI l0 <| aKI ln <| aKI g2 <| aKI ia <| aKI li <| aKI bx <| aKI st <| aKI k0 <| aKI k5 <| aKI lo <| aKI lk <| aKI q2 <| aKI p1 <| aKI p2 <| aKI p12 <| aKI m17 <| aKI m18 <| aKI m19 <| aKI u17 <| aKI u20 <| aKI ga <| aKI gk <| gl
    refine eH ?_
    exact oF (e _ _)
   ·have gl : bC Tryd.prog .lss 2 false (I6 kk) (Nn ws.length) = some (.bool false) := dR (by omega)
    rw [if_neg (show ¬ fS ws.length w i by unfold fS; omega), if_neg (show ¬ fT ws.length w by unfold fT; omega)]
    refine ⟨.nils, ?_, IsR.nil⟩
    rw [aK.step]
    unfold aK.c
    refine fC ?_
    clear hkk hop hc
    generalize cV b ws R M = C at *
    generalize cJ ws = WS at *
    generalize [(⟨29, 6, [w.v]⟩ : ABlk)] = hh at *
    generalize w.v = wv at *
    have fx := aKI b0 <| aKI g1 <| aKI f0 <| aKI l0 <| aKI ln <| aKI g2 <| aKI ia <| aKI li <| aKI bx <| aKI st <| aKI k0 <| aKI k5 <| aKI lo <| aKI lk <| aKI q2 <| aKI p1 <| aKI p2 <| aKI p12 <| aKI m17 <| aKI m18 <| aKI m19 <| aKI u17 <| aKI u20 <| aKI ga <| aKI gk <| gl
    refine eH ?_
    exact oF (e0 _)
 by_cases o19 : op = 19
 ·have hc : op = 19 := by omega
  have m17 : bC Tryd.prog .eql 3 true (I6 op) (.int .i64 17) = some (.bool false) := fU (by omega)
  have m18 : bC Tryd.prog .eql 3 true (I6 op) (.int .i64 18) = some (.bool false) := fU (by omega)
  have m19 : bC Tryd.prog .eql 3 true (I6 op) (.int .i64 19) = some (.bool true) := gH (by omega)
  have u17 : bC Tryd.prog .neq 3 true (I6 op) (.int .i64 17) = some (.bool true) := gW (by omega)
  have u20 : bC Tryd.prog .neq 3 true (I6 op) (.int .i64 20) = some (.bool true) := gW (by omega)
  by_cases hg : (i : Int) + 1 < ws.length
  ·have ga : bC Tryd.prog .lss 3 false (I6 ((i : Int) + 1)) (Nn ws.length) = some (.bool true) := dU hg
   by_cases hk0 : kk < 0
   ·have gk : bC Tryd.prog .geq 2 true (I6 kk) (.int .i64 0) = some (.bool false) := jI hk0
    rw [if_pos (show fS ws.length w i by unfold fS; omega), if_neg (show ¬ fT ws.length w by unfold fT; omega)]
    refine ⟨.ro false (I3.intsI (fE ((i : Int) + 1) [])), ?_, IsR.ro _⟩
    rw [aK.step]
    unfold aK.c
    refine fC ?_
    clear hkk hop hc
    generalize cV b ws R M = C at *
    generalize cJ ws = WS at *
    generalize [(⟨29, 6, [w.v]⟩ : ABlk)] = hh at *
    generalize w.v = wv at *
    have fx := aKI b0 <| aKI g1 <| aKI f0 <| aKI l0 <| aKI ln <| aKI g2 <| aKI ia <| aKI li <| aKI bx <| aKI st <| aKI k0 <| aKI k5 <| aKI lo <| aKI lk <| aKI q2 <| aKI p1 <| aKI p2 <| aKI p12 <| aKI m17 <| aKI m18 <| aKI m19 <| aKI u17 <| aKI u20 <| aKI ga <| gk
    refine eH ?_
    exact oF (e _ _)
   have gk : bC Tryd.prog .geq 2 true (I6 kk) (.int .i64 0) = some (.bool true) := by rw [iI, decide_eq_true (by omega)]
   by_cases hk1 : kk < ws.length
   ·have gl : bC Tryd.prog .lss 2 false (I6 kk) (Nn ws.length) = some (.bool true) := dU hk1
    rw [if_pos (show fS ws.length w i by unfold fS; omega), if_pos (show fT ws.length w by unfold fT; omega)]
    rw [← hkk]
    refine ⟨.ro false (I3.intsI (fE kk (fE ((i : Int) + 1) []))), ?_, IsR.ro _⟩
    rw [aK.step]
    unfold aK.c
    refine fC ?_
    clear hkk hop hc
    generalize cV b ws R M = C at *
    generalize cJ ws = WS at *
    generalize [(⟨29, 6, [w.v]⟩ : ABlk)] = hh at *
    generalize w.v = wv at *
    have fx := aKI b0 <| aKI g1 <| aKI f0 <| aKI l0 <| aKI ln <| aKI g2 <| aKI ia <| aKI li <| aKI bx <| aKI st <| aKI k0 <| aKI k5 <| aKI lo <| aKI lk <| aKI q2 <| aKI p1 <| aKI p2 <| aKI p12 <| aKI m17 <| aKI m18 <| aKI m19 <| aKI u17 <| aKI u20 <| aKI ga <| aKI gk <| gl
    refine eH ?_
    exact oF (e _ _)
   ·have gl : bC Tryd.prog .lss 2 false (I6 kk) (Nn ws.length) = some (.bool false) := dR (by omega)
    rw [if_pos (show fS ws.length w i by unfold fS; omega), if_neg (show ¬ fT ws.length w by unfold fT; omega)]
    refine ⟨.ro false (I3.intsI (fE ((i : Int) + 1) [])), ?_, IsR.ro _⟩
    rw [aK.step]
    unfold aK.c
    refine fC ?_
    clear hkk hop hc
    generalize cV b ws R M = C at *
    generalize cJ ws = WS at *
    generalize [(⟨29, 6, [w.v]⟩ : ABlk)] = hh at *
    generalize w.v = wv at *
    have fx := aKI b0 <| aKI g1 <| aKI f0 <| aKI l0 <| aKI ln <| aKI g2 <| aKI ia <| aKI li <| aKI bx <| aKI st <| aKI k0 <| aKI k5 <| aKI lo <| aKI lk <| aKI q2 <| aKI p1 <| aKI p2 <| aKI p12 <| aKI m17 <| aKI m18 <| aKI m19 <| aKI u17 <| aKI u20 <| aKI ga <| aKI gk <| gl
    refine eH ?_
    exact oF (e _ _)
  ·have ga : bC Tryd.prog .lss 3 false (I6 ((i : Int) + 1)) (Nn ws.length) = some (.bool false) := dR (by omega)
   by_cases hk0 : kk < 0
   ·have gk : bC Tryd.prog .geq 2 true (I6 kk) (.int .i64 0) = some (.bool false) := jI hk0
    rw [if_neg (show ¬ fS ws.length w i by unfold fS; omega), if_neg (show ¬ fT ws.length w by unfold fT; omega)]
    refine ⟨.nils, ?_, IsR.nil⟩
    rw [aK.step]
    unfold aK.c
    refine fC ?_
    clear hkk hop hc
    generalize cV b ws R M = C at *
    generalize cJ ws = WS at *
    generalize [(⟨29, 6, [w.v]⟩ : ABlk)] = hh at *
    generalize w.v = wv at *
    have fx := aKI b0 <| aKI g1 <| aKI f0 <| aKI l0 <| aKI ln <| aKI g2 <| aKI ia <| aKI li <| aKI bx <| aKI st <| aKI k0 <| aKI k5 <| aKI lo <| aKI lk <| aKI q2 <| aKI p1 <| aKI p2 <| aKI p12 <| aKI m17 <| aKI m18 <| aKI m19 <| aKI u17 <| aKI u20 <| aKI ga <| gk
    refine eH ?_
    exact oF (e0 _)
   have gk : bC Tryd.prog .geq 2 true (I6 kk) (.int .i64 0) = some (.bool true) := by rw [iI, decide_eq_true (by omega)]
   by_cases hk1 : kk < ws.length
   ·have gl : bC Tryd.prog .lss 2 false (I6 kk) (Nn ws.length) = some (.bool true) := dU hk1
    rw [if_neg (show ¬ fS ws.length w i by unfold fS; omega), if_pos (show fT ws.length w by unfold fT; omega)]
    rw [← hkk]
    refine ⟨.ro false (I3.intsI (fE kk [])), ?_, IsR.ro _⟩
    rw [aK.step]
    unfold aK.c
    refine fC ?_
    clear hkk hop hc
    generalize cV b ws R M = C at *
    generalize cJ ws = WS at *
    generalize [(⟨29, 6, [w.v]⟩ : ABlk)] = hh at *
    generalize w.v = wv at *
    have fx := aKI b0 <| aKI g1 <| aKI f0 <| aKI l0 <| aKI ln <| aKI g2 <| aKI ia <| aKI li <| aKI bx <| aKI st <| aKI k0 <| aKI k5 <| aKI lo <| aKI lk <| aKI q2 <| aKI p1 <| aKI p2 <| aKI p12 <| aKI m17 <| aKI m18 <| aKI m19 <| aKI u17 <| aKI u20 <| aKI ga <| aKI gk <| gl
    refine eH ?_
    exact oF (e _ _)
   ·have gl : bC Tryd.prog .lss 2 false (I6 kk) (Nn ws.length) = some (.bool false) := dR (by omega)
    rw [if_neg (show ¬ fS ws.length w i by unfold fS; omega), if_neg (show ¬ fT ws.length w by unfold fT; omega)]
    refine ⟨.nils, ?_, IsR.nil⟩
    rw [aK.step]
    unfold aK.c
    refine fC ?_
    clear hkk hop hc
    generalize cV b ws R M = C at *
    generalize cJ ws = WS at *
    generalize [(⟨29, 6, [w.v]⟩ : ABlk)] = hh at *
    generalize w.v = wv at *
    have fx := aKI b0 <| aKI g1 <| aKI f0 <| aKI l0 <| aKI ln <| aKI g2 <| aKI ia <| aKI li <| aKI bx <| aKI st <| aKI k0 <| aKI k5 <| aKI lo <| aKI lk <| aKI q2 <| aKI p1 <| aKI p2 <| aKI p12 <| aKI m17 <| aKI m18 <| aKI m19 <| aKI u17 <| aKI u20 <| aKI ga <| aKI gk <| gl
    refine eH ?_
    exact oF (e0 _)
 by_cases o20 : op = 20
 ·have hc : op = 20 := by omega
  have m17 : bC Tryd.prog .eql 3 true (I6 op) (.int .i64 17) = some (.bool false) := fU (by omega)
  have m18 : bC Tryd.prog .eql 3 true (I6 op) (.int .i64 18) = some (.bool false) := fU (by omega)
  have m19 : bC Tryd.prog .eql 3 true (I6 op) (.int .i64 19) = some (.bool false) := fU (by omega)
  have u17 : bC Tryd.prog .neq 3 true (I6 op) (.int .i64 17) = some (.bool true) := gW (by omega)
  have u20 : bC Tryd.prog .neq 3 true (I6 op) (.int .i64 20) = some (.bool false) := iD (by omega)
  rw [if_neg (show ¬ fS ws.length w i by unfold fS; omega), if_neg (show ¬ fT ws.length w by unfold fT; omega)]
  refine ⟨.nils, ?_, IsR.nil⟩
  rw [aK.step]
  unfold aK.c
  refine fC ?_
  clear hkk hop hc
  generalize cV b ws R M = C at *
  generalize cJ ws = WS at *
  generalize [(⟨29, 6, [w.v]⟩ : ABlk)] = hh at *
  generalize w.v = wv at *
  have fx := aKI b0 <| aKI g1 <| aKI f0 <| aKI l0 <| aKI ln <| aKI g2 <| aKI ia <| aKI li <| aKI bx <| aKI st <| aKI k0 <| aKI k5 <| aKI lo <| aKI lk <| aKI q2 <| aKI p1 <| aKI p2 <| aKI p12 <| aKI m17 <| aKI m18 <| aKI m19 <| aKI u17 <| u20
  refine eH ?_
  exact oF (e0 _)
 have hc : op ≠ 17 ∧ op ≠ 18 ∧ op ≠ 19 ∧ op ≠ 20 := by omega
 have m17 : bC Tryd.prog .eql 3 true (I6 op) (.int .i64 17) = some (.bool false) := fU (by omega)
 have m18 : bC Tryd.prog .eql 3 true (I6 op) (.int .i64 18) = some (.bool false) := fU (by omega)
 have m19 : bC Tryd.prog .eql 3 true (I6 op) (.int .i64 19) = some (.bool false) := fU (by omega)
 have u17 : bC Tryd.prog .neq 3 true (I6 op) (.int .i64 17) = some (.bool true) := gW (by omega)
 have u20 : bC Tryd.prog .neq 3 true (I6 op) (.int .i64 20) = some (.bool true) := gW (by omega)
 by_cases hg : (i : Int) + 1 < ws.length
 ·have ga : bC Tryd.prog .lss 3 false (I6 ((i : Int) + 1)) (Nn ws.length) = some (.bool true) := dU hg
  rw [if_pos (show fS ws.length w i by unfold fS; omega), if_neg (show ¬ fT ws.length w by unfold fT; omega)]
  refine ⟨.ro false (I3.intsI (fE ((i : Int) + 1) [])), ?_, IsR.ro _⟩
  rw [aK.step]
  unfold aK.c
  refine fC ?_
  clear hkk hop hc
  generalize cV b ws R M = C at *
  generalize cJ ws = WS at *
  generalize [(⟨29, 6, [w.v]⟩ : ABlk)] = hh at *
  generalize w.v = wv at *
  have fx := aKI b0 <| aKI g1 <| aKI f0 <| aKI l0 <| aKI ln <| aKI g2 <| aKI ia <| aKI li <| aKI bx <| aKI st <| aKI k0 <| aKI k5 <| aKI lo <| aKI lk <| aKI q2 <| aKI p1 <| aKI p2 <| aKI p12 <| aKI m17 <| aKI m18 <| aKI m19 <| aKI u17 <| aKI u20 <| ga
  refine eH ?_
  exact oF (e _ _)
 ·have ga : bC Tryd.prog .lss 3 false (I6 ((i : Int) + 1)) (Nn ws.length) = some (.bool false) := dR (by omega)
  rw [if_neg (show ¬ fS ws.length w i by unfold fS; omega), if_neg (show ¬ fT ws.length w by unfold fT; omega)]
  refine ⟨.nils, ?_, IsR.nil⟩
  rw [aK.step]
  unfold aK.c
  refine fC ?_
  clear hkk hop hc
  generalize cV b ws R M = C at *
  generalize cJ ws = WS at *
  generalize [(⟨29, 6, [w.v]⟩ : ABlk)] = hh at *
  generalize w.v = wv at *
  have fx := aKI b0 <| aKI g1 <| aKI f0 <| aKI l0 <| aKI ln <| aKI g2 <| aKI ia <| aKI li <| aKI bx <| aKI st <| aKI k0 <| aKI k5 <| aKI lo <| aKI lk <| aKI q2 <| aKI p1 <| aKI p2 <| aKI p12 <| aKI m17 <| aKI m18 <| aKI m19 <| aKI u17 <| aKI u20 <| ga
  refine eH ?_
  exact oF (e0 _)
theorem aAC {l pre suf : List Int} {y : Int} (h : l = pre ++ y :: suf) (hj : pre.length < l.length) : l[pre.length] = y := by subst h; simp
def iC : List Int → List Int → List Int
 | [], acc => acc
 | y :: ys, acc => iC ys (fE y acc)
theorem oJ (x : Int) : ∀ ys acc : List Int, x ∈ iC ys acc ↔ x ∈ ys ∨ x ∈ acc
 | [], acc => by simp [iC]
 | y :: ys, acc => by
  rw [iC, oJ x ys, oU, List.mem_cons]
  constructor
  ·rintro (h | h | h) <;> simp [h]
  ·rintro ((h | h) | h) <;> simp [h]
theorem qI : ∀ (ys : List Int) {acc : List Int}, acc.Pairwise (· < ·) → (iC ys acc).Pairwise (· < ·)
 | [], acc, h => h
 | y :: ys, acc, h => qI ys (pL y h)
theorem oI : ∀ ys acc : List Int, (iC ys acc).length ≤ acc.length + ys.length
 | [], acc => by simp [iC]
 | y :: ys, acc => by
  have h1 := oI ys (fE y acc)
  have h2 := gS y acc
  rw [iC]
  simp only [List.length_cons]
  omega
def iO (rows : List (List Int)) : List Int → List Int → List Int
 | [], acc => acc
 | q :: qs, acc => iO rows qs (iC (rows.getD q.toNat []) acc)
theorem nC (rows : List (List Int)) (x : Int) : ∀ qs acc : List Int, x ∈ iO rows qs acc ↔ (∃ q ∈ qs, x ∈ rows.getD q.toNat []) ∨ x ∈ acc
 | [], acc => by simp [iO]
 | q :: qs, acc => by
  rw [iO, nC rows x qs, oJ]
  constructor
  ·rintro (⟨q', h1, h2⟩ | h | h)
   ·exact .inl ⟨q', List.mem_cons_of_mem _ h1, h2⟩
   ·exact .inl ⟨q, List.mem_cons_self .., h⟩
   ·exact .inr h
  ·rintro (⟨q', h1, h2⟩ | h)
   ·rcases List.mem_cons.1 h1 with rfl | h1
    ·exact .inr (.inl h2)
    ·exact .inl ⟨q', h1, h2⟩
   ·exact .inr (.inr h)
theorem tR (rows : List (List Int)) : ∀ (qs : List Int) {acc : List Int}, acc.Pairwise (· < ·) → (iO rows qs acc).Pairwise (· < ·)
 | [], acc, h => h
 | q :: qs, acc, h => tR rows qs (qI _ h)
theorem nB (rows : List (List Int)) (hr : ∀ q, (rows.getD q []).length ≤ 1000) : ∀ qs acc : List Int, (iO rows qs acc).length ≤ acc.length + 1000 * qs.length
 | [], acc => by simp [iO]
 | q :: qs, acc => by
  have h1 := nB rows hr qs (iC (rows.getD q.toNat []) acc)
  have h2 := oI (rows.getD q.toNat []) acc
  have h3 := hr q.toNat
  rw [iO]
  simp only [List.length_cons]
  omega
structure RowsV (vs : List AV) (rows : List (List Int)) : Prop where
 len : vs.length = rows.length
 at_ : ∀ q, q < rows.length → ∃ v, vs[q]? = some v ∧ IsR v (rows.getD q [])
theorem RowsV.mem {vs : List AV} {rows : List (List Int)} (h : RowsV vs rows) {v : AV} (hv : v ∈ vs) : ∃ l, IsR v l := by
 obtain ⟨q, hq⟩ := List.mem_iff_getElem?.1 hv
 have hl := (List.getElem?_eq_some_iff.1 hq).1
 obtain ⟨v', h1, h2⟩ := h.at_ q (by rw [← h.len]; exact hl)
 rw [hq] at h1
 obtain rfl := Option.some.inj h1
 exact ⟨_, h2⟩
theorem zC (n : Nat) : ∀ vs : List AV, (∀ v ∈ vs, aV n v = true) → bG n vs = true
 | [], _ => rfl
 | v :: vs, h => by simp only [bG, h v (List.mem_cons_self ..), zC n vs (fun x hx => h x (List.mem_cons_of_mem _ hx)), Bool.and_self]
theorem zE : ∀ vs : List AV, (∀ v ∈ vs, bP v = true) → dK vs = true
 | [], _ => rfl
 | v :: vs, h => by simp only [dK, h v (List.mem_cons_self ..), zE vs (fun x hx => h x (List.mem_cons_of_mem _ hx)), Bool.and_self]
theorem zD : ∀ vs : List AV, (∀ v ∈ vs, dV v = true) → fW vs = true
 | [], _ => rfl
 | v :: vs, h => by simp only [fW, h v (List.mem_cons_self ..), zD vs (fun x hx => h x (List.mem_cons_of_mem _ hx)), Bool.and_self]
theorem RowsV.below {vs : List AV} {rows : List (List Int)} (h : RowsV vs rows) (n : Nat) : bG n vs = true := zC n vs fun v hv => by obtain ⟨l, q⟩ := h.mem hv; exact q.l.low n
theorem RowsV.plain {vs : List AV} {rows : List (List Int)} (h : RowsV vs rows) : dK vs = true := zE vs fun v hv => by obtain ⟨l, q⟩ := h.mem hv; exact q.l.plain
theorem RowsV.clean {vs : List AV} {rows : List (List Int)} (h : RowsV vs rows) : fW vs = true := zD vs fun v hv => by obtain ⟨l, q⟩ := h.mem hv; exact q.clean
theorem RowsV.sz {vs : List AV} {rows : List (List Int)} (h : RowsV vs rows) : jB 1 vs = true := by
 unfold jB
 rw [List.all_eq_true]
 intro v hv
 obtain ⟨l, q⟩ := h.mem hv
 cases q <;> rfl
theorem RowsV.set {vs : List AV} {rows : List (List Int)} (h : RowsV vs rows) (q : Nat) {v : AV} {l : List Int} (hv : IsR v l) : RowsV (vs.set q v) (rows.set q l) := by
 refine ⟨by simp [h.len], fun p hp => ?_⟩
 rw [List.length_set] at hp
 by_cases e : q = p
 ·subst e
  exact ⟨v, List.getElem?_set_self (by rw [h.len]; exact hp), by rw [List.getD_eq_getElem?_getD, List.getElem?_set_self hp]; exact hv⟩
 ·obtain ⟨v', h1, h2⟩ := h.at_ p hp
  exact ⟨v', by rw [List.getElem?_set_ne e]; exact h1, by rw [List.getD_eq_getElem?_getD, List.getElem?_set_ne e, ← List.getD_eq_getElem?_getD]; exact h2⟩
theorem IsR.idx {v : AV} {l : List Int} (h : IsR v l) {vs : List AV} {q : Nat} (hq : vs[q]? = some v) (b : Bool) : aM 1 (.ro b vs) (Nn q) = some (.rp b v 0) := by
 have e : v.cells.length = 1 := by cases h <;> rfl
 simp [aM, hq, e]
theorem IsR.ld {v : AV} {l : List Int} (h : IsR v l) (G : aC) (b : Bool) (H : aA) : aH G false 1 (.rp b v 0) H = some v := by cases h <;> rfl
section
variable (G : aC) (k : Nat) (self : cK) {vs : List AV} {rows : List (List Int)} (hV : RowsV vs rows) (b : Bool) {nv : AV} {nl : List Int} (hN : IsR nv nl)
include hV hN in
theorem zJ {i q : Nat} (hi : i < nl.length) (hq : nl[i] = (q : Int)) (hql : q < rows.length) (hk : 6000 < k) : ∀ (suf pre acc : List Int) (av : AV) (f : Nat), rows.getD q [] = pre ++ suf → IsR av acc → (rows.getD q []).length ≤ 1000 → acc.length + suf.length ≤ 5000 → suf.length < f →
  ∃ av', cC (aP.l7 G k 0 self) f [.ro b vs, av, nv, Nn i, Nn pre.length] [] = some (.exit 2, [.ro b vs, av', nv, Nn i, Nn (rows.getD q []).length], []) ∧ IsR av' (iC suf acc)
 | suf, pre, acc, av, 0, _, _, _, _, h => by omega
 | suf, pre, acc, av, f + 1, he, ha, hr, hal, hf => by
  have hc : eF 0 [.ro b vs, av, nv, Nn i, Nn pre.length] [] = some [] := by
   simp [eF, bG, bS, ha.l.low, hN.l.low]
   simp [aV, hV.below]
  obtain ⟨bn, i1⟩ := hN.l.at hi
  rw [hq] at i1
  have d1 := yS G bn q
  obtain ⟨rv, e1, e2⟩ := hV.at_ q hql
  have i2 := e2.idx e1 b
  have d2 := fun H => e2.ld G b H
  have lr := e2.l.len
  match suf, he, hal, hf with
  | [], he, hal, hf =>
   have ep : rows.getD q [] = pre := by rw [he]; simp
   refine ⟨av, ?_, ha⟩
   rw [ep] at lr ⊢
   have g1 : bC Tryd.prog .lss 3 false (Nn pre.length) (Nn pre.length) = some (.bool false) := dR (by omega)
   rw [aR, aP.l7]
   refine eM ?_
   refine eC hc ?_
   clear hc hV hN ha he
   generalize pre.length = pl at *
   have fx := aKI i1 <| aKI d1 <| aKI i2 <| aKI d2 <| aKI lr <| g1
   refine eH ?_
   refine fK ?_; rfl
  | y :: suf, he, hal, hf =>
   have hj : pre.length < (rows.getD q []).length := by rw [he]; simp
   have hy : (rows.getD q [])[pre.length] = y := aAC he hj
   have g1 : bC Tryd.prog .lss 3 false (Nn pre.length) (Nn (rows.getD q []).length) = some (.bool true) := dU (by omega)
   have q2 : bC Tryd.prog .add 3 true (Nn pre.length) (.int .i64 1) = some (Nn (pre.length + 1 : Nat)) := gR (by omega)
   obtain ⟨b3, i3⟩ := e2.l.at hj
   rw [hy] at i3
   have d3 := yS G b3 y
   have hpl := gS y acc
   simp only [List.length_cons] at hal hf
   have pp := fun H => iE G k ha.l y (by omega) (by omega) H
   obtain ⟨av', ih, ih2⟩ := zJ hi hq hql hk suf (pre ++ [y]) (fE y acc) _ f (by rw [he]; simp) (.ro (fE y acc)) hr (by omega) (by omega)
   have el : (pre ++ [y]).length = pre.length + 1 := by simp
   rw [el] at ih
   refine ⟨av', ?_, ih2⟩
   rw [aR, aP.l7]
   refine eM ?_
   refine eC hc ?_
   clear hc hV hN ha he hy el ih2 e1 e2 hpl
   generalize I3.intsI (fE y acc) = pv at *
   generalize (rows.getD q []).length = rl at *
   have fx := aKI i1 <| aKI d1 <| aKI i2 <| aKI d2 <| aKI lr <| aKI g1 <| aKI i3 <| aKI d3 <| aKI pp <| q2
   refine eH ?_
   exact ih
include hV hN in
theorem zI (hk : 6000 < k) (hnl : nl.length ≤ 4) (hq : ∀ q ∈ nl, 0 ≤ q ∧ q < rows.length) (hr : ∀ q, (rows.getD q []).length ≤ 1000) : ∀ (suf pre acc : List Int) (av : AV) (f : Nat), nl = pre ++ suf → IsR av acc → acc.length + 1000 * suf.length ≤ 4000 → suf.length < f →
  ∃ av', cC (aP.l4 G k 0 self) f [.ro b vs, av, nv, Nn pre.length] [] = some (.exit 0, [.ro b vs, av', nv, Nn nl.length], []) ∧ IsR av' (iO rows suf acc)
 | suf, pre, acc, av, 0, _, _, _, h => by omega
 | suf, pre, acc, av, f + 1, he, ha, hal, hf => by
  have hc : eF 0 [.ro b vs, av, nv, Nn pre.length] [] = some [] := by
   simp [eF, bG, bS, ha.l.low, hN.l.low]
   simp [aV, hV.below]
  have ln := hN.l.len
  match suf, he, hal, hf with
  | [], he, hal, hf =>
   have ep : nl = pre := by rw [he]; simp
   refine ⟨av, ?_, ha⟩
   have g1 : bC Tryd.prog .lss 3 false (Nn pre.length) (Nn nl.length) = some (.bool false) := dR (by rw [ep]; omega)
   have e0 : pre.length = nl.length := by rw [ep]
   rw [aR, aP.l4]
   refine eM ?_
   refine eC hc ?_
   rw [e0] at g1 ⊢
   clear hc hV hN ha he ep e0
   generalize nl.length = pl at *
   have fx := aKI ln <| g1
   refine eH ?_
   refine fK ?_; rfl
  | q :: suf, he, hal, hf =>
   have hj : pre.length < nl.length := by rw [he]; simp
   have hy : nl[pre.length] = q := by simp [he]
   have hqq := hq q (by rw [he]; simp)
   obtain ⟨qn, rfl⟩ : ∃ qn : Nat, q = qn := ⟨q.toNat, by omega⟩
   have g1 : bC Tryd.prog .lss 3 false (Nn pre.length) (Nn nl.length) = some (.bool true) := dU (by omega)
   have q2 : bC Tryd.prog .add 3 true (Nn pre.length) (.int .i64 1) = some (Nn (pre.length + 1 : Nat)) := gR (by omega)
   have hrq := hr qn
   have hfl := oI (rows.getD qn []) acc
   simp only [List.length_cons] at hal hf
   obtain ⟨av1, lp, ia⟩ := zJ G k self hV b hN hj hy (by omega) hk (rows.getD qn []) [] acc av k rfl ha hrq (by omega) (by omega)
   obtain ⟨av', ih, ih2⟩ := zI hk hnl hq hr suf (pre ++ [(qn : Int)]) (iC (rows.getD qn []) acc) av1 f (by rw [he]; simp) ia (by omega) (by omega)
   have el : (pre ++ [(qn : Int)]).length = pre.length + 1 := by simp
   rw [el] at ih
   refine ⟨av', ?_, by rw [iO, Int.toNat_natCast]; exact ih2⟩
   replace lp : cC (aP.l7 G k ([] : aA).length self) k [.ro b vs, av, nv, Nn pre.length, .int .i64 0] [] = _ := lp
   rw [aR, aP.l4]
   refine eM ?_
   refine eC hc ?_
   clear hc hV hN ha he hy el ih2 ia hfl hrq hr hq
   generalize nl.length = nll at *
   generalize (rows.getD qn []).length = rl at *
   have fx := aKI ln <| aKI g1 <| q2
   have lx1 := lp
   refine eH ?_
   exact ih
end
def lX (ws : List WI) (rows : List (List Int)) (i : Nat) : List Int := iO rows (nxP ws.length (ws.getD i default) i) []
theorem aDJ {n : Nat} {w : WI} {i : Nat} : ∀ q ∈ nxP n w i, 0 ≤ q ∧ q < n := fun q hq => by
 have := (pK (by omega)).1 hq
 simp [sW] at this
 exact this.2
theorem tJ (G : aC) (k : Nat) {vs : List AV} {rows : List (List Int)} (hV : RowsV vs rows) (b b' : Bool) (ws : List WI) (R M : Int) (i : Nat) (hi : i < ws.length) (hn : ws.length ≤ 1000) (hrl : rows.length = ws.length) (hr : ∀ q, (rows.getD q []).length ≤ 1000) (hk : 6000 < k) :
  ∃ v, aP.f G (k + 1) [cV b' ws R M, .ro b vs, Nn i] [] = some (v, []) ∧ IsR v (lX ws rows i) := by
 obtain ⟨nv, h1, h2⟩ := xK G (k - 20) b' ws R M (i : Int) (by omega) (by omega) (by omega)
 rw [show k - 20 + 20 = k by omega] at h1
 rw [if_pos (by omega), Int.toNat_natCast] at h2
 have rn : ∀ H, aJ (aK.f G k) [cV b' ws R M, Nn i] H = some (nv, H) := fun H => aZ (H := H) h1 (by simp [dK, bP, cV, jA]) h2.clean
 have hnl := vA ws.length (ws.getD i default) i
 obtain ⟨av, lp, ha⟩ := zI G k (aP.f G k) hV b h2 hk (by omega) (fun q hq => by rw [hrl]; exact aDJ q hq) hr (nxP ws.length (ws.getD i default) i) [] [] .nils k rfl .nil (by simp only [List.length_nil]; omega) (by omega)
 replace lp : cC (aP.l4 G k ([] : aA).length (aP.f G k)) k [.ro b vs, .nils, nv, .int .i64 0] [] = _ := lp
 have b0 : ∀ H, eE (cV b' ws R M) H = some (.rp false (cV b' ws R M) 0, H) := fun H => rfl
 have l0 : ∀ H, aH G true 3 (.rp false (cV b' ws R M) 0) H = some (cV b' ws R M) := fun H => rfl
 have fin := ha.l.fin ([] : aA)
 refine ⟨av, ?_, ha⟩
 rw [aP.step]
 unfold aP.c
 refine fC ?_
 clear ha h1 h2 hV
 generalize cV b' ws R M = C at *
 generalize (nxP ws.length (ws.getD i default) i).length = nll at *
 have fx := aKI b0 <| aKI l0 <| rn
 have lx1 := lp
 refine eH ?_
 exact oF fin
theorem aGb {n x : Int} {l : List Int} : x ∈ iK n l ↔ x ∈ l ∧ x ≠ n := by simp [iK]
theorem aHz {n : Int} {l : List Int} (h : l.Pairwise (· < ·)) : (iK n l).Pairwise (· < ·) := List.Pairwise.filter _ h
def gE (ws : List WI) (rows : List (List Int)) (i : Nat) : List Int :=
 iC (rdP (ws.getD i default)) (if (dD (ws.getD i default).op).d = true then iK (ws.getD i default).d (lX ws rows i) else lX ws rows i)
theorem jY (ws : List WI) (rows : List (List Int)) (i : Nat) (x : Int) : x ∈ gE ws rows i ↔ x ∈ rdF (ws.getD i default) ∨
  ((∃ q ∈ nxP ws.length (ws.getD i default) i, x ∈ rows.getD q.toNat []) ∧ ¬ ((dD (ws.getD i default).op).d = true ∧ x = (ws.getD i default).d)) := by
 unfold gE
 rw [oJ, aES]
 have hb : x ∈ lX ws rows i ↔ ∃ q ∈ nxP ws.length (ws.getD i default) i, x ∈ rows.getD q.toNat [] := by
  unfold lX
  rw [nC]
  simp
 refine or_congr Iff.rfl ?_
 by_cases h : (dD (ws.getD i default).op).d = true
 ·rw [if_pos h, aGb, hb]; exact and_congr Iff.rfl ⟨fun a b => a b.2, fun a b => a ⟨h, b⟩⟩
 ·rw [if_neg h, hb]; exact ⟨fun a => ⟨a, fun b => h b.1⟩, fun a => a.1⟩
theorem xY (ws : List WI) (rows : List (List Int)) (i : Nat) : (gE ws rows i).Pairwise (· < ·) := by
 have hb : (lX ws rows i).Pairwise (· < ·) := tR rows _ .nil
 unfold gE
 refine qI _ ?_
 split
 ·exact aHz hb
 ·exact hb
structure RowsOk (R n : Nat) (rows : List (List Int)) : Prop where
 len : rows.length = n
 up : ∀ q, (rows.getD q []).Pairwise (· < ·)
 rng : ∀ q, ∀ x ∈ rows.getD q [], 0 ≤ x ∧ x < R
theorem aIe {l : List Int} {R : Nat} (h1 : l.Pairwise (· < ·)) (h2 : ∀ x ∈ l, 0 ≤ x ∧ x < R) : l.length ≤ R := by
 have hnd : (l.map Int.toNat).Nodup := kT h1 (fun x hx => (h2 x hx).1)
 have := List.Nodup.length_le_of_subset hnd (l₂ := List.range R) (fun x hx => by
  obtain ⟨y, hy, rfl⟩ := List.mem_map.1 hx
  have := h2 y hy
  rw [List.mem_range]
  omega)
 simpa using this
theorem RowsOk.row {R n : Nat} {rows : List (List Int)} (h : RowsOk R n rows) (q : Nat) : (rows.getD q []).length ≤ R := aIe (h.up q) (h.rng q)
theorem RowsOk.set {R n : Nat} {rows : List (List Int)} (h : RowsOk R n rows) (i : Nat) {l : List Int} (h1 : l.Pairwise (· < ·)) (h2 : ∀ x ∈ l, 0 ≤ x ∧ x < R) : RowsOk R n (rows.set i l) := by
 have e : ∀ q, (rows.set i l).getD q [] = l ∨ (rows.set i l).getD q [] = rows.getD q [] := fun q => by
  simp only [List.getD_eq_getElem?_getD, List.getElem?_set]
  by_cases e : i = q
  ·rw [if_pos e]
   by_cases e2 : i < rows.length
   ·rw [if_pos e2]; exact .inl rfl
   ·rw [if_neg e2, List.getElem?_eq_none (by omega)]; exact .inr rfl
  ·rw [if_neg e]; exact .inr rfl
 refine ⟨by simp [h.len], fun q => ?_, fun q => ?_⟩
 ·rcases e q with e | e <;> rw [e]
  ·exact h1
  ·exact h.up q
 ·rcases e q with e | e <;> rw [e]
  ·exact h2
  ·exact h.rng q
theorem tC {ws : List WI} {R : Nat} {rows : List (List Int)} (hg : ∀ w ∈ ws, w.Good R ws.length) (h : RowsOk R ws.length rows) {i : Nat} (hi : i < ws.length) : ∀ x ∈ gE ws rows i, 0 ≤ x ∧ x < R := fun x hx => by
 rcases (jY ws rows i x).1 hx with hx | ⟨⟨q, _, hx⟩, _⟩
 ·have hw : (ws.getD i default) ∈ ws := by rw [List.getD_eq_getElem?_getD, List.getElem?_eq_getElem hi]; exact List.getElem_mem hi
  obtain ⟨ga, gb, gc⟩ := aGo (hg _ hw)
  unfold rdF at hx
  simp only [List.mem_append] at hx
  rcases hx with hx | hx | hx
  ·split at hx
   ·rename_i q; rw [List.mem_singleton.1 hx]; exact ga q
   ·cases hx
  ·split at hx
   ·rename_i q; rw [List.mem_singleton.1 hx]; exact gb q
   ·cases hx
  ·split at hx
   ·rename_i q; rw [List.mem_singleton.1 hx]; exact gc q
   ·cases hx
 ·exact h.rng _ x hx
def xC (ws : List WI) (i : Nat) (s : List (List Int) × Bool) : List (List Int) × Bool := if (gE ws s.1 i).length = (s.1.getD i []).length then s else (s.1.set i (gE ws s.1 i), true)
def uQ (ws : List WI) : Nat → List (List Int) × Bool → List (List Int) × Bool
 | 0, s => s
 | m + 1, s => uQ ws m (xC ws m s)
def wR (ws : List WI) : Nat → List (List Int) → Option (List (List Int))
 | 0, _ => none
 | f + 1, rows => if (uQ ws ws.length (rows, false)).2 = true then wR ws f (uQ ws ws.length (rows, false)).1 else some (uQ ws ws.length (rows, false)).1
theorem aHX {ws : List WI} {R : Nat} (hg : ∀ w ∈ ws, w.Good R ws.length) {s : List (List Int) × Bool} (h : RowsOk R ws.length s.1) {i : Nat} (hi : i < ws.length) : RowsOk R ws.length (xC ws i s).1 := by
 unfold xC
 split
 ·exact h
 ·exact h.set i (xY ..) (tC hg h hi)
theorem aKn (G : aC) {vs : List AV} {i : Nat} {v : AV} {l : List Int} (h : vs[i]? = some v) (hv : IsR v l) : aH G false 1 (.ptr 0 vs.length i 0) [⟨49, 1, vs⟩] = some v := by
 have e : ([⟨49, 1, vs⟩] : aA)[0]? = some ⟨49, 1, vs⟩ := rfl
 unfold aH
 simp only [e, if_true, h]
 cases hv <;> rfl
theorem aKo {vs : List AV} {i : Nat} {v v' : AV} {l l' : List Int} (h : vs[i]? = some v) (hv : IsR v l) (hv' : IsR v' l') : hX (cH 1 (.ptr 0 vs.length i 0) v' [⟨49, 1, vs⟩]) = some (.tup [], [⟨49, 1, vs.set i v'⟩]) := by
 have e : ([⟨49, 1, vs⟩] : aA)[0]? = some ⟨49, 1, vs⟩ := rfl
 unfold cH
 simp only [e, h]
 cases hv <;> cases hv' <;> rfl
section
variable (G : aC) (k : Nat) (self : cK) (ws : List WI) (R : Nat) (M : Int)
theorem xQ {vs : List AV} {rows : List (List Int)} (hV : RowsV vs rows) (X : aA) {xs : List AV} (hx : bG 1 xs = true) : eF 1 xs (⟨49, 1, vs⟩ :: X) = some [⟨49, 1, vs⟩] := by
 unfold eF
 have e : (⟨49, 1, vs⟩ :: X : aA).take 1 = [⟨49, 1, vs⟩] := rfl
 have hb : bS 1 ([⟨49, 1, vs⟩] : aA) = true := by simp [bS, hV.below]
 rw [e, hx, hb]; rfl
theorem aCK {vs : List AV} {rows : List (List Int)} (hV : RowsV vs rows) {rv : AV} {rl : List Int} (hR : IsR rv rl) (hrl : rl.length ≤ 10) (hk : 8000 < k) (C : AV) (hC : aV 0 C = true) (n i : Nat) (m : Bool) : ∀ (suf pre acc : List Int) (av : AV) (f : Nat), rl = pre ++ suf → IsR av acc → acc.length + suf.length ≤ 6000 → suf.length < f →
  ∃ av', cC (aN.l12 G k 1 self) f [.rp false C 0, .sl 0 n 0 n 1, .bool m, Nn i, av, rv, Nn pre.length] [⟨49, 1, vs⟩] = some (.exit 4, [.rp false C 0, .sl 0 n 0 n 1, .bool m, Nn i, av', rv, Nn rl.length], [⟨49, 1, vs⟩]) ∧ IsR av' (iC suf acc)
 | suf, pre, acc, av, 0, _, _, _, h => by omega
 | suf, pre, acc, av, f + 1, he, ha, hal, hf => by
  have hC1 := eA (Nat.zero_le 1) hC
  have hc := xQ hV [] (xs := [.rp false C 0, .sl 0 n 0 n 1, .bool m, Nn i, av, rv, Nn pre.length]) (by simp [bG, ha.l.low, hR.l.low]; simp [aV, hC1])
  have lr := hR.l.len
  match suf, he, hal, hf with
  | [], he, hal, hf =>
   have ep : rl = pre := by rw [he]; simp
   subst ep
   refine ⟨av, ?_, ha⟩
   have g1 : bC Tryd.prog .lss 3 false (Nn rl.length) (Nn rl.length) = some (.bool false) := dR (by omega)
   rw [aR, aN.l12]
   refine eM ?_
   refine eC hc ?_
   clear hc hV ha hR
   generalize rl.length = pl at *
   have fx := aKI lr <| g1
   refine eH ?_
   refine fK ?_; rfl
  | y :: suf, he, hal, hf =>
   have hj : pre.length < rl.length := by rw [he]; simp
   have hy := aAC he hj
   have g1 : bC Tryd.prog .lss 3 false (Nn pre.length) (Nn rl.length) = some (.bool true) := dU (by omega)
   have q2 : bC Tryd.prog .add 3 true (Nn pre.length) (.int .i64 1) = some (Nn (pre.length + 1 : Nat)) := gR (by omega)
   obtain ⟨b3, i3⟩ := hR.l.at hj
   rw [hy] at i3
   have d3 := yS G b3 y
   have hpl := gS y acc
   simp only [List.length_cons] at hal hf
   have pp := fun H => iE G k ha.l y (by omega) (by omega) H
   obtain ⟨av', ih, ih2⟩ := aCK hV hR hrl hk C hC n i m suf (pre ++ [y]) (fE y acc) _ f (by rw [he]; simp) (.ro (fE y acc)) (by omega) (by omega)
   have el : (pre ++ [y]).length = pre.length + 1 := by simp
   rw [el] at ih
   refine ⟨av', ?_, ih2⟩
   rw [aR, aN.l12]
   refine eM ?_
   refine eC hc ?_
   clear hc hV ha hR he hy el ih2 hpl
   generalize I3.intsI (fE y acc) = pv at *
   generalize rl.length = rll at *
   have fx := aKI lr <| aKI g1 <| aKI i3 <| aKI d3 <| aKI pp <| q2
   refine eH ?_
   exact ih
theorem aBk (b' : Bool) (hg : ∀ w ∈ ws, w.Good R ws.length) (hn : ws.length ≤ 1000) (hR : R ≤ 900) (hk : 12000 < k) : ∀ (m : Nat) (rows : List (List Int)) (vs : List AV) (more : Bool) (f : Nat) (X : aA), m ≤ ws.length → RowsV vs rows → RowsOk R ws.length rows → m < f →
  ∃ vs', cC (aN.l4 G k 1 self) f [.rp false (cV b' ws R M) 0, .sl 0 ws.length 0 ws.length 1, .bool more, I6 ((m : Int) - 1)] (⟨49, 1, vs⟩ :: X) =
   some (.exit 2, [.rp false (cV b' ws R M) 0, .sl 0 ws.length 0 ws.length 1, .bool (uQ ws m (rows, more)).2, I6 (-1)], [⟨49, 1, vs'⟩]) ∧ RowsV vs' (uQ ws m (rows, more)).1 ∧ RowsOk R ws.length (uQ ws m (rows, more)).1
 | m, rows, vs, more, 0, X, _, _, _, h => by omega
 | m, rows, vs, more, f + 1, X, hm, hV, hO, hf => by
  have hC0 : aV 0 (cV b' ws R M) = true := by simp [cV, aV, bG, fH]
  have hC1 := eA (Nat.zero_le 1) hC0
  have hc := xQ hV X (xs := [.rp false (cV b' ws R M) 0, .sl 0 ws.length 0 ws.length 1, .bool more, I6 ((m : Int) - 1)]) (by simp [bG]; simp [aV, hC1])
  match m, hm, hf, hc with
  | 0, hm, hf, hc =>
   refine ⟨vs, ?_, hV, hO⟩
   have e : (((0 : Nat) : Int) - 1) = -1 := rfl
   rw [e] at hc ⊢
   have g1 : bC Tryd.prog .geq 3 true (I6 (-1)) (.int .i64 0) = some (.bool false) := jI (by omega)
   rw [aR, aN.l4]
   refine eM ?_
   refine eC hc ?_
   clear hc hV
   generalize cV b' ws R M = C at *
   have fx := g1
   refine eH ?_
   refine fK ?_; rfl
  | i + 1, hm, hf, hc =>
   have hi : i < ws.length := by omega
   have e : (((i + 1 : Nat) : Int) - 1) = (i : Int) := by omega
   rw [e] at hc ⊢
   have g1 : bC Tryd.prog .geq 3 true (Nn i) (.int .i64 0) = some (.bool true) := by rw [iI, decide_eq_true (by omega)]
   have q2 : bC Tryd.prog .sub 3 true (Nn i) (.int .i64 1) = some (I6 ((i : Int) - 1)) := by rw [kA, eG (by omega) (by omega)]
   have l0 : ∀ H, aH G true 3 (.rp false (cV b' ws R M) 0) H = some (cV b' ws R M) := fun H => rfl
   have f0 : aF 0 (.rp false (cV b' ws R M) 0) = some (.rp false (cV b' ws R M) 0) := rfl
   have lI : ∀ H, aH G false 1 (.rp false (cV b' ws R M) 0) H = some (.ro b' (cJ ws)) := fun H => rfl
   have ia := rG b' ws i hi
   obtain ⟨w, hw⟩ : ∃ w, w = ws.getD i default := ⟨_, rfl⟩
   rw [← hw] at ia
   have hmem : w ∈ ws := by rw [hw, List.getD_eq_getElem?_getD, List.getElem?_eq_getElem hi]; exact List.getElem_mem hi
   have li := fun H => wS G b' w H
   have hvl : vs.length = ws.length := by rw [hV.len, hO.len]
   obtain ⟨bv, hb1, hb2⟩ := tJ G (k - 1) hV true b' ws R M i hi hn hO.len (fun q => by have := hO.row q; omega) (by omega)
   rw [show k - 1 + 1 = k by omega] at hb1
   have sn : mQ [⟨49, 1, vs⟩] [cV b' ws R M, .sl 0 ws.length 0 ws.length 1, Nn i] = some [cV b' ws R M, .ro true vs, Nn i] := by
    refine aBu ?_ (aBu ?_ (aBu rfl aIk))
    ·exact xV (by simp [dK, bP, cV, jA])
    ·exact aHl (ty := 49) (xs := vs) rfl hvl hV.sz hV.plain
   have rb : aJ (aP.f G k) [cV b' ws R M, .sl 0 ws.length 0 ws.length 1, Nn i] [⟨49, 1, vs⟩] = some (bv, [⟨49, 1, vs⟩]) := aCD sn hb1 hb2.clean
   have hWr := nI G (k - 2) w
   rw [show k - 2 + 2 = k by omega] at hWr
   have rw_ : ∀ H, aJ (aY.f G k) [w.v] H = some (.tup [I6 (if (dD w.op).d = true then w.d else 0), .bool (dD w.op).d], H) := fun H => aZ (H := H) hWr rfl rfl
   obtain ⟨rv, hr1, hr2⟩ := uE G (k - 20) w
   rw [show k - 20 + 20 = k by omega] at hr1
   have rr : ∀ H, aJ (aS.f G k) [w.v] H = some (rv, H) := fun H => aZ (H := H) hr1 rfl hr2.clean
   have hrl := aER w
   have hbl : (lX ws rows i).length ≤ 4000 := by
    have h1 := nB rows (fun q => by have := hO.row q; omega) (nxP ws.length (ws.getD i default) i) []
    have h2 := vA ws.length (ws.getD i default) i
    unfold lX
    simp only [List.length_nil] at h1
    omega
   obtain ⟨old, ho1, ho2⟩ := hV.at_ i (by rw [hO.len]; exact hi)
   have ix : aM 1 (.sl 0 ws.length 0 ws.length 1) (Nn i) = some (.ptr 0 ws.length i 0) := jN hi
   have ldo := aKn G ho1 ho2
   rw [hvl] at ldo
   have lo := ho2.l.len
   have mid : ∃ bv2, IsR bv2 (if (dD w.op).d = true then iK w.d (lX ws rows i) else lX ws rows i) ∧ ((dD w.op).d = true → ∀ H, aJ (cA.f G k) [bv, I6 w.d] H = some (bv2, H)) ∧ ((dD w.op).d = false → bv2 = bv) := by
    cases hd : (dD w.op).d with
    | true =>
     refine ⟨.ro false (I3.intsI (iK w.d (lX ws rows i))), .ro _, (fun _ H => ?_), (fun h => by cases h)⟩
     have := aFQ G (k - 1) hb2.l w.d (by omega) (by omega)
     rw [show k - 1 + 1 = k by omega] at this
     exact aZ (H := H) this (by simp [dK, hb2.l.plain, bP]) (by simp [dV, I3.intsI_clean])
    | false => exact ⟨bv, hb2, (fun h => by cases h), (fun _ => rfl)⟩
   obtain ⟨bv2, m1, m2, m3⟩ := mid
   have hml : (if (dD w.op).d = true then iK w.d (lX ws rows i) else lX ws rows i).length ≤ 4000 := by
    split
    ·exact Nat.le_trans (List.length_filter_le _ _) hbl
    ·exact hbl
   obtain ⟨lv, lp, hl⟩ := aCK G k self hV hr2 (by omega) (by omega) (cV b' ws R M) hC0 ws.length i more (rdP w) [] _ bv2 k rfl m1 (by omega) (by omega)
   replace lp : cC (aN.l12 G k ([⟨49, 1, vs⟩] : aA).length self) k [.rp false (cV b' ws R M) 0, .sl 0 ws.length 0 ws.length 1, .bool more, Nn i, bv2, rv, .int .i64 0] [⟨49, 1, vs⟩] = _ := lp
   have hst : iC (rdP w) (if (dD w.op).d = true then iK w.d (lX ws rows i) else lX ws rows i) = gE ws rows i := by unfold gE; rw [hw]
   rw [hst] at hl
   have ll := hl.l.len
   have ss := aKo ho1 ho2 hl
   rw [hvl] at ss
   have hon : xC ws i (rows, more) = if (gE ws rows i).length = (rows.getD i []).length then (rows, more) else (rows.set i (gE ws rows i), true) := rfl
   by_cases heq : (gE ws rows i).length = (rows.getD i []).length
   ·have g2 : bC Tryd.prog .neq 3 false (Nn (gE ws rows i).length) (Nn (rows.getD i []).length) = some (.bool false) := iD (by omega)
    rw [if_pos heq] at hon
    obtain ⟨vs', ih, ih2, ih3⟩ := aBk b' hg hn hR hk i rows vs more f [] (by omega) hV hO (by omega)
    refine ⟨vs', ?_, by rw [uQ, hon]; exact ih2, by rw [uQ, hon]; exact ih3⟩
    rw [uQ, hon]
    rw [aR, aN.l4]
    refine eM ?_
    refine eC hc ?_
    clear hc hV hO ih2 ih3 hon heq hst hl m1 ho1 ho2 hb1 hb2 hr1 hr2 sn hWr hml hbl hw
    cases hd : (dD w.op).d with
    | true =>
     have m2' := m2 hd
     rw [hd] at rw_
     simp only [if_true] at rw_
     clear m2 m3
     generalize cV b' ws R M = C at *
     generalize cJ ws = WS at *
     generalize w.v = wv at *
     generalize [(⟨49, 1, vs⟩ : ABlk)] = H1 at *
     generalize (gE ws rows i).length = sl at *
     generalize (rows.getD i []).length = ol at *
     have fx := aKI g1 <| aKI l0 <| aKI rb <| aKI f0 <| aKI lI <| aKI ia <| aKI li <| aKI rw_ <| aKI m2' <| aKI rr <| aKI ll <| aKI ix <| aKI ldo <| aKI lo <| aKI g2 <| q2
     have lx1 := lp
     refine eH ?_
     exact ih
    | false =>
     have m3' := m3 hd
     subst m3'
     rw [hd] at rw_
     simp only [if_false, Bool.false_eq_true] at rw_
     clear m2 m3
     generalize cV b' ws R M = C at *
     generalize cJ ws = WS at *
     generalize w.v = wv at *
     generalize [(⟨49, 1, vs⟩ : ABlk)] = H1 at *
     generalize (gE ws rows i).length = sl at *
     generalize (rows.getD i []).length = ol at *
     have fx := aKI g1 <| aKI l0 <| aKI rb <| aKI f0 <| aKI lI <| aKI ia <| aKI li <| aKI rw_ <| aKI rr <| aKI ll <| aKI ix <| aKI ldo <| aKI lo <| aKI g2 <| q2
     have lx1 := lp
     refine eH ?_
     exact ih
   ·have g2 : bC Tryd.prog .neq 3 false (Nn (gE ws rows i).length) (Nn (rows.getD i []).length) = some (.bool true) := gW (by omega)
    rw [if_neg heq] at hon
    have hO2 := hO.set i (xY ws rows i) (tC hg hO hi)
    obtain ⟨vs', ih, ih2, ih3⟩ := aBk b' hg hn hR hk i (rows.set i (gE ws rows i)) (vs.set i lv) true f [] (by omega) (hV.set i hl) hO2 (by omega)
    refine ⟨vs', ?_, by rw [uQ, hon]; exact ih2, by rw [uQ, hon]; exact ih3⟩
    rw [uQ, hon]
    rw [aR, aN.l4]
    refine eM ?_
    refine eC hc ?_
    clear hc hV hO hO2 ih2 ih3 hon heq hst hl m1 ho1 ho2 hb1 hb2 hr1 hr2 sn hWr hml hbl hw
    cases hd : (dD w.op).d with
    | true =>
     have m2' := m2 hd
     rw [hd] at rw_
     simp only [if_true] at rw_
     clear m2 m3
     generalize cV b' ws R M = C at *
     generalize cJ ws = WS at *
     generalize w.v = wv at *
     generalize [(⟨49, 1, vs.set i lv⟩ : ABlk)] = H2 at *
     generalize [(⟨49, 1, vs⟩ : ABlk)] = H1 at *
     generalize (uQ ws i (rows.set i (gE ws rows i), true)).2 = gb at *
     generalize (gE ws rows i).length = sl at *
     generalize (rows.getD i []).length = ol at *
     have fx := aKI g1 <| aKI l0 <| aKI rb <| aKI f0 <| aKI lI <| aKI ia <| aKI li <| aKI rw_ <| aKI m2' <| aKI rr <| aKI ll <| aKI ix <| aKI ldo <| aKI lo <| aKI g2 <| aKI ss <| q2
     have lx1 := lp
     refine eH ?_
     exact ih
    | false =>
     have m3' := m3 hd
     subst m3'
     rw [hd] at rw_
     simp only [if_false, Bool.false_eq_true] at rw_
     clear m2 m3
     generalize cV b' ws R M = C at *
     generalize cJ ws = WS at *
     generalize w.v = wv at *
     generalize [(⟨49, 1, vs.set i lv⟩ : ABlk)] = H2 at *
     generalize [(⟨49, 1, vs⟩ : ABlk)] = H1 at *
     generalize (uQ ws i (rows.set i (gE ws rows i), true)).2 = gb at *
     generalize (gE ws rows i).length = sl at *
     generalize (rows.getD i []).length = ol at *
     have fx := aKI g1 <| aKI l0 <| aKI rb <| aKI f0 <| aKI lI <| aKI ia <| aKI li <| aKI rw_ <| aKI rr <| aKI ll <| aKI ix <| aKI ldo <| aKI lo <| aKI g2 <| aKI ss <| q2
     have lx1 := lp
     refine eH ?_
     exact ih
theorem aEQ (b' : Bool) (hg : ∀ w ∈ ws, w.Good R ws.length) (hn : ws.length ≤ 1000) (hR : R ≤ 900) (hk : 12000 < k) : ∀ (f : Nat) (rows : List (List Int)) (vs : List AV) (x : AV) (r : List (List Int)), RowsV vs rows → RowsOk R ws.length rows → aV 1 x = true → wR ws f rows = some r →
  ∃ vs' y, cC (aN.l2 G k 1 self) f [.rp false (cV b' ws R M) 0, x, .sl 0 ws.length 0 ws.length 1] [⟨49, 1, vs⟩] = some (.ret, [.rp false (cV b' ws R M) 0, .sl 0 ws.length 0 ws.length 1, y], [⟨49, 1, vs'⟩]) ∧ RowsV vs' r ∧ RowsOk R ws.length r
 | 0, rows, vs, x, r, _, _, _, h => by simp [wR] at h
 | f + 1, rows, vs, x, r, hV, hO, hx, h => by
  have hC0 : aV 0 (cV b' ws R M) = true := by simp [cV, aV, bG, fH]
  have hC1 := eA (Nat.zero_le 1) hC0
  have hc := xQ hV [] (xs := [.rp false (cV b' ws R M) 0, x, .sl 0 ws.length 0 ws.length 1]) (by simp [bG, hx]; simp [aV, hC1])
  have f0 : aF 0 (.rp false (cV b' ws R M) 0) = some (.rp false (cV b' ws R M) 0) := rfl
  have lI : ∀ H, aH G false 1 (.rp false (cV b' ws R M) 0) H = some (.ro b' (cJ ws)) := fun H => rfl
  have ln : cB (.ro b' (cJ ws)) = some (Nn ws.length) := by simp [cB, fY]
  have q2 : bC Tryd.prog .sub 3 true (Nn ws.length) (.int .i64 1) = some (I6 ((ws.length : Int) - 1)) := by rw [kA, eG (by omega) (by omega)]
  obtain ⟨vs1, lp, hV1, hO1⟩ := aBk G k self ws R M b' hg hn hR hk ws.length rows vs false k [] (Nat.le_refl _) hV hO (by omega)
  replace lp : cC (aN.l4 G k ([⟨49, 1, vs⟩] : aA).length self) k [.rp false (cV b' ws R M) 0, .sl 0 ws.length 0 ws.length 1, .bool false, I6 ((ws.length : Int) - 1)] [⟨49, 1, vs⟩] = _ := lp
  unfold wR at h
  cases hm : (uQ ws ws.length (rows, false)).2 with
  | true =>
   rw [hm] at lp
   rw [if_pos hm] at h
   obtain ⟨vs', y, ih, ih2, ih3⟩ := aEQ b' hg hn hR hk f _ vs1 .undef r hV1 hO1 rfl h
   refine ⟨vs', y, ?_, ih2, ih3⟩
   rw [aR, aN.l2]
   refine eM ?_
   refine eC hc ?_
   clear hc hV hO ih2 ih3 hV1 hO1 h hm
   generalize cV b' ws R M = C at *
   generalize cJ ws = WS at *
   generalize [(⟨49, 1, vs⟩ : ABlk)] = H1 at *
   generalize [(⟨49, 1, vs1⟩ : ABlk)] = H2 at *
   have fx := aKI f0 <| aKI lI <| aKI ln <| q2
   have lx1 := lp
   refine eH ?_
   exact ih
  | false =>
   rw [hm] at lp
   rw [if_neg (by rw [hm]; decide)] at h
   obtain rfl := Option.some.inj h
   refine ⟨vs1, .sl 0 ws.length 0 ws.length 1, ?_, hV1, hO1⟩
   rw [aR, aN.l2]
   refine eM ?_
   refine eC hc ?_
   clear hc hV hO hV1 hO1 hm
   generalize cV b' ws R M = C at *
   generalize cJ ws = WS at *
   generalize [(⟨49, 1, vs⟩ : ABlk)] = H1 at *
   generalize [(⟨49, 1, vs1⟩ : ABlk)] = H2 at *
   have fx := aKI f0 <| aKI lI <| aKI ln <| q2
   have lx1 := lp
   refine eH ?_
   refine fK ?_; rfl
theorem aFC (b' : Bool) (hg : ∀ w ∈ ws, w.Good R ws.length) (hn : ws.length ≤ 1000) (hR : R ≤ 900) (hk : 12000 < k) {r : List (List Int)} (h : wR ws k (List.replicate ws.length []) = some r) :
  ∃ vs, aN.f G (k + 1) [cV b' ws R M] [] = some (.ro false vs, []) ∧ RowsV vs r ∧ RowsOk R ws.length r := by
 have hV0 : RowsV (List.replicate ws.length .nils) (List.replicate ws.length []) := ⟨by simp, fun q hq => ⟨.nils, by rw [List.getElem?_replicate, if_pos (by simpa using hq)], by rw [List.getD_eq_getElem?_getD, List.getElem?_replicate, if_pos (by simpa using hq)]; exact .nil⟩⟩
 have e0 : ∀ q, (List.replicate ws.length ([] : List Int)).getD q [] = [] := fun q => by
  simp only [List.getD_eq_getElem?_getD, List.getElem?_replicate]
  split <;> rfl
 have hO0 : RowsOk R ws.length (List.replicate ws.length []) := ⟨by simp, fun q => by rw [e0]; exact .nil, fun q x hx => by rw [e0] at hx; cases hx⟩
 obtain ⟨vs, y, lp, hV, hO⟩ := aEQ G k (aN.f G k) ws R M b' hg hn hR hk k _ _ .nils r hV0 hO0 rfl h
 have mk_ : fR 49 1 .nils (Nn ws.length) (Nn ws.length) [] = some (.sl 0 ws.length 0 ws.length 1, [⟨49, 1, List.replicate ws.length .nils⟩]) := by
  unfold fR
  simp only [Int.toNat_natCast]
  rw [if_pos (by omega)]; rfl
 have b0 : ∀ H, eE (cV b' ws R M) H = some (.rp false (cV b' ws R M) 0, H) := fun H => rfl
 have f0 : aF 0 (.rp false (cV b' ws R M) 0) = some (.rp false (cV b' ws R M) 0) := rfl
 have lI : ∀ H, aH G false 1 (.rp false (cV b' ws R M) 0) H = some (.ro b' (cJ ws)) := fun H => rfl
 have ln : cB (.ro b' (cJ ws)) = some (Nn ws.length) := by simp [cB, fY]
 have hvl : vs.length = ws.length := by rw [hV.len, hO.len]
 have fin : cS [.sl 0 ws.length 0 ws.length 1] 0 [⟨49, 1, vs⟩] = some (.ret, [.ro false vs], []) := by
  have h4 := aGh (d := 5) (H := [⟨49, 1, vs⟩]) (b := 0) (n0 := 0) (n := ws.length) (sz := 1) (ty := 49) (xs := vs) rfl (Nat.le_refl 0) hvl hV.sz (hV.below 0)
  have := aAV h4 (by rfl)
  rw [this]; rfl
 refine ⟨vs, ?_, hV, hO⟩
 rw [aN.step]
 unfold aN.c
 refine fC ?_
 replace lp : cC (aN.l2 G k ([⟨49, 1, List.replicate ws.length .nils⟩] : aA).length (aN.f G k)) k [.rp false (cV b' ws R M) 0, .nils, .sl 0 ws.length 0 ws.length 1] [⟨49, 1, List.replicate ws.length .nils⟩] = _ := lp
 clear hV0 hO0 hV hO h e0 hvl
 generalize cV b' ws R M = C at *
 generalize cJ ws = WS at *
 generalize [(⟨49, 1, List.replicate ws.length .nils⟩ : ABlk)] = H1 at *
 have fx := aKI b0 <| aKI f0 <| aKI lI <| aKI ln <| mk_
 have lx1 := lp
 refine eH ?_
 exact oF fin
end
theorem yD {l : List Int} (h : l.Pairwise (· < ·)) : l.Nodup := h.imp (fun h => Int.ne_of_lt h)
theorem aCW : ∀ {l m : List Int}, l.Pairwise (· < ·) → m.Pairwise (· < ·) → (∀ x, x ∈ l ↔ x ∈ m) → l = m
 | [], [], _, _, _ => rfl
 | [], y :: m, _, _, h => absurd ((h y).2 (List.mem_cons_self ..)) (by simp)
 | x :: l, [], _, _, h => absurd ((h x).1 (List.mem_cons_self ..)) (by simp)
 | x :: l, y :: m, h1, h2, h => by
  rw [List.pairwise_cons] at h1 h2
  have e : x = y := by
   rcases List.mem_cons.1 ((h x).1 (List.mem_cons_self ..)) with e | e
   ·exact e
   ·rcases List.mem_cons.1 ((h y).2 (List.mem_cons_self ..)) with e2 | e2
    ·exact e2.symm
    ·have a := h2.1 x e
     have b := h1.1 y e2
     omega
  subst e
  have ih := aCW h1.2 h2.2 (fun z => by
   constructor
   ·intro hz
    rcases List.mem_cons.1 ((h z).1 (List.mem_cons_of_mem _ hz)) with e | e
    ·have := h1.1 z hz; omega
    ·exact e
   ·intro hz
    rcases List.mem_cons.1 ((h z).2 (List.mem_cons_of_mem _ hz)) with e | e
    ·have := h2.1 z hz; omega
    ·exact e)
  rw [ih]
theorem aEV {l m : List Int} (h1 : l.Nodup) (h : ∀ x ∈ l, x ∈ m) : l.length ≤ m.length := List.Nodup.length_le_of_subset h1 (fun x hx => h x hx)
theorem aHm {l m : List Int} (h1 : l.Nodup) (h2 : m.Nodup) (h : ∀ x ∈ l, x ∈ m) (hl : m.length ≤ l.length) : ∀ x ∈ m, x ∈ l := fun x hx => by
 by_cases e : x ∈ l
 ·exact e
 ·have hn : (x :: l).Nodup := List.nodup_cons.2 ⟨e, h1⟩
  have := aEV hn (m := m) (fun y hy => by
   rcases List.mem_cons.1 hy with rfl | hy
   ·exact hx
   ·exact h y hy)
  simp only [List.length_cons] at this
  omega
section
variable {ws : List WI} {R : Nat} (hg : ∀ w ∈ ws, w.Good R ws.length)
structure JInv (ws : List WI) (R : Nat) (rows : List (List Int)) : Prop where
 ok : RowsOk R ws.length rows
 sub : ∀ i, i < ws.length → ∀ x ∈ rows.getD i [], x ∈ gE ws rows i
 nd : ∀ i, i < ws.length → ∀ x ∈ rows.getD i [], NdW ws x.toNat i
theorem aAo {rows rows' : List (List Int)} (h : ∀ q, ∀ x ∈ rows.getD q [], x ∈ rows'.getD q []) (i : Nat) : ∀ x ∈ gE ws rows i, x ∈ gE ws rows' i := fun x hx => by
 rcases (jY ws rows i x).1 hx with hx | ⟨⟨q, h1, h2⟩, h3⟩
 ·exact (jY ws rows' i x).2 (.inl hx)
 ·exact (jY ws rows' i x).2 (.inr ⟨⟨q, h1, h _ x h2⟩, h3⟩)
include hg in
theorem aIl {rows : List (List Int)} (h : JInv ws R rows) {i : Nat} (hi : i < ws.length) : ∀ x ∈ gE ws rows i, NdW ws x.toNat i := fun x hx => by
 have hw : (ws.getD i default) ∈ ws := by rw [List.getD_eq_getElem?_getD, List.getElem?_eq_getElem hi]; exact List.getElem_mem hi
 have hr := tC hg h.ok hi x hx
 rcases (jY ws rows i x).1 hx with hx | ⟨⟨q, h1, h2⟩, h3⟩
 ·refine .rd hi (((jV hi (hg _ hw)).2.2.2.2 _).2 ?_)
  rw [Int.toNat_of_nonneg hr.1]; exact hx
 ·have hq := aDJ q h1
  refine .up (a := q.toNat) hi (((hU ws i).2.2.2.2 _).2 ⟨by omega, ?_⟩) (h.nd _ (by omega) x h2) ?_
  ·rw [Int.toNat_of_nonneg hq.1]
   have := (pK (by omega)).1 h1
   unfold sW at this
   exact (List.mem_filter.1 this).1
  ·unfold yG
   cases hd : (dD (ws.getD i default).op).d
   ·rfl
   ·simp only [Bool.true_and]
    refine decide_eq_false fun e => h3 ⟨hd, ?_⟩
    rw [e, Int.toNat_of_nonneg hr.1]
theorem aIj {rows : List (List Int)} (h : JInv ws R rows) {i : Nat} (hi : i < ws.length) : ∀ q, ∀ x ∈ rows.getD q [], x ∈ (rows.set i (gE ws rows i)).getD q [] := fun q x hx => by
 by_cases e : i = q
 ·subst e
  rw [List.getD_eq_getElem?_getD, List.getElem?_set_self (by rw [h.ok.len]; exact hi)]
  exact h.sub i hi x hx
 ·rw [List.getD_eq_getElem?_getD, List.getElem?_set_ne e, ← List.getD_eq_getElem?_getD]
  exact hx
include hg in
theorem aHY {s : List (List Int) × Bool} (h : JInv ws R s.1) {i : Nat} (hi : i < ws.length) : JInv ws R (xC ws i s).1 := by
 have hok := aHX hg h.ok hi
 unfold xC at hok ⊢
 split
 ·exact h
 ·rename_i hne
  rw [if_neg hne] at hok
  have hs := aIj h hi
  have eqi : (s.1.set i (gE ws s.1 i)).getD i [] = gE ws s.1 i := by
   rw [List.getD_eq_getElem?_getD, List.getElem?_set_self (by rw [h.ok.len]; exact hi)]; rfl
  have eqj : ∀ j, i ≠ j → (s.1.set i (gE ws s.1 i)).getD j [] = s.1.getD j [] := fun j e => by
   rw [List.getD_eq_getElem?_getD, List.getElem?_set_ne e, ← List.getD_eq_getElem?_getD]
  refine ⟨hok, fun j hj x hx => ?_, fun j hj x hx => ?_⟩
  ·by_cases e : i = j
   ·subst e
    rw [eqi] at hx
    exact aAo hs i x hx
   ·rw [eqj j e] at hx
    exact aAo hs j x (h.sub j hj x hx)
  ·by_cases e : i = j
   ·subst e
    rw [eqi] at hx
    exact aIl hg h hi x hx
   ·rw [eqj j e] at hx
    exact h.nd j hj x hx
def sF (rows : List (List Int)) : Nat := (rows.map List.length).sum
theorem aEX : ∀ (rows : List (List Int)) (i : Nat) (l : List Int), i < rows.length → sF (rows.set i l) + (rows.getD i []).length = sF rows + l.length
 | [], i, l, h => by simp at h
 | r :: rows, 0, l, _ => by simp [sF]; omega
 | r :: rows, i + 1, l, h => by
  have := aEX rows i l (by simpa using h)
  simp only [sF, List.set_cons_succ, List.map_cons, List.sum_cons, List.getD_cons_succ] at this ⊢
  omega
theorem aHo {R : Nat} : ∀ (rows : List (List Int)), (∀ l ∈ rows, l.length ≤ R) → sF rows ≤ rows.length * R
 | [], _ => by simp [sF]
 | r :: rows, h => by
  have h1 := aHo rows (fun l hl => h l (List.mem_cons_of_mem _ hl))
  have h2 := h r (List.mem_cons_self ..)
  simp only [sF, List.map_cons, List.sum_cons, List.length_cons] at h1 ⊢
  rw [Nat.succ_mul]
  omega
theorem aHZ {s : List (List Int) × Bool} (h : JInv ws R s.1) {i : Nat} (hi : i < ws.length) : xC ws i s = s ∧ (gE ws s.1 i).length = (s.1.getD i []).length ∨ (xC ws i s).2 = true ∧ sF s.1 < sF (xC ws i s).1 := by
 unfold xC
 by_cases e : (gE ws s.1 i).length = (s.1.getD i []).length
 ·rw [if_pos e]; exact .inl ⟨rfl, e⟩
 ·rw [if_neg e]
  refine .inr ⟨rfl, ?_⟩
  have h1 := aEX s.1 i (gE ws s.1 i) (by rw [h.ok.len]; exact hi)
  have h2 := aEV (yD (h.ok.up i)) (h.sub i hi)
  simp only
  omega
include hg in
theorem aGn : ∀ (m : Nat) (s : List (List Int) × Bool), m ≤ ws.length → JInv ws R s.1 → JInv ws R (uQ ws m s).1 ∧ (s.2 = true → (uQ ws m s).2 = true) ∧ sF s.1 ≤ sF (uQ ws m s).1 ∧
  ((uQ ws m s).2 = true → s.2 = true ∨ sF s.1 < sF (uQ ws m s).1) ∧ ((uQ ws m s).2 = false → (uQ ws m s).1 = s.1 ∧ ∀ i, i < m → (gE ws s.1 i).length = (s.1.getD i []).length)
 | 0, s, _, h => ⟨h, id, Nat.le_refl _, fun e => .inl e, fun _ => ⟨rfl, fun i hi => by omega⟩⟩
 | m + 1, s, hm, h => by
  have h1 := aHY hg h (i := m) (by omega)
  obtain ⟨a1, a2, a3, a4, a5⟩ := aGn m (xC ws m s) (by omega) h1
  rw [uQ]
  rcases aHZ h (i := m) (by omega) with ⟨e1, e2⟩ | ⟨e1, e2⟩
  ·rw [e1] at a1 a2 a3 a4 a5 ⊢
   refine ⟨a1, a2, a3, a4, fun q => ⟨(a5 q).1, fun i hi => ?_⟩⟩
   by_cases e : i = m
   ·subst e; exact e2
   ·exact (a5 q).2 i (by omega)
  ·have a2' := a2 e1
   refine ⟨a1, fun _ => a2', by omega, fun _ => .inr (by omega), fun q => by rw [a2'] at q; cases q⟩
def aAs (ws : List WI) (rows : List (List Int)) : Prop := ∀ i, i < ws.length → ∀ x ∈ gE ws rows i, x ∈ rows.getD i []
include hg in
theorem zY : ∀ (f : Nat) (rows : List (List Int)), JInv ws R rows → ws.length * R < sF rows + f → ∃ r, wR ws f rows = some r ∧ JInv ws R r ∧ aAs ws r
 | 0, rows, h, hf => by
  have := aHo rows (R := R) (fun l hl => by
   obtain ⟨q, hq⟩ := List.mem_iff_getElem?.1 hl
   have := h.ok.row q
   rw [List.getD_eq_getElem?_getD, hq] at this
   exact this)
  rw [h.ok.len] at this
  omega
 | f + 1, rows, h, hf => by
  obtain ⟨a1, a2, a3, a4, a5⟩ := aGn hg ws.length (rows, false) (Nat.le_refl _) h
  unfold wR
  by_cases e : (uQ ws ws.length (rows, false)).2 = true
  ·rw [if_pos e]
   rcases a4 e with q | q
   ·cases q
   ·exact zY f _ a1 (by simp only at q; omega)
  ·rw [if_neg e]
   rw [Bool.not_eq_true] at e
   obtain ⟨b1, b2⟩ := a5 e
   refine ⟨_, rfl, a1, fun i hi => ?_⟩
   rw [b1]
   simp only at b2 ⊢
   exact aHm (yD (h.ok.up i)) (yD (xY ws rows i)) (h.sub i hi) (by rw [b2 i hi]; exact Nat.le_refl _)
include hg in
theorem aFk {r : List (List Int)} (hc : aAs ws r) {x p : Nat} (h : NdW ws x p) : (x : Int) ∈ r.getD p [] := by
 have hx : ∀ p, Nd ws.length (nP ws) (kL ws) (yG ws) x p → (x : Int) ∈ r.getD p [] := fun p h => by
  induction h with
  | rd hk hr =>
   rename_i k
   have hw : (ws.getD k default) ∈ ws := by rw [List.getD_eq_getElem?_getD, List.getElem?_eq_getElem hk]; exact List.getElem_mem hk
   exact hc k hk _ ((jY ws r k x).2 (.inl (((jV hk (hg _ hw)).2.2.2.2 _).1 hr)))
  | up hk hn _ hw ih =>
   rename_i k a h3
   obtain ⟨n1, n2⟩ := ((hU ws k).2.2.2.2 a).1 hn
   refine hc k hk _ ((jY ws r k x).2 (.inr ⟨⟨(a : Int), (pK (by omega)).2 ?_, by rw [Int.toNat_natCast]; exact ih⟩, fun ⟨d1, d2⟩ => ?_⟩))
   ·unfold sW
    rw [List.mem_filter]
    exact ⟨n2, by simp [n1]⟩
   ·unfold yG at hw
    rw [d1, ← d2] at hw
    simp at hw
 exact hx p h
include hg in
theorem aFH {r : List (List Int)} (hJ : JInv ws R r) (hc : aAs ws r) {out : List (List Nat)} (hP : Part ws.length (nP ws) (kL ws) (yG ws) R out) {p : Nat} (hp : p < ws.length) : r.getD p [] = (out.getD p []).map fun q : Nat => (q : Int) := by
 refine aCW (hJ.ok.up p) ?_ fun x => ?_
 ·rw [List.pairwise_map]
  exact (hP.up p).imp (fun h => by omega)
 ·rw [List.mem_map]
  constructor
  ·intro hx
   have hr := hJ.ok.rng p x hx
   exact ⟨x.toNat, (hP.mem p hp _).2 ⟨by omega, hJ.nd p hp x hx⟩, Int.toNat_of_nonneg hr.1⟩
  ·rintro ⟨q, hq, rfl⟩
   exact aFk hg hc ((hP.mem p hp q).1 hq).2
theorem aIR : JInv ws R (List.replicate ws.length []) := by
 have e0 : ∀ q, (List.replicate ws.length ([] : List Int)).getD q [] = [] := fun q => by
  simp only [List.getD_eq_getElem?_getD, List.getElem?_replicate]
  split <;> rfl
 exact ⟨⟨by simp, fun q => by rw [e0]; exact .nil, (fun q x hx => by rw [e0] at hx; cases hx)⟩, (fun i _ x hx => by rw [e0] at hx; cases hx), (fun i _ x hx => by rw [e0] at hx; cases hx)⟩
end
end Go.Proofs.YtlkgkfgkiidhdaaDoor.Mir
