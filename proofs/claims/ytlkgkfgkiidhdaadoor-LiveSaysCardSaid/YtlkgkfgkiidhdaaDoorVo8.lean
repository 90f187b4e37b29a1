/- Part 8 of the proof: what these functions do. -/
import Derived.Test.YtlkgkfgkiidhdaaDoorVo7
import Derived.KernelRfl
namespace Go.Proofs.YtlkgkfgkiidhdaaDoor.Mir
open Go
set_option linter.unusedSimpArgs false
set_option linter.unusedVariables false
set_option maxHeartbeats 8000000
set_option maxRecDepth 20000
def nX (l : List Int) : List Int := (I3.cpF (I3.inI 0 (l.length - 1) 1 l)).2.take (I3.cpF (I3.inI 0 (l.length - 1) 1 l)).1
theorem pO {l : List Int} (h : l.length ≤ 3) : (nX l).Pairwise (· < ·) ∧ ∀ x, x ∈ nX l ↔ x ∈ l := by
 obtain ⟨h1, h2⟩ := I3.inI_sorted l h
 obtain ⟨h3, h4⟩ := I3.cpF_sorted _ (by rw [I3.inI_len]; exact h) h1
 exact ⟨h3, fun x => (h4 x).trans (h2 x)⟩
section
variable (G : aC) (k : Nat) {H : aA} {p n : Nat} (hS : SB H p)
theorem aAn (hS : SB H p) (l : List Int) (hl : l.length = n) (hn : n ≤ 3) (hk : n < k) : ∃ (m : Nat) (l4 l5 : List Int),
  dG (aX.f G (k + 5)) [dS p n] (I3.TO H p l) = some (.tup [], I3.TO H p l4) ∧
  dG (aB.f G (k + 5)) [dS p n] (I3.TO H p l4) = some (.sl p n 0 m 1, I3.TO H p l5) ∧ l5.length = n ∧ m ≤ n ∧ l5.take m = nX l := by
 have w := I3.few_spec G k hS hn hk l hl
 obtain ⟨c1, c2, c3⟩ := I3.cpt_spec G (k + 4) hS (n := n) (by omega) (by omega) (I3.inI 0 (n - 1) 1 l) (by rw [I3.inI_len]; exact hl)
 refine ⟨_, _, _, w, c1, c3, c2, ?_⟩
 unfold nX
 rw [hl]
theorem aGg (l : List Int) (m : Nat) (h1 : H.length = 2) (hp : p = 1) (hb : (I3.TO H p l)[1]? = some ⟨3, 1, I3.intsI l⟩) (hl : l.length = n) :
  cS [.sl p n 0 m 1] 0 (I3.TO H p l) = some (.ret, [.ro false (I3.intsI (l.take m))], []) := by
 subst hp
 have h1 : aV 0 (.sl 1 n 0 m 1) = false := by simp [aV]
 have h3 : fN (.sl 1 n 0 m 1) (I3.TO H 1 l) = some (I3.intsI (l.take m)) := by
  simp only [fN, hb, I3.intsI_len, hl, if_true, List.drop_zero]
  unfold I3.intsI; rw [List.map_take]
 have h2 : nG (nM (lO (I3.TO H 1 l) 0 5)) (I3.intsI (l.take m)) = some (I3.intsI (l.take m)) := mM fun x h => pF (jS (I3.intsI_below 0 _) x h)
 have h4 : lO (I3.TO H 1 l) 0 6 (.sl 1 n 0 m 1) = some (.ro false (I3.intsI (l.take m))) := by
  unfold lO
  simp only [h1, h3, I3.intsI_sz, h2]
 have := aAV h4 (by rfl)
 rw [this]; rfl
theorem aIq (hS : SB H p) (l : List Int) (x : Int) (hl : l.length ≤ 100) : eQ 3 1 (.sl p l.length 0 l.length 1) (.ro false [I6 x]) (I3.TO H p l) = some (.sl p (l ++ [x]).length 0 (l ++ [x]).length 1, I3.TO H p (l ++ [x])) := by
 have e := I3.TO_p hS.hp l
 have e2 : fN (.ro false [I6 x]) (I3.TO H p l) = some [I6 x] := rfl
 unfold eQ
 simp only [e, e2, I3.intsI_len]
 rw [if_pos (by refine ⟨?_, ?_, ?_, ?_, ?_⟩ <;> first | trivial | rfl | (show l.length + 1 ≤ _; omega))]
 have e2 : (I3.intsI l).take l.length = I3.intsI l := List.take_of_length_le (by rw [I3.intsI_len]; exact Nat.le_refl _)
 have e3 : (I3.intsI l).drop (l.length + [I6 x].length) = [] := List.drop_of_length_le (by rw [I3.intsI_len]; exact Nat.le_add_right _ _)
 have e4 : I3.intsI l ++ [I6 x] = I3.intsI (l ++ [x]) := by simp [I3.intsI]
 rw [e2, e3, List.append_nil, e4, I3.intsI_len, I3.TO_set]
 simp
end
def rdF (w : WI) : List Int := (if (dD w.op).a = true then [w.a] else []) ++ ((if (dD w.op).b = true then [w.b] else []) ++ (if (dD w.op).c = true then [w.c] else []))
def sJ (w : WI) (f : Frm) (j : Nat) (l : List Int) : List Int := if fgR f j = true then l ++ [rgR w j] else l
theorem aIc (w : WI) : sJ w (dD w.op) 2 (sJ w (dD w.op) 1 (sJ w (dD w.op) 0 [])) = rdF w := by
 unfold sJ rdF fgR rgR
 simp only [if_true, Nat.reduceEqDiff, if_false, Nat.one_ne_zero]
 cases (dD w.op).a <;> cases (dD w.op).b <;> cases (dD w.op).c <;> rfl
theorem aBl (w : WI) : (rdF w).length ≤ 3 := by
 unfold rdF
 simp only [List.length_append]
 repeat' split
 all_goals simp
section
variable (G : aC) (k : Nat) (self : cK) (w : WI) (f : Frm)
theorem vL (j : Nat) (hj : j < 3) (l : List Int) (hl : l.length ≤ 100) (n : Nat) :
  cC (cD.l4 G k 2 self) (n + 1) (qP w f l.length j) (I3.TO (H0R w f) 1 l) = cC (cD.l4 G k 2 self) n (qP w f (sJ w f j l).length (j + 1)) (I3.TO (H0R w f) 1 (sJ w f j l)) := by
 have hc : eF 2 (qP w f l.length j) (I3.TO (H0R w f) 1 l) = some (I3.TO (H0R w f) 1 l) := I3.TO_cut (aIi w f).hb l _ (yM w f _ _)
 have g1 : bC Tryd.prog .lss 3 false (Nn j) (.int .i64 3) = some (.bool true) := dU (by omega)
 have q2 : bC Tryd.prog .add 3 true (Nn j) (.int .i64 1) = some (Nn (j + 1 : Nat)) := gR (by omega)
 have hb : ∃ b, fgR f j = b := ⟨_, rfl⟩
 obtain ⟨b, hb⟩ := hb
 have d1 : aM 1 (flR f) (Nn j) = some (.rp false (.bool b) 0) := by
  rw [← hb]
  have : j = 0 ∨ j = 1 ∨ j = 2 := by omega
  rcases this with rfl | rfl | rfl <;> rfl
 have l1 : ∀ H, aH G false 1 (.rp false (.bool b) 0) H = some (.bool b) := fun H => rfl
 have f2 := gi2 w
 have f3 := gi3 w
 have f4 := gi4 w
 have v2 := aIQ G w
 have v3 := gl3 G w
 have v4 := aKb G w
 have br : ∀ H, dN 1 3 (.int .i64 0) [(0, I6 w.a), (1, I6 w.b), (2, I6 w.c)] H = some (.ro false [I6 w.a, I6 w.b, I6 w.c], H) := fun H => rfl
 have d2 : aM 1 (.ro false [I6 w.a, I6 w.b, I6 w.c]) (Nn j) = some (.rp false (I6 (rgR w j)) 0) := by
  have : j = 0 ∨ j = 1 ∨ j = 2 := by omega
  rcases this with rfl | rfl | rfl <;> rfl
 have l2 : ∀ H, aH G false 1 (.rp false (I6 (rgR w j)) 0) H = some (I6 (rgR w j)) := fun H => rfl
 have b2 : ∀ H, dN 1 1 (.int .i64 0) [(0, I6 (rgR w j))] H = some (.ro false [I6 (rgR w j)], H) := fun H => rfl
 unfold sJ
 rw [hb]
 generalize hrr : cC (cD.l4 G k 2 self) n (qP w f (if b = true then l ++ [rgR w j] else l).length (j + 1)) (I3.TO (H0R w f) 1 (if b = true then l ++ [rgR w j] else l)) = rr
 rw [aR, cD.l4]
 refine eM ?_
 refine eC hc ?_
 cases b with
 | true =>
  have a1 := aIq (aIi w f) l (rgR w j) hl
  rw [if_pos rfl] at hrr
  generalize l ++ [rgR w j] = l' at *
  unfold qP at hrr ⊢
  generalize flR f = fl at *
  generalize rgR w j = rj at *
  generalize w.v = wv at *
  have fx := aKI g1 <| aKI q2 <| aKI d1 <| aKI l1 <| aKI f2 <| aKI f3 <| aKI f4 <| aKI v2 <| aKI v3 <| aKI v4 <| aKI br <| aKI d2 <| aKI l2 <| aKI b2 <| a1
  refine eH ?_
  exact hrr
 | false =>
  rw [if_neg (by decide)] at hrr
  unfold qP at hrr ⊢
  generalize flR f = fl at *
  have fx := aKI g1 <| aKI q2 <| aKI d1 <| l1
  refine eH ?_
  exact hrr
theorem aIT (l : List Int) (n : Nat) :
  cC (cD.l4 G k 2 self) (n + 1) (qP w f l.length 3) (I3.TO (H0R w f) 1 l) = some (.exit 0, qP w f l.length 3, I3.TO (H0R w f) 1 l) := by
 have hc : eF 2 (qP w f l.length 3) (I3.TO (H0R w f) 1 l) = some (I3.TO (H0R w f) 1 l) := I3.TO_cut (aIi w f).hb l _ (yM w f _ _)
 have g1 : bC Tryd.prog .lss 3 false (Nn 3) (.int .i64 3) = some (.bool false) := dR (by omega)
 rw [aR, cD.l4]
 refine eM ?_
 refine eC hc ?_
 unfold qP
 have fx := g1
 refine eH ?_
 refine fK ?_; rfl
theorem aBM (j : Nat) (l : List Int) : (sJ w f j l).length ≤ l.length + 1 := by unfold sJ; split <;> simp
theorem tI (hk : 10 ≤ k) : cD.f G (k + 20) [w.v] [] = some (.ro false (I3.intsI (nX (rdF w))), []) := by
 obtain ⟨F, hF⟩ : ∃ F, dD w.op = F := ⟨_, rfl⟩
 have hl3 := aBl w
 obtain ⟨l3, e3⟩ : ∃ l, l = rdF w := ⟨_, rfl⟩
 rw [← e3] at hl3
 have e3' := aIc w
 rw [← e3] at e3'
 rw [hF] at e3'
 rw [← e3]
 have lp : cC (cD.l4 G (k + 19) 2 (cD.f G (k + 19))) (k + 19) (qP w F 0 0) (H0R w F) = some (.exit 0, qP w F l3.length 3, I3.TO (H0R w F) 1 l3) := by
  have h1 := aBM w F 0 []
  have h2 := aBM w F 1 (sJ w F 0 [])
  simp only [List.length_nil] at h1
  have r1 := vL G (k + 19) (cD.f G (k + 19)) w F 0 (by omega) [] (by decide) (k + 18)
  have r2 := vL G (k + 19) (cD.f G (k + 19)) w F 1 (by omega) (sJ w F 0 []) (by omega) (k + 17)
  have r3 := vL G (k + 19) (cD.f G (k + 19)) w F 2 (by omega) (sJ w F 1 (sJ w F 0 [])) (by omega) (k + 16)
  have r4 := aIT G (k + 19) (cD.f G (k + 19)) w F l3 (k + 15)
  rw [← e3'] at r4 ⊢
  exact r1.trans (r2.trans (r3.trans r4))
 obtain ⟨m, l4, l5, s4, s5, k5, m5, hset⟩ := aAn G (k + 14) (aIi w F) l3 rfl hl3 (by omega)
 rw [cD.step]
 unfold cD.c
 have r0 : ∀ H, aJ (dX.f G (k + 19)) [I6 w.op] H = _ := fun H => aZ (H := H) (tE G (k + 15) w.op) rfl rfl
 rw [hF] at r0
 have b0 := aIo w
 have f0 := gi0 w
 have v0 := aEZ G w
 have b1 : gD 100 (.agg [(.str ⟨#[]⟩), (.bool false), (.bool false), (.bool false), (.bool false), (.bool false)]) [] = some (.ptr 0 1 0 0, [⟨100, 6, [(.agg [(.str ⟨#[]⟩), (.bool false), (.bool false), (.bool false), (.bool false), (.bool false)])]⟩]) := rfl
 have st : hX (cH 6 (.ptr 0 1 0 0) (gB (dM w.op) F) [⟨100, 6, [(.agg [(.str ⟨#[]⟩), (.bool false), (.bool false), (.bool false), (.bool false), (.bool false)])]⟩]) = some (.tup [], [⟨100, 6, [gB (dM w.op) F]⟩]) := rfl
 have f2 : aF 2 (.ptr 0 1 0 0) = some (.ptr 0 1 0 2) := rfl
 have f3 : aF 3 (.ptr 0 1 0 0) = some (.ptr 0 1 0 3) := rfl
 have f4 : aF 4 (.ptr 0 1 0 0) = some (.ptr 0 1 0 4) := rfl
 have v2 : aH G false 1 (.ptr 0 1 0 2) ([⟨100, 6, [gB (dM w.op) F]⟩] ++ [⟨3, 1, []⟩]) = some (.bool F.a) := rfl
 have v3 : aH G false 1 (.ptr 0 1 0 3) ([⟨100, 6, [gB (dM w.op) F]⟩] ++ [⟨3, 1, []⟩]) = some (.bool F.b) := rfl
 have v4 : aH G false 1 (.ptr 0 1 0 4) ([⟨100, 6, [gB (dM w.op) F]⟩] ++ [⟨3, 1, []⟩]) = some (.bool F.c) := rfl
 have br : ∀ H, dN 1 3 (.bool false) [(0, .bool F.a), (1, .bool F.b), (2, .bool F.c)] H = some (flR F, H) := fun H => rfl
 have ln : cB (flR F) = some (.int .i64 3) := rfl
 have fin : cS [.sl 1 l3.length 0 m 1] 0 (I3.TO (H0R w F) 1 l5) = some (.ret, [.ro false (I3.intsI (l5.take m))], []) := aGg l5 m rfl rfl rfl k5
 rw [hset] at fin
 unfold qP at lp
 have lp' : cC (cD.l4 G (k + 19) (List.length (([⟨100, 6, [gB (dM w.op) F]⟩] ++ [⟨3, 1, []⟩]) : aA)) (cD.f G (k + 19))) (k + 19) [.rp false w.v 0, .sl (List.length [(⟨100, 6, [gB (dM w.op) F]⟩ : ABlk)]) 0 0 0 1, flR F, .int .i64 3, .int .i64 0] ([⟨100, 6, [gB (dM w.op) F]⟩] ++ [⟨3, 1, []⟩]) = some (.exit 0, [.rp false w.v 0, .sl 1 l3.length 0 l3.length 1, flR F, .int .i64 3, Nn 3], I3.TO (H0R w F) 1 l3) := lp
 clear lp
 unfold dS at s4 s5
 generalize w.v = wv at *
 generalize gB (dM w.op) F = fv at *
 generalize flR F = fl at *
 generalize H0R w F = HR at *
 generalize nX l3 = sl at *
 refine fC ?_
 have fx := aKI r0 <| aKI b0 <| aKI f0 <| aKI v0 <| aKI b1 <| aKI st <| aKI f2 <| aKI f3 <| aKI f4 <| aKI v2 <| aKI v3 <| aKI v4 <| aKI br <| aKI ln <| aKI s4 <| s5
 have lx1 := lp'
 refine eH ?_
 exact oF fin
end
def nL (w : WI) (at_ : Int) : List Int := if w.op = 20 then [] else if w.op = 17 then [w.k] else if w.op = 18 ∨ w.op = 19 then [at_ + 1, w.k] else [at_ + 1]
def sW (n : Nat) (w : WI) (at_ : Int) : List Int := (nL w at_).filter fun x => decide (0 ≤ x) && decide (x < n)
theorem zM (w : WI) (at_ : Int) : (nL w at_).length ≤ 2 := by
 unfold nL
 repeat' split
 all_goals simp
theorem aBg (n : Nat) (w : WI) (at_ : Int) : (sW n w at_).length ≤ 2 := Nat.le_trans (List.length_filter_le _ _) (zM w at_)
def mD (l : List Int) : AV := match l with | [] => .nils | l => .ro false (I3.intsI l)
def H0N (w : WI) : aA := [⟨29, 6, [w.v]⟩, ⟨3, 1, []⟩]
theorem aIh (w : WI) : SB (H0N w) 1 := ⟨by show 1 < 2; decide, by simp [H0N, bS, bG, aV, WI.v]⟩
def xsN (cv : AV) (R M : Int) (n : Nat) (l : List Int) (j : Nat) : List AV := [.rp false (.agg [cv, I6 R, I6 M]) 0, .sl 1 n 0 n 1, mD l, Nn l.length, Nn j]
section
variable (G : aC) (k : Nat) (self : cK) (w : WI) (cv : AV) (R M : Int) (hcv : aV 0 cv = true) (N : Nat) (hln : cB cv = some (Nn N))
include hcv in
theorem aAr (n : Nat) (l : List Int) (j : Nat) : bG 2 (xsN cv R M n l j) = true := by
 have h0 := eA (Nat.zero_le 2) hcv
 have : aV 2 (mD l) = true := by
  unfold mD
  split
  ·rfl
  ·simp [aV, I3.intsI_below]
 simp [xsN, bG, aV, h0, this]
include hcv hln in
theorem aAu (c : List Int) (j : Nat) (x : Int) (hx : c[j]? = some x) (hj : j < 100) (hcl : c.length ≤ 100) (l : List Int) (hl : l.length ≤ 100) (n : Nat) :
  cC (cG.l15 G k 2 self) (n + 1) (xsN cv R M l.length c j) (I3.TO (H0N w) 1 l) =
   cC (cG.l15 G k 2 self) n (xsN cv R M (if (decide (0 ≤ x) && decide (x < N)) = true then l ++ [x] else l).length c (j + 1)) (I3.TO (H0N w) 1 (if (decide (0 ≤ x) && decide (x < N)) = true then l ++ [x] else l)) := by
 have hjc : j < c.length := (List.getElem?_eq_some_iff.1 hx).1
 have hc : eF 2 (xsN cv R M l.length c j) (I3.TO (H0N w) 1 l) = some (I3.TO (H0N w) 1 l) := I3.TO_cut (aIh w).hb l _ (aAr cv R M hcv _ _ _)
 have g1 : bC Tryd.prog .lss 3 false (Nn j) (Nn c.length) = some (.bool true) := dU (by omega)
 have q2 : bC Tryd.prog .add 3 true (Nn j) (.int .i64 1) = some (Nn (j + 1 : Nat)) := gR (by omega)
 have hV : mD c = .ro false (I3.intsI c) := by
  unfold mD
  cases c with
  | nil => simp at hjc
  | cons y c => rfl
 have d1 : aM 1 (mD c) (Nn j) = some (.rp false (I6 x) 0) := by
  rw [hV]
  unfold aM
  have h0 : (0 : Int) ≤ (j : Int) := by omega
  have e := I3.intsI_get c j hjc
  rw [List.getD_eq_getElem?_getD, hx] at e
  simp only [h0, if_true, Int.toNat_natCast, e]
  rfl
 have l1 : ∀ H, aH G false 1 (.rp false (I6 x) 0) H = some (I6 x) := fun H => rfl
 have g2 : bC Tryd.prog .geq 2 true (I6 x) (.int .i64 0) = some (.bool (decide (0 ≤ x))) := by
  by_cases h : 0 ≤ x
  ·rw [decide_eq_true h]; exact vC h
  ·rw [decide_eq_false h]; exact jI (by omega)
 have f0 : aF 0 (.rp false (.agg [cv, I6 R, I6 M]) 0) = some (.rp false (.agg [cv, I6 R, I6 M]) 0) := rfl
 have l0 : ∀ H, aH G false 1 (.rp false (.agg [cv, I6 R, I6 M]) 0) H = some cv := fun H => rfl
 have g3 : bC Tryd.prog .lss 2 false (I6 x) (Nn N) = some (.bool (decide (x < N))) := jZ ..
 have b2 : ∀ H, dN 1 1 (.int .i64 0) [(0, I6 x)] H = some (.ro false [I6 x], H) := fun H => rfl
 have a1 := aIq (aIh w) l x hl
 generalize hrr : cC (cG.l15 G k 2 self) n (xsN cv R M (if (decide (0 ≤ x) && decide (x < N)) = true then l ++ [x] else l).length c (j + 1)) (I3.TO (H0N w) 1 (if (decide (0 ≤ x) && decide (x < N)) = true then l ++ [x] else l)) = rr
 rw [aR, cG.l15]
 refine eM ?_
 refine eC hc ?_
 unfold xsN at hrr ⊢
 clear hx hV hc
 generalize H0N w = HN at *
 generalize mD c = cc at *
 generalize decide (0 ≤ x) = p1 at *
 generalize decide (x < (N : Int)) = p2 at *
 generalize l ++ [x] = l' at *
 cases p1 with
 | false =>
  simp only [Bool.false_and, Bool.false_eq_true, if_false] at hrr
  have fx := aKI g1 <| aKI q2 <| aKI d1 <| aKI l1 <| g2
  refine eH ?_
  exact hrr
 | true =>
  cases p2 with
  | false =>
   simp only [Bool.and_false, Bool.false_eq_true, if_false] at hrr
   have fx := aKI g1 <| aKI q2 <| aKI d1 <| aKI l1 <| aKI g2 <| aKI f0 <| aKI l0 <| aKI hln <| g3
   refine eH ?_
   exact hrr
  | true =>
   simp only [Bool.and_self, if_true] at hrr
   have fx := aKI g1 <| aKI q2 <| aKI d1 <| aKI l1 <| aKI g2 <| aKI f0 <| aKI l0 <| aKI hln <| aKI g3 <| aKI b2 <| a1
   refine eH ?_
   exact hrr
include hcv in
theorem aFS (c l : List Int) (n : Nat) :
  cC (cG.l15 G k 2 self) (n + 1) (xsN cv R M l.length c c.length) (I3.TO (H0N w) 1 l) = some (.exit 1, xsN cv R M l.length c c.length, I3.TO (H0N w) 1 l) := by
 have hc : eF 2 (xsN cv R M l.length c c.length) (I3.TO (H0N w) 1 l) = some (I3.TO (H0N w) 1 l) := I3.TO_cut (aIh w).hb l _ (aAr cv R M hcv _ _ _)
 have g1 : bC Tryd.prog .lss 3 false (Nn c.length) (Nn c.length) = some (.bool false) := dR (by omega)
 rw [aR, cG.l15]
 refine eM ?_
 refine eC hc ?_
 unfold xsN
 generalize mD c = cc at *
 have fx := g1
 refine eH ?_
 refine fK ?_; rfl
include hcv hln in
theorem aJM (c : List Int) (hc2 : c.length ≤ 2) (n : Nat) :
  cC (cG.l15 G k 2 self) (n + 3) (xsN cv R M 0 c 0) (I3.TO (H0N w) 1 []) = some (.exit 1, xsN cv R M (c.filter fun x : Int => decide (0 ≤ x) && decide (x < (N : Int))).length c c.length, I3.TO (H0N w) 1 (c.filter fun x : Int => decide (0 ≤ x) && decide (x < (N : Int)))) := by
 match c, hc2 with
 | [], _ => exact aFS G k self w cv R M hcv [] [] (n + 2)
 | [x], _ =>
  have r1 := aAu G k self w cv R M hcv N hln [x] 0 x rfl (by omega) (by simp) [] (by simp) (n + 2)
  have r2 := aFS G k self w cv R M hcv [x] (if (decide (0 ≤ x) && decide (x < (N : Int))) = true then [] ++ [x] else []) (n + 1)
  refine r1.trans (r2.trans ?_)
  rw [List.filter_cons]
  cases (decide (0 ≤ x) && decide (x < (N : Int))) <;> rfl
 | [x, y], _ =>
  have r1 := aAu G k self w cv R M hcv N hln [x, y] 0 x rfl (by omega) (by simp) [] (by simp) (n + 2)
  have r2 := aAu G k self w cv R M hcv N hln [x, y] 1 y rfl (by omega) (by simp) (if (decide (0 ≤ x) && decide (x < (N : Int))) = true then [] ++ [x] else []) (by split <;> simp) (n + 1)
  obtain ⟨l2, h2⟩ : ∃ z, z = (if (decide (0 ≤ y) && decide (y < (N : Int))) = true then (if (decide (0 ≤ x) && decide (x < (N : Int))) = true then [] ++ [x] else []) ++ [y] else (if (decide (0 ≤ x) && decide (x < (N : Int))) = true then [] ++ [x] else [])) := ⟨_, rfl⟩
  rw [← h2] at r2
  have r3 := aFS G k self w cv R M hcv [x, y] l2 n
  refine r1.trans (r2.trans (r3.trans ?_))
  rw [h2, List.filter_cons, List.filter_cons]
  cases (decide (0 ≤ x) && decide (x < (N : Int))) <;> cases (decide (0 ≤ y) && decide (y < (N : Int))) <;> rfl
end
theorem aHy (w : WI) (a : Int) (h : w.op = 18 ∨ w.op = 19) : nL w a = [a + 1, w.k] := by unfold nL; rw [if_neg (by omega), if_neg (by omega), if_pos h]
theorem qD (G : aC) (k : Nat) (bor : Bool) (ws : List WI) (R M at_ : Int) (hn : ws.length ≤ 100000) (hk : 10 ≤ k) : cG.f G (k + 20) [cV bor ws R M, I6 at_] [] =
  some (if 0 ≤ at_ ∧ at_ < ws.length then .ro false (I3.intsI (nX (sW ws.length (ws.getD at_.toNat default) at_))) else .nils, []) := by
 have hcv : aV 0 (.ro bor (cJ ws)) = true := by simp [aV, fH]
 have hln : cB (.ro bor (cJ ws)) = some (Nn ws.length) := by simp [cB, fY]
 have b0 : ∀ H, eE (cV bor ws R M) H = some (.rp false (cV bor ws R M) 0, H) := fun H => rfl
 have f0 : aF 0 (.rp false (cV bor ws R M) 0) = some (.rp false (cV bor ws R M) 0) := rfl
 have l0 : ∀ H, aH G false 1 (.rp false (cV bor ws R M) 0) H = some (.ro bor (cJ ws)) := fun H => rfl
 rw [cG.step]
 unfold cG.c
 refine fC ?_
 by_cases h1 : at_ < 0
 ·rw [if_neg (by omega)]
  have g1 : bC Tryd.prog .lss 3 true (I6 at_) (.int .i64 0) = some (.bool true) := dU h1
  generalize cV bor ws R M = C at *
  have fx := aKI b0 <| g1
  refine eH ?_
  exact oF (gY (x := .nils) rfl _)
 have g1 : bC Tryd.prog .lss 3 true (I6 at_) (.int .i64 0) = some (.bool false) := dR (by omega)
 by_cases h2 : (ws.length : Int) ≤ at_
 ·rw [if_neg (by omega)]
  have g2 : bC Tryd.prog .geq 3 false (I6 at_) (Nn ws.length) = some (.bool true) := vC h2
  generalize cV bor ws R M = C at *
  generalize cJ ws = W at *
  have fx := aKI b0 <| aKI g1 <| aKI f0 <| aKI l0 <| aKI hln <| g2
  refine eH ?_
  exact oF (gY (x := .nils) rfl _)
 rw [if_pos (by omega)]
 have g2 : bC Tryd.prog .geq 3 false (I6 at_) (Nn ws.length) = some (.bool false) := jI (by omega)
 obtain ⟨a, rfl⟩ : ∃ a : Nat, at_ = a := ⟨at_.toNat, by omega⟩
 have d1 := rG bor ws a (by omega)
 rw [Int.toNat_natCast]
 obtain ⟨w, hw⟩ : ∃ w, w = ws.getD a default := ⟨_, rfl⟩
 rw [← hw] at d1 ⊢
 have li := fun H => wS G bor w H
 have bx : gD 29 (.agg [(.int .i64 0), (.int .i64 0), (.int .i64 0), (.int .i64 0), (.int .i64 0), (.int .i64 0)]) [] = some (.ptr 0 1 0 0, [⟨29, 6, [(.agg [(.int .i64 0), (.int .i64 0), (.int .i64 0), (.int .i64 0), (.int .i64 0), (.int .i64 0)])]⟩]) := rfl
 have st : hX (cH 6 (.ptr 0 1 0 0) w.v [⟨29, 6, [(.agg [(.int .i64 0), (.int .i64 0), (.int .i64 0), (.int .i64 0), (.int .i64 0), (.int .i64 0)])]⟩]) = some (.tup [], [⟨29, 6, [w.v]⟩]) := rfl
 have p0 : aF 0 (.ptr 0 1 0 0) = some (.ptr 0 1 0 0) := rfl
 have p5 : aF 5 (.ptr 0 1 0 0) = some (.ptr 0 1 0 5) := rfl
 have o0 : aH G false 1 (.ptr 0 1 0 0) [⟨29, 6, [w.v]⟩] = some (I6 w.op) := rfl
 have o5 : aH G false 1 (.ptr 0 1 0 5) [⟨29, 6, [w.v]⟩] = some (I6 w.k) := rfl
 have r1 : ∀ x H, dN 1 1 (.int .i64 0) [(0, I6 x)] H = some (.ro false (I3.intsI [x]), H) := fun x H => rfl
 have r2 : ∀ x y H, dN 1 2 (.int .i64 0) [(0, I6 x), (1, I6 y)] H = some (.ro false (I3.intsI [x, y]), H) := fun x y H => rfl
 have ap : bC Tryd.prog .add 2 true (Nn a) (.int .i64 1) = some (I6 ((a : Int) + 1)) := by rw [jE, eG (by omega) (by omega)]
 have lc : ∀ l, cB (mD l) = some (Nn l.length) := fun l => by cases l <;> simp [mD, cB, I3.intsI_len]
 have hc2 := zM w a
 obtain ⟨c, hcc⟩ : ∃ c, c = nL w a := ⟨_, rfl⟩
 rw [← hcc] at hc2
 have lp := aJM G (k + 19) (cG.f G (k + 19)) w (.ro bor (cJ ws)) R M hcv ws.length hln c hc2 (k + 16)
 have hnx : (c.filter fun x : Int => decide (0 ≤ x) && decide (x < (ws.length : Int))) = sW ws.length w a := by rw [hcc]; rfl
 rw [hnx] at lp
 have hl3 := aBg ws.length w a
 obtain ⟨m, l4, l5, s4, s5, k5, m5, hset⟩ := aAn G (k + 14) (aIh w) (sW ws.length w a) rfl (by omega) (by omega)
 have fin : cS [.sl 1 (sW ws.length w a).length 0 m 1] 0 (I3.TO (H0N w) 1 l5) = some (.ret, [.ro false (I3.intsI (l5.take m))], []) := aGg l5 m rfl rfl rfl k5
 rw [hset] at fin
 have lp' : cC (cG.l15 G (k + 19) (List.length (([⟨29, 6, [w.v]⟩] ++ [⟨3, 1, []⟩]) : aA)) (cG.f G (k + 19))) (k + 19) [.rp false (cV bor ws R M) 0, .sl (List.length [(⟨29, 6, [w.v]⟩ : ABlk)]) 0 0 0 1, mD c, Nn c.length, .int .i64 0] ([⟨29, 6, [w.v]⟩] ++ [⟨3, 1, []⟩]) =
  some (.exit 1, [.rp false (cV bor ws R M) 0, .sl 1 (sW ws.length w a).length 0 (sW ws.length w a).length 1, mD c, Nn c.length, Nn c.length], I3.TO (H0N w) 1 (sW ws.length w a)) := lp
 have hcand := aHy w a
 unfold dS at s4 s5
 clear lp hset hnx
 generalize sW ws.length w a = nl at *
 generalize nX nl = sl at *
 generalize H0N w = HN at *
 generalize cV bor ws R M = C at *
 generalize cJ ws = W at *
 have fin_ : ∀ cV0, mD c = cV0 → True := fun _ _ => trivial
 by_cases o20 : w.op = 20
 ·have e : c = [] := by rw [hcc]; unfold nL; rw [if_pos o20]
  subst e
  have q1 : bC Tryd.prog .eql 3 true (I6 w.op) (.int .i64 20) = some (.bool true) := gH o20
  have ln := lc []
  have lp2 : cC (cG.l15 G (k + 19) (List.length (([⟨29, 6, [w.v]⟩] ++ [⟨3, 1, []⟩]) : aA)) (cG.f G (k + 19))) (k + 19) [.rp false C 0, .sl (List.length [(⟨29, 6, [w.v]⟩ : ABlk)]) 0 0 0 1, .nils, .int .i64 0, .int .i64 0] ([⟨29, 6, [w.v]⟩] ++ [⟨3, 1, []⟩]) = some (.exit 1, [.rp false C 0, .sl 1 nl.length 0 nl.length 1, .nils, .int .i64 0, .int .i64 0], I3.TO HN 1 nl) := lp'
  have ln2 : cB .nils = some (.int .i64 0) := rfl
  clear lp' hcand hcc o20 ln lc
  generalize w.v = wv at *
  generalize w.op = wo at *
  have fx := aKI b0 <| aKI g1 <| aKI f0 <| aKI l0 <| aKI hln <| aKI g2 <| aKI d1 <| aKI li <| aKI bx <| aKI st <| aKI p0 <| aKI o0 <| aKI q1 <| aKI ln2 <| aKI s4 <| s5
  have lx1 := lp2
  refine eH ?_
  exact oF fin
 have q1 : bC Tryd.prog .eql 3 true (I6 w.op) (.int .i64 20) = some (.bool false) := fU o20
 by_cases o17 : w.op = 17
 ·have e : c = [w.k] := by rw [hcc]; unfold nL; rw [if_neg o20, if_pos o17]
  subst e
  have q2 : bC Tryd.prog .eql 3 true (I6 w.op) (.int .i64 17) = some (.bool true) := gH o17
  have ln2 : cB (.ro false (I3.intsI [w.k])) = some (Nn 1) := rfl
  have r1' := r1 w.k
  have lp2 : cC (cG.l15 G (k + 19) (List.length (([⟨29, 6, [w.v]⟩] ++ [⟨3, 1, []⟩]) : aA)) (cG.f G (k + 19))) (k + 19) [.rp false C 0, .sl (List.length [(⟨29, 6, [w.v]⟩ : ABlk)]) 0 0 0 1, .ro false (I3.intsI [w.k]), Nn 1, .int .i64 0] ([⟨29, 6, [w.v]⟩] ++ [⟨3, 1, []⟩]) = some (.exit 1, [.rp false C 0, .sl 1 nl.length 0 nl.length 1, .ro false (I3.intsI [w.k]), Nn 1, Nn 1], I3.TO HN 1 nl) := lp'
  clear lp' hcand hcc o20 o17 lc r1 r2
  generalize I3.intsI [w.k] = wk at *
  generalize w.v = wv at *
  generalize w.op = wo at *
  generalize w.k = wkk at *
  have fx := aKI b0 <| aKI g1 <| aKI f0 <| aKI l0 <| aKI hln <| aKI g2 <| aKI d1 <| aKI li <| aKI bx <| aKI st <| aKI p0 <| aKI p5 <| aKI o0 <| aKI o5 <| aKI q1 <| aKI q2 <| aKI r1' <| aKI ln2 <| aKI s4 <| s5
  have lx1 := lp2
  refine eH ?_
  exact oF fin
 have q2 : bC Tryd.prog .eql 3 true (I6 w.op) (.int .i64 17) = some (.bool false) := fU o17
 by_cases o18 : w.op = 18 ∨ w.op = 19
 ·have e : c = [(a : Int) + 1, w.k] := by rw [hcc]; exact hcand o18
  subst e
  have ln2 : cB (.ro false (I3.intsI [(a : Int) + 1, w.k])) = some (Nn [(a : Int) + 1, w.k].length) := rfl
  have r2' := r2 ((a : Int) + 1) w.k
  have lp2 : cC (cG.l15 G (k + 19) (List.length (([⟨29, 6, [w.v]⟩] ++ [⟨3, 1, []⟩]) : aA)) (cG.f G (k + 19))) (k + 19) [.rp false C 0, .sl (List.length [(⟨29, 6, [w.v]⟩ : ABlk)]) 0 0 0 1, .ro false (I3.intsI [(a : Int) + 1, w.k]), Nn [(a : Int) + 1, w.k].length, .int .i64 0] ([⟨29, 6, [w.v]⟩] ++ [⟨3, 1, []⟩]) = some (.exit 1, [.rp false C 0, .sl 1 nl.length 0 nl.length 1, .ro false (I3.intsI [(a : Int) + 1, w.k]), Nn [(a : Int) + 1, w.k].length, Nn [(a : Int) + 1, w.k].length], I3.TO HN 1 nl) := lp'
  clear lp' hcand hcc lc r1 r2
  generalize I3.intsI [(a : Int) + 1, w.k] = wk at *
  generalize [(a : Int) + 1, w.k].length = wl at *
  by_cases o : w.op = 18
  ·have q3 : bC Tryd.prog .eql 3 true (I6 w.op) (.int .i64 18) = some (.bool true) := gH o
   clear o18 o o20 o17
   generalize w.v = wv at *
   generalize w.op = wo at *
   generalize w.k = wkk at *
   have fx := aKI b0 <| aKI g1 <| aKI f0 <| aKI l0 <| aKI hln <| aKI g2 <| aKI d1 <| aKI li <| aKI bx <| aKI st <| aKI p0 <| aKI p5 <| aKI o0 <| aKI o5 <| aKI q1 <| aKI q2 <| aKI q3 <| aKI ap <| aKI r2' <| aKI ln2 <| aKI s4 <| s5
   have lx1 := lp2
   refine eH ?_
   exact oF fin
  ·have q3 : bC Tryd.prog .eql 3 true (I6 w.op) (.int .i64 18) = some (.bool false) := fU o
   have q4 : bC Tryd.prog .eql 3 true (I6 w.op) (.int .i64 19) = some (.bool true) := gH (by omega)
   clear o18 o o20 o17
   generalize w.v = wv at *
   generalize w.op = wo at *
   generalize w.k = wkk at *
   have fx := aKI b0 <| aKI g1 <| aKI f0 <| aKI l0 <| aKI hln <| aKI g2 <| aKI d1 <| aKI li <| aKI bx <| aKI st <| aKI p0 <| aKI p5 <| aKI o0 <| aKI o5 <| aKI q1 <| aKI q2 <| aKI q3 <| aKI q4 <| aKI ap <| aKI r2' <| aKI ln2 <| aKI s4 <| s5
   have lx1 := lp2
   refine eH ?_
   exact oF fin
 ·have e : c = [(a : Int) + 1] := by rw [hcc]; unfold nL; rw [if_neg o20, if_neg o17, if_neg o18]
  subst e
  have q3 : bC Tryd.prog .eql 3 true (I6 w.op) (.int .i64 18) = some (.bool false) := fU (by omega)
  have q4 : bC Tryd.prog .eql 3 true (I6 w.op) (.int .i64 19) = some (.bool false) := fU (by omega)
  have ln2 : cB (.ro false (I3.intsI [(a : Int) + 1])) = some (Nn 1) := rfl
  have r1' := r1 ((a : Int) + 1)
  have lp2 : cC (cG.l15 G (k + 19) (List.length (([⟨29, 6, [w.v]⟩] ++ [⟨3, 1, []⟩]) : aA)) (cG.f G (k + 19))) (k + 19) [.rp false C 0, .sl (List.length [(⟨29, 6, [w.v]⟩ : ABlk)]) 0 0 0 1, .ro false (I3.intsI [(a : Int) + 1]), Nn 1, .int .i64 0] ([⟨29, 6, [w.v]⟩] ++ [⟨3, 1, []⟩]) = some (.exit 1, [.rp false C 0, .sl 1 nl.length 0 nl.length 1, .ro false (I3.intsI [(a : Int) + 1]), Nn 1, Nn 1], I3.TO HN 1 nl) := lp'
  clear lp' hcand hcc lc r1 r2 o18 o20 o17
  generalize I3.intsI [(a : Int) + 1] = wk at *
  generalize w.v = wv at *
  generalize w.op = wo at *
  generalize w.k = wkk at *
  have fx := aKI b0 <| aKI g1 <| aKI f0 <| aKI l0 <| aKI hln <| aKI g2 <| aKI d1 <| aKI li <| aKI bx <| aKI st <| aKI p0 <| aKI o0 <| aKI q1 <| aKI q2 <| aKI q3 <| aKI q4 <| aKI ap <| aKI r1' <| aKI ln2 <| aKI s4 <| s5
  have lx1 := lp2
  refine eH ?_
  exact oF fin
def jP (L : List (List Nat)) (k x : Nat) : List (List Nat) := L.set k (L.getD k [] ++ [x])
theorem iT (L : List (List Nat)) (k x : Nat) : (jP L k x).length = L.length := by simp [jP]
theorem kE {L : List (List Nat)} {k : Nat} (hk : k < L.length) (x j : Nat) : (jP L k x).getD j [] = if j = k then L.getD k [] ++ [x] else L.getD j [] := by
 unfold jP
 rw [List.getD_eq_getElem?_getD, List.getElem?_set]
 by_cases h : k = j
 ·subst h; rw [if_pos rfl, if_pos hk, if_pos rfl]; rfl
 ·rw [if_neg h, if_neg (Ne.symm h), ← List.getD_eq_getElem?_getD]
def gJ (x : Nat) : List Nat → List (List Nat) → List (List Nat)
 | [], L => L
 | k :: ks, L => gJ x ks (jP L k x)
theorem qE (x : Nat) : ∀ (ks : List Nat) (L : List (List Nat)), (gJ x ks L).length = L.length
 | [], L => rfl
 | k :: ks, L => by rw [gJ, qE x ks, iT]
theorem mV (x : Nat) : ∀ (ks : List Nat) (L : List (List Nat)), (∀ k ∈ ks, k < L.length) → ks.Nodup → ∀ j, (gJ x ks L).getD j [] = L.getD j [] ++ if j ∈ ks then [x] else []
 | [], L, _, _, j => by simp [gJ]
 | k :: ks, L, h, hn, j => by
  rw [List.nodup_cons] at hn
  have hk := h k (by simp)
  rw [gJ, mV x ks (jP L k x) (fun q hq => by rw [iT]; exact h q (by simp [hq])) hn.2 j, kE hk]
  by_cases e : j = k
  ·subst e
   simp [hn.1]
  ·simp [e]
def jQ (f : Nat → List Nat) (m : Nat) : Nat → List (List Nat)
 | 0 => List.replicate m []
 | n + 1 => gJ n (f n) (jQ f m n)
theorem aBO (f : Nat → List Nat) (m : Nat) : ∀ n, (jQ f m n).length = m
 | 0 => by simp [jQ]
 | n + 1 => by rw [jQ, qE, aBO f m n]
def iL (f : Nat → List Nat) (n j : Nat) : List Nat := (List.range n).filter fun a => decide (j ∈ f a)
theorem oA (f : Nat → List Nat) (m : Nat) : ∀ n, (∀ a, a < n → (∀ k ∈ f a, k < m) ∧ (f a).Nodup) → ∀ j, (jQ f m n).getD j [] = iL f n j
 | 0, _, j => by
  have : (jQ f m 0).getD j [] = [] := by
   simp only [jQ, List.getD_eq_getElem?_getD, List.getElem?_replicate]
   split <;> rfl
  rw [this]; rfl
 | n + 1, h, j => by
  have h0 := h n (by omega)
  rw [jQ, mV n (f n) (jQ f m n) (fun k hk => by rw [aBO]; exact h0.1 k hk) h0.2 j, oA f m n (fun a ha => h a (by omega)) j]
  unfold iL
  rw [List.range_succ, List.filter_append]
  congr 1
  by_cases e : j ∈ f n
  ·simp [e]
  ·simp [e]
theorem kK {f : Nat → List Nat} {n j a : Nat} : a ∈ iL f n j ↔ a < n ∧ j ∈ f a := by simp [iL]
theorem yF (f : Nat → List Nat) (n j : Nat) : (iL f n j).Nodup := List.Pairwise.filter _ List.nodup_range
theorem pB (f : Nat → List Nat) (n j : Nat) : (iL f n j).length ≤ n := by
 unfold iL
 have := List.length_filter_le (fun a => decide (j ∈ f a)) (List.range n)
 simpa using this
inductive Nd (n : Nat) (rd : Nat → List Nat) (nx : Nat → List Nat) (wr : Nat → Nat → Bool) (r : Nat) : Nat → Prop where
 | rd {k : Nat} (h : k < n) (hr : r ∈ rd k) : Nd n rd nx wr r k
 | up {k a : Nat} (h : k < n) (hn : a ∈ nx k) (ha : Nd n rd nx wr r a) (hw : wr k r = false) : Nd n rd nx wr r k
def fL (out : List (List Nat)) (k r : Nat) : Bool := decide ((out.getD k []).getLast? = some r)
def gP (wr : Nat → Nat → Bool) (r : Nat) : List Nat → List (List Nat) → List Nat → List (List Nat) × List Nat
 | [], out, stk => (out, stk)
 | k :: ks, out, stk => if (fL out k r || wr k r) = true then gP wr r ks out stk else gP wr r ks (jP out k r) (k :: stk)
def aBn (nx : Nat → List Nat) (n : Nat) (wr : Nat → Nat → Bool) (r : Nat) : Nat → List (List Nat) → List Nat → Option (List (List Nat))
 | _, out, [] => some out
 | 0, _, _ :: _ => none
 | d + 1, out, a :: stk => aBn nx n wr r d (gP wr r (iL nx n a) out stk).1 (gP wr r (iL nx n a) out stk).2
section
variable {n : Nat} {rd nx : Nat → List Nat} {wr : Nat → Nat → Bool} {r : Nat} {base out : List (List Nat)} {stk : List Nat}
structure RInv (n : Nat) (rd nx : Nat → List Nat) (wr : Nat → Nat → Bool) (r : Nat) (base out : List (List Nat)) (stk : List Nat) : Prop where
 len : out.length = n
 low : ∀ k, ∀ y ∈ base.getD k [], y < r
 get : ∀ k, k < n → out.getD k [] = base.getD k [] ∨ out.getD k [] = base.getD k [] ++ [r]
 sound : ∀ k, k < n → fL out k r = true → Nd n rd nx wr r k
 stk : ∀ k ∈ stk, k < n ∧ fL out k r = true
theorem aAc {k : Nat} (hl : ∀ y ∈ base.getD k [], y < r) (e : out.getD k [] = base.getD k []) : fL out k r = false := by
 unfold fL
 rw [e]
 refine decide_eq_false fun h => ?_
 have := hl r (List.mem_of_getLast? h)
 omega
theorem rL {k : Nat} {x : List Nat} (e : out.getD k [] = x ++ [r]) : fL out k r = true := by
 unfold fL
 rw [e]; simp
theorem RInv.is (h : RInv n rd nx wr r base out stk) {k : Nat} (hk : k < n) : out.getD k [] = base.getD k [] ++ if fL out k r = true then [r] else [] := by
 rcases h.get k hk with e | e
 ·rw [aAc (h.low k) e, e]; simp
 ·rw [rL e, e]; simp
def left (n : Nat) (out : List (List Nat)) (r : Nat) : Nat := (List.range n).countP fun k => !fL out k r
theorem tN {p q : Nat → Bool} {k : Nat} : ∀ {l : List Nat}, (∀ x ∈ l, q x = true → p x = true) → k ∈ l → p k = true → q k = false → l.countP q + 1 ≤ l.countP p
 | [], _, hk, _, _ => by cases hk
 | x :: l, h, hk, hp, hq => by
  have mono : l.countP q ≤ l.countP p := List.countP_mono_left (fun y hy => h y (by simp [hy]))
  rcases List.mem_cons.1 hk with rfl | hk
  ·rw [List.countP_cons_of_neg (by simp [hq]), List.countP_cons_of_pos hp]; omega
  ·have ih := tN (fun y hy => h y (by simp [hy])) hk hp hq
   by_cases hx : q x = true
   ·rw [List.countP_cons_of_pos hx, List.countP_cons_of_pos (h x (by simp) hx)]; omega
   ·rw [List.countP_cons_of_neg hx]
    have : l.countP p ≤ (x :: l).countP p := by rw [List.countP_cons]; omega
    omega
theorem xS : ∀ (ks : List Nat) (out : List (List Nat)) (stk : List Nat), RInv n rd nx wr r base out stk → (∀ k ∈ ks, k < n ∧ ∃ a, a ∈ nx k ∧ Nd n rd nx wr r a) →
  RInv n rd nx wr r base (gP wr r ks out stk).1 (gP wr r ks out stk).2 ∧ (∀ k, fL out k r = true → fL (gP wr r ks out stk).1 k r = true) ∧
  (∀ k ∈ ks, fL (gP wr r ks out stk).1 k r = true ∨ wr k r = true) ∧ (∀ k ∈ stk, k ∈ (gP wr r ks out stk).2) ∧
  (∀ k, k < n → fL (gP wr r ks out stk).1 k r = true → fL out k r = true ∨ k ∈ (gP wr r ks out stk).2) ∧
  (gP wr r ks out stk).2.length + left n (gP wr r ks out stk).1 r ≤ stk.length + left n out r
 | [], out, stk, h, _ => ⟨h, fun _ q => q, fun k hk => (by cases hk), fun _ q => q, fun _ _ q => .inl q, Nat.le_refl _⟩
 | k :: ks, out, stk, h, hks => by
  obtain ⟨hk, a, ha1, ha2⟩ := hks k (by simp)
  rw [gP]
  by_cases hc : (fL out k r || wr k r) = true
  ·rw [if_pos hc]
   obtain ⟨g1, g2, g3, g4, g5, g6⟩ := xS ks out stk h (fun q hq => hks q (by simp [hq]))
   refine ⟨g1, g2, fun q hq => ?_, g4, g5, g6⟩
   rcases List.mem_cons.1 hq with rfl | hq
   ·rw [Bool.or_eq_true] at hc
    rcases hc with hc | hc
    ·exact .inl (g2 _ hc)
    ·exact .inr hc
   ·exact g3 q hq
  ·rw [if_neg hc]
   simp only [Bool.or_eq_true, not_or, Bool.not_eq_true] at hc
   obtain ⟨hc1, hc2⟩ := hc
   have hkl : k < out.length := by rw [h.len]; exact hk
   have hg := fun j => kE hkl r j
   have hbase : out.getD k [] = base.getD k [] := by
    rcases h.get k hk with e | e
    ·exact e
    ·rw [rL e] at hc1; cases hc1
   have hlast : ∀ j, fL (jP out k r) j r = true ↔ j = k ∨ fL out j r = true := fun j => by
    by_cases e : j = k
    ·subst e
     have := rL (r := r) (x := out.getD j []) ((hg j).trans (if_pos rfl))
     simp [this]
    ·have : fL (jP out k r) j r = fL out j r := by unfold fL; rw [hg j, if_neg e]
     rw [this]; simp [e]
   have h' : RInv n rd nx wr r base (jP out k r) (k :: stk) := by
    refine ⟨by rw [iT]; exact h.len, h.low, fun j hj => ?_, fun j hj hl => ?_, fun j hj => ?_⟩
    ·rw [hg j]
     by_cases e : j = k
     ·subst e; rw [if_pos rfl, hbase]; exact .inr rfl
     ·rw [if_neg e]; exact h.get j hj
    ·rcases (hlast j).1 hl with rfl | hl
     ·exact .up hj ha1 ha2 hc2
     ·exact h.sound j hj hl
    ·rcases List.mem_cons.1 hj with rfl | hj
     ·exact ⟨hk, (hlast j).2 (.inl rfl)⟩
     ·exact ⟨(h.stk j hj).1, (hlast j).2 (.inr (h.stk j hj).2)⟩
   obtain ⟨g1, g2, g3, g4, g5, g6⟩ := xS ks (jP out k r) (k :: stk) h' (fun q hq => hks q (by simp [hq]))
   refine ⟨g1, fun q hq => g2 q ((hlast q).2 (.inr hq)), fun q hq => ?_, fun q hq => g4 q (by simp [hq]), fun q hq hl => ?_, ?_⟩
   ·rcases List.mem_cons.1 hq with rfl | hq
    ·exact .inl (g2 _ ((hlast q).2 (.inl rfl)))
    ·exact g3 q hq
   ·rcases g5 q hq hl with hl | hl
    ·rcases (hlast q).1 hl with rfl | hl
     ·exact .inr (g4 q (by simp))
     ·exact .inl hl
    ·exact .inr hl
   ·have : left n (jP out k r) r + 1 ≤ left n out r := by
     refine tN (k := k) (fun x hx hq => ?_) (by simpa using hk) (by simp [hc1]) (by simp [(hlast k).2 (.inl rfl)])
     simp only [Bool.not_eq_true'] at hq ⊢
     cases hx2 : fL out x r with
     | false => rfl
     | true => rw [(hlast x).2 (.inr hx2)] at hq; cases hq
    simp only [List.length_cons] at g6
    omega
def qQ (n : Nat) (nx : Nat → List Nat) (wr : Nat → Nat → Bool) (r : Nat) (out : List (List Nat)) (stk : List Nat) : Prop :=
 ∀ a, a < n → fL out a r = true → a ∉ stk → ∀ k ∈ iL nx n a, fL out k r = true ∨ wr k r = true
theorem aET : ∀ (d : Nat) (out : List (List Nat)) (stk : List Nat), RInv n rd nx wr r base out stk → qQ n nx wr r out stk → stk.length + left n out r ≤ d →
  ∃ out', aBn nx n wr r d out stk = some out' ∧ RInv n rd nx wr r base out' [] ∧ qQ n nx wr r out' [] ∧ ∀ k, fL out k r = true → fL out' k r = true
 | d, out, [], h, hc, _ => ⟨out, by unfold aBn; rfl, h, hc, fun _ q => q⟩
 | 0, out, a :: stk, h, hc, hd => by simp only [List.length_cons] at hd; omega
 | d + 1, out, a :: stk, h, hc, hd => by
  obtain ⟨ha1, ha2⟩ := h.stk a (by simp)
  have h0 : RInv n rd nx wr r base out stk := ⟨h.len, h.low, h.get, h.sound, fun k hk => h.stk k (by simp [hk])⟩
  obtain ⟨g1, g2, g3, g4, g5, g6⟩ := xS (iL nx n a) out stk h0 (fun k hk => by
   obtain ⟨h1, h2⟩ := kK.1 hk
   exact ⟨h1, a, h2, h.sound a ha1 ha2⟩)
  have hc' : qQ n nx wr r (gP wr r (iL nx n a) out stk).1 (gP wr r (iL nx n a) out stk).2 := by
   intro q hq hl hns k hk
   rcases g5 q hq hl with hl0 | hl0
   ·by_cases e : q = a
    ·subst e; exact g3 k hk
    ·rcases hc q hq hl0 (by simp only [List.mem_cons, not_or]; exact ⟨e, fun hs => hns (g4 q hs)⟩) k hk with z | z
     ·exact .inl (g2 k z)
     ·exact .inr z
   ·exact absurd hl0 hns
  simp only [List.length_cons] at hd
  obtain ⟨out', e1, e2, e3, e4⟩ := aET d _ _ g1 hc' (by omega)
  exact ⟨out', by rw [aBn]; exact e1, e2, e3, fun k hk => e4 k (g2 k hk)⟩
theorem aKc {out' : List (List Nat)} (h : RInv n rd nx wr r base out' []) (hc : qQ n nx wr r out' []) (hr : ∀ k, k < n → r ∈ rd k → fL out' k r = true) (hnx : ∀ k, k < n → ∀ a ∈ nx k, a < n) {k : Nat} :
  Nd n rd nx wr r k → fL out' k r = true := by
 intro hn
 induction hn with
 | rd hk hr' => exact hr _ hk hr'
 | up hk hn' _ hw ih =>
  rcases hc _ (hnx _ hk _ hn') ih (by simp) _ (kK.2 ⟨hk, hn'⟩) with z | z
  ·exact z
  ·rw [hw] at z; cases z
theorem aFh (hb : base.length = n) (hl : ∀ k, ∀ y ∈ base.getD k [], y < r) : RInv n rd nx wr r base (gJ r (iL rd n r) base) (iL rd n r).reverse ∧
  qQ n nx wr r (gJ r (iL rd n r) base) (iL rd n r).reverse ∧ (∀ k, k < n → r ∈ rd k → fL (gJ r (iL rd n r) base) k r = true) ∧
  (iL rd n r).reverse.length + left n (gJ r (iL rd n r) base) r ≤ 2 * n := by
 have hg := mV r (iL rd n r) base (fun k hk => by rw [hb]; exact (kK.1 hk).1) (yF ..)
 have hlast : ∀ k, fL (gJ r (iL rd n r) base) k r = true ↔ k ∈ iL rd n r := fun k => by
  by_cases e : k ∈ iL rd n r
  ·have := rL (out := gJ r (iL rd n r) base) (r := r) (k := k) (x := base.getD k []) (by rw [hg k, if_pos e])
   simp [this, e]
  ·have := aAc (out := gJ r (iL rd n r) base) (r := r) (k := k) (base := base) (hl k) (by rw [hg k, if_neg e, List.append_nil])
   simp [this, e]
 refine ⟨⟨by rw [qE]; exact hb, hl, fun k hk => ?_, fun k hk h => ?_, fun k hk => ?_⟩, fun a ha hla hns k hk => ?_, fun k hk h => (hlast k).2 (kK.2 ⟨hk, h⟩), ?_⟩
 ·rw [hg k]
  by_cases e : k ∈ iL rd n r
  ·rw [if_pos e]; exact .inr rfl
  ·rw [if_neg e, List.append_nil]; exact .inl rfl
 ·obtain ⟨h1, h2⟩ := kK.1 ((hlast k).1 h)
  exact .rd h1 h2
 ·have := List.mem_reverse.1 hk
  exact ⟨(kK.1 this).1, (hlast k).2 this⟩
 ·exact absurd (List.mem_reverse.2 ((hlast a).1 hla)) hns
 ·rw [List.length_reverse]
  have h1 := pB rd n r
  have h2 : left n (gJ r (iL rd n r) base) r ≤ n := by
   unfold left
   have := List.countP_le_length (p := fun k => !fL (gJ r (iL rd n r) base) k r) (l := List.range n)
   simpa using this
  omega
structure Part (n : Nat) (rd nx : Nat → List Nat) (wr : Nat → Nat → Bool) (r : Nat) (out : List (List Nat)) : Prop where
 len : out.length = n
 up : ∀ k, (out.getD k []).Pairwise (· < ·)
 mem : ∀ k, k < n → ∀ q, q ∈ out.getD k [] ↔ q < r ∧ Nd n rd nx wr q k
 low : ∀ k, ∀ q ∈ out.getD k [], q < r
theorem Part.zero : Part n rd nx wr 0 (List.replicate n []) := by
 have e : ∀ k, (List.replicate n ([] : List Nat)).getD k [] = [] := fun k => by
  simp only [List.getD_eq_getElem?_getD, List.getElem?_replicate]
  split <;> rfl
 exact ⟨by simp, fun k => by rw [e]; simp, fun k hk q => by rw [e]; simp, fun k q hq => by rw [e] at hq; cases hq⟩
theorem Part.step (h : Part n rd nx wr r base) (hnx : ∀ k, k < n → ∀ a ∈ nx k, a < n) : ∃ out', aBn nx n wr r (2 * n) (gJ r (iL rd n r) base) (iL rd n r).reverse = some out' ∧ Part n rd nx wr (r + 1) out' := by
 obtain ⟨b1, b2, b3, b4⟩ := aFh (rd := rd) (nx := nx) (wr := wr) h.len h.low
 obtain ⟨out', e1, e2, e3, e4⟩ := aET (2 * n) _ _ b1 b2 b4
 have big : ∀ k, n ≤ k → out'.getD k [] = [] := fun k hk => by
  rw [List.getD_eq_getElem?_getD, List.getElem?_eq_none (by rw [e2.len]; exact hk)]; rfl
 have w := fun k (hk : k < n) => aKc e2 e3 (fun k hk hr => e4 k (b3 k hk hr)) hnx (k := k)
 refine ⟨out', e1, e2.len, fun k => ?_, fun k hk q => ?_, fun k q hq => ?_⟩
 ·by_cases hk : k < n
  ·rw [e2.is hk]
   split
   ·rw [List.pairwise_append]
    exact ⟨h.up k, by simp, fun x hx y hy => by rw [List.mem_singleton.1 hy]; exact h.low k x hx⟩
   ·rw [List.append_nil]; exact h.up k
  ·rw [big k (by omega)]; simp
 ·rw [e2.is hk, List.mem_append, h.mem k hk]
  constructor
  ·rintro (⟨h1, h2⟩ | h1)
   ·exact ⟨by omega, h2⟩
   ·split at h1
    ·rename_i hl
     rw [List.mem_singleton.1 h1]
     exact ⟨by omega, e2.sound k hk hl⟩
    ·cases h1
  ·rintro ⟨h1, h2⟩
   by_cases e : q = r
   ·subst e
    rw [if_pos (w k hk h2)]; exact .inr (by simp)
   ·exact .inl ⟨by omega, h2⟩
 ·by_cases hk : k < n
  ·rw [e2.is hk, List.mem_append] at hq
   rcases hq with hq | hq
   ·have := h.low k q hq; omega
   ·split at hq
    ·rw [List.mem_singleton.1 hq]; omega
    ·cases hq
  ·rw [big k (by omega)] at hq; cases hq
end
def nJ : Nat → List (List Nat) → List AV
 | _, [] => []
 | b, l :: L => .sl b l.length 0 l.length 1 :: nJ (b + 1) L
theorem nK : ∀ (b : Nat) (L : List (List Nat)), (nJ b L).length = L.length
 | _, [] => rfl
 | b, l :: L => by simp [nJ, nK (b + 1) L]
theorem vF : ∀ (b : Nat) (L : List (List Nat)) (k : Nat), k < L.length → (nJ b L)[k]? = some (.sl (b + k) (L.getD k []).length 0 (L.getD k []).length 1)
 | _, [], k, h => by simp at h
 | b, l :: L, 0, h => rfl
 | b, l :: L, k + 1, h => by
  have := vF (b + 1) L k (by simpa using h)
  simp only [nJ, List.getElem?_cons_succ, List.getD_cons_succ]
  rw [this, show b + 1 + k = b + (k + 1) by omega]
theorem aBs : ∀ (b : Nat) (L : List (List Nat)) (k : Nat) (l : List Nat), (nJ b L).set k (.sl (b + k) l.length 0 l.length 1) = nJ b (L.set k l)
 | _, [], k, l => rfl
 | b, l0 :: L, 0, l => rfl
 | b, l0 :: L, k + 1, l => by
  have := aBs (b + 1) L k l
  simp only [nJ, List.set_cons_succ]
  rw [← this, show b + 1 + k = b + (k + 1) by omega]
theorem pP : ∀ (b : Nat) (L : List (List Nat)) (N : Nat), b + L.length ≤ N → bG N (nJ b L) = true
 | _, [], N, h => rfl
 | b, l :: L, N, h => by
  simp only [List.length_cons] at h
  simp only [nJ, bG, aV, pP (b + 1) L N (by omega), Bool.and_true]
  exact decide_eq_true (by omega)
structure Rows (ty sz : Nat) (H : aA) (q base : Nat) (L : List (List Nat)) : Prop where
 out : H[q]? = some ⟨ty, sz, nJ base L⟩
 row : ∀ k, k < L.length → H[base + k]? = some ⟨3, 1, bV (L.getD k [])⟩
 ap : q < base ∨ base + L.length ≤ q
def yN (ty sz : Nat) (H : aA) (q base : Nat) (L : List (List Nat)) (k x : Nat) : aA :=
 (H.set (base + k) ⟨3, 1, bV (L.getD k [] ++ [x])⟩).set q ⟨ty, sz, nJ base (jP L k x)⟩
theorem nD (ty sz : Nat) (H : aA) (q base : Nat) (L : List (List Nat)) (k x : Nat) : (yN ty sz H q base L k x).length = H.length := by simp [yN]
theorem jC {ty sz : Nat} {H : aA} {q base : Nat} {L : List (List Nat)} {k x i : Nat} (h1 : i ≠ q) (h2 : i ≠ base + k) : (yN ty sz H q base L k x)[i]? = H[i]? := by
 unfold yN
 rw [List.getElem?_set_ne (Ne.symm h1), List.getElem?_set_ne (Ne.symm h2)]
section
variable {ty sz : Nat} {H : aA} {q base : Nat} {L : List (List Nat)} (hr : Rows ty sz H q base L) {k : Nat} (hk : k < L.length)
include hr hk in
theorem Rows.grow (x : Nat) : Rows ty sz (yN ty sz H q base L k x) q base (jP L k x) := by
 have hq : q < H.length := (List.getElem?_eq_some_iff.1 hr.out).1
 have hb : base + k < H.length := (List.getElem?_eq_some_iff.1 (hr.row k hk)).1
 have hap := hr.ap
 refine ⟨?_, fun j hj => ?_, by rw [iT]; exact hr.ap⟩
 ·unfold yN
  rw [List.getElem?_set_self (by simpa using hq)]
 ·rw [iT] at hj
  unfold yN
  rw [List.getElem?_set_ne (by omega), kE hk]
  by_cases e : j = k
  ·subst e
   rw [if_pos rfl, List.getElem?_set_self hb]
  ·rw [if_neg e, List.getElem?_set_ne (by omega)]
   exact hr.row j hj
theorem Rows.apart {ty2 sz2 q2 base2 : Nat} {L2 : List (List Nat)} (hr2 : Rows ty2 sz2 H q2 base2 L2) (hk : k < L.length) (x : Nat) (h1 : q2 ≠ q) (h2 : q2 ≠ base + k) (h3 : ∀ j, j < L2.length → base2 + j ≠ q ∧ base2 + j ≠ base + k) : Rows ty2 sz2 (yN ty sz H q base L k x) q2 base2 L2 :=
 ⟨by rw [jC h1 h2]; exact hr2.out, fun j hj => by rw [jC (h3 j hj).1 (h3 j hj).2]; exact hr2.row j hj, hr2.ap⟩
include hr hk in
theorem Rows.app (x : Nat) (hl : (L.getD k []).length ≤ 1000000000) : eQ 3 1 (.sl (base + k) (L.getD k []).length 0 (L.getD k []).length 1) (.ro false [Nn x]) H =
  some (.sl (base + k) (L.getD k [] ++ [x]).length 0 (L.getD k [] ++ [x]).length 1, H.set (base + k) ⟨3, 1, bV (L.getD k [] ++ [x])⟩) := by
 have e := hr.row k hk
 have e2 : fN (.ro false [Nn x]) H = some [Nn x] := rfl
 generalize L.getD k [] = l at *
 unfold eQ
 simp only [e, e2, dZ]
 rw [if_pos (by refine ⟨?_, ?_, ?_, ?_, ?_⟩ <;> first | trivial | rfl | (show l.length + 1 ≤ _; omega))]
 have e2 : (bV l).take l.length = bV l := List.take_of_length_le (by rw [dZ]; exact Nat.le_refl _)
 have e3 : (bV l).drop (l.length + [Nn x].length) = [] := List.drop_of_length_le (by rw [dZ]; exact Nat.le_add_right _ _)
 have e4 : bV l ++ [Nn x] = bV (l ++ [x]) := by simp [bV]
 rw [e2, e3, List.append_nil, e4, dZ]
 simp
end
section
variable {H : aA} {q base : Nat} {L : List (List Nat)} {k n : Nat}
theorem mO {G : aC} (hr : Rows 49 1 H q base L) (hn : L.length = n) (hk : k < n) : aH G false 1 (.ptr q n k 0) H = some (.sl (base + k) (L.getD k []).length 0 (L.getD k []).length 1) := by
 unfold aH
 simp only [hr.out, nK, hn, if_true, vF base L k (by omega)]
 rfl
theorem qM (hr : Rows 49 1 H q base L) (hn : L.length = n) (hk : k < n) (x : Nat) :
  hX (cH 1 (.ptr q n k 0) (.sl (base + k) (L.getD k [] ++ [x]).length 0 (L.getD k [] ++ [x]).length 1) (H.set (base + k) ⟨3, 1, bV (L.getD k [] ++ [x])⟩)) = some (.tup [], yN 49 1 H q base L k x) := by
 have hap := hr.ap
 have e : (H.set (base + k) ⟨3, 1, bV (L.getD k [] ++ [x])⟩)[q]? = some ⟨49, 1, nJ base L⟩ := by
  rw [List.getElem?_set_ne (by omega)]; exact hr.out
 have e2 : cH 1 (.ptr q n k 0) (.sl (base + k) (L.getD k [] ++ [x]).length 0 (L.getD k [] ++ [x]).length 1) (H.set (base + k) ⟨3, 1, bV (L.getD k [] ++ [x])⟩) = some (yN 49 1 H q base L k x) := by
  unfold cH
  simp only [e, nK, hn]
  rw [if_pos ⟨trivial, rfl, rfl⟩]
  simp only [vF base L k (by omega)]
  rw [if_pos (by show 0 + 1 ≤ 1; omega)]
  have e3 : kN (AV.sl (base + k) (L.getD k []).length 0 (L.getD k []).length 1) (jU (AV.sl (base + k) (L.getD k []).length 0 (L.getD k []).length 1).cells 0 (AV.sl (base + k) (L.getD k [] ++ [x]).length 0 (L.getD k [] ++ [x]).length 1).cells) = AV.sl (base + k) (L.getD k [] ++ [x]).length 0 (L.getD k [] ++ [x]).length 1 := rfl
  rw [e3, aBs]
  rfl
 rw [e2]; rfl
theorem aCt (hr : Rows 0 0 H q base L) (hk : k < L.length) : aAd (.mp q) (Nn k) H = some (.sl (base + k) (L.getD k []).length 0 (L.getD k []).length 1) := by
 unfold aAd
 simp only [hr.out]
 rw [if_pos ⟨trivial, by omega⟩, Int.toNat_natCast, vF base L k hk]
theorem aHO (hr : Rows 0 0 H q base L) (hk : k < L.length) (x : Nat) :
  hX (aEc (.mp q) (Nn k) (.sl (base + k) (L.getD k [] ++ [x]).length 0 (L.getD k [] ++ [x]).length 1) (H.set (base + k) ⟨3, 1, bV (L.getD k [] ++ [x])⟩)) = some (.tup [], yN 0 0 H q base L k x) := by
 have hap := hr.ap
 have e : (H.set (base + k) ⟨3, 1, bV (L.getD k [] ++ [x])⟩)[q]? = some ⟨0, 0, nJ base L⟩ := by
  rw [List.getElem?_set_ne (by omega)]; exact hr.out
 have e2 : aEc (.mp q) (Nn k) (.sl (base + k) (L.getD k [] ++ [x]).length 0 (L.getD k [] ++ [x]).length 1) (H.set (base + k) ⟨3, 1, bV (L.getD k [] ++ [x])⟩) = some (yN 0 0 H q base L k x) := by
  unfold aEc
  simp only [e]
  rw [if_pos ⟨trivial, by omega, by rw [Int.toNat_natCast, nK]; exact hk⟩, Int.toNat_natCast, aBs]
  rfl
 rw [e2]; rfl
end
theorem jH {n : Nat} : ∀ {H : aA}, (∀ (i : Nat) (b : ABlk), H[i]? = some b → bG n b.elems = true) → bS n H = true
 | [], _ => rfl
 | b :: H, h => by
  have h1 := h 0 b rfl
  have h2 := jH (n := n) (H := H) fun i c hc => h (i + 1) c (by simpa using hc)
  simp only [bS, h1, h2, Bool.and_self]
structure HA (n R : Nat) (ah rd : List (List Nat)) (H : aA) : Prop where
 la : ah.length = n
 lr : rd.length = R
 a : Rows 49 1 H 0 (2 + R) ah
 r : Rows 0 0 H 1 2 rd
section
variable {n R : Nat} {ah rd : List (List Nat)} {H : aA} (h : HA n R ah rd H)
include h in
theorem HA.growA {k : Nat} (hk : k < n) (x : Nat) : HA n R (jP ah k x) rd (yN 49 1 H 0 (2 + R) ah k x) := by
 have la := h.la
 have lr := h.lr
 refine ⟨by rw [iT]; exact h.la, h.lr, h.a.grow (by omega) x, Rows.apart h.r (by omega) x (by omega) (by omega) fun j hj => by omega⟩
include h in
theorem HA.growR {k : Nat} (hk : k < R) (x : Nat) : HA n R ah (jP rd k x) (yN 0 0 H 1 2 rd k x) := by
 have la := h.la
 have lr := h.lr
 refine ⟨h.la, by rw [iT]; exact h.lr, Rows.apart h.a (by omega) x (by omega) (by omega) fun j hj => by omega, h.r.grow (by omega) x⟩
include h in
theorem HA.low {N : Nat} (hN : 2 + R + n ≤ N) {i : Nat} {b : ABlk} (hi : i < 2 + R + n) (hb : H[i]? = some b) : bG N b.elems = true := by
 have la := h.la
 have lr := h.lr
 by_cases e0 : i = 0
 ·subst e0
  rw [h.a.out] at hb
  obtain rfl := Option.some.inj hb
  exact pP _ _ _ (by omega)
 by_cases e1 : i = 1
 ·subst e1
  rw [h.r.out] at hb
  obtain rfl := Option.some.inj hb
  exact pP _ _ _ (by omega)
 by_cases e2 : i < 2 + R
 ·have := h.r.row (i - 2) (by omega)
  rw [show 2 + (i - 2) = i by omega, hb] at this
  obtain rfl := Option.some.inj this
  exact eW _ _
 ·have := h.a.row (i - (2 + R)) (by omega)
  rw [show 2 + R + (i - (2 + R)) = i by omega, hb] at this
  obtain rfl := Option.some.inj this
  exact eW _ _
theorem HA.same {H2 : aA} (h : HA n R ah rd H) (hs : ∀ i, i < 2 + R + n → H2[i]? = H[i]?) : HA n R ah rd H2 := by
 have la := h.la
 have lr := h.lr
 exact ⟨h.la, h.lr, ⟨by rw [hs 0 (by omega)]; exact h.a.out, fun k hk => by rw [hs _ (by omega)]; exact h.a.row k hk, h.a.ap⟩, ⟨by rw [hs 1 (by omega)]; exact h.r.out, fun k hk => by rw [hs _ (by omega)]; exact h.r.row k hk, h.r.ap⟩⟩
end
structure HI (n R : Nat) (ah rd : List (List Nat)) (w : WI) (H : aA) : Prop where
 ha : HA n R ah rd H
 len : H.length = 2 + R + n + 1
 box : H[2 + R + n]? = some ⟨29, 6, [w.v]⟩
section
variable {n R : Nat} {ah rd : List (List Nat)} {w : WI} {H : aA} (h : HI n R ah rd w H)
include h in
theorem HI.cut (xs : List AV) (hx : bG H.length xs = true) : eF H.length xs H = some H := by
 have hlen := h.len
 unfold eF
 rw [List.take_of_length_le (Nat.le_refl _), hx]
 have : bS H.length H = true := jH fun i b hb => by
  have hi := (List.getElem?_eq_some_iff.1 hb).1
  by_cases e : i < 2 + R + n
  ·exact h.ha.low (by omega) e hb
  ·rw [show i = 2 + R + n by omega, h.box] at hb
   obtain rfl := Option.some.inj hb
   simp [bG, aV, WI.v]
 rw [this]; rfl
include h in
theorem HI.growA {k : Nat} (hk : k < n) (x : Nat) : HI n R (jP ah k x) rd w (yN 49 1 H 0 (2 + R) ah k x) :=
 ⟨h.ha.growA hk x, by rw [nD]; exact h.len, by rw [jC (by omega) (by omega)]; exact h.box⟩
include h in
theorem HI.growR {k : Nat} (hk : k < R) (x : Nat) : HI n R ah (jP rd k x) w (yN 0 0 H 1 2 rd k x) :=
 ⟨h.ha.growR hk x, by rw [nD]; exact h.len, by rw [jC (by omega) (by omega)]; exact h.box⟩
end
section
variable (G : aC) (kk : Nat) (self : cK) (C insts : AV) (hC : aV 0 C = true) (hI : aV 0 insts = true) {n R : Nat} (hn : n ≤ 1000) (hR : R ≤ 1000)
def aDg (C insts : AV) (n R at_ : Nat) (ks : List Nat) (j : Nat) : List AV := [.rp false C 0, .sl 0 n 0 n 1, .mp 1, Nn at_, .ptr (2 + R + n) 1 0 0, insts, Nn n, Nn at_, .ro false (bV ks), Nn ks.length, Nn j]
include hC hI in
theorem yH (at_ : Nat) (ks : List Nat) (j N : Nat) (hN : 2 + R + n < N) : bG N (aDg C insts n R at_ ks j) = true := by
 have h0 := eA (Nat.zero_le N) hC
 have h1 := eA (Nat.zero_le N) hI
 simp [aDg, bG, aV, h0, h1, eW]
 omega
include hC hI in
theorem vT (w : WI) (at_ : Nat) (hat : at_ < 100000) (ks : List Nat) (hks : ∀ k ∈ ks, k < n) (hkl : ks.length ≤ 1000) : ∀ (d j f : Nat) (ah rd : List (List Nat)) (H : aA), j + d = ks.length → d < f → HI n R ah rd w H → (∀ k, (ah.getD k []).length + d ≤ 100000) →
  ∃ H', cC (bB.l10 G kk H.length self) f (aDg C insts n R at_ ks j) H = some (.exit 2, aDg C insts n R at_ ks ks.length, H') ∧ HI n R (gJ at_ (ks.drop j) ah) rd w H'
 | d, j, 0, ah, rd, H, _, h, _, _ => by omega
 | 0, j, f + 1, ah, rd, H, hd, hf, h, hl => by
  have hj : j = ks.length := by omega
  subst hj
  have hc := h.cut _ (yH C insts hC hI (n := n) (R := R) at_ ks ks.length H.length (by have := h.len; omega))
  have g1 : bC Tryd.prog .lss 3 false (Nn ks.length) (Nn ks.length) = some (.bool false) := dR (by omega)
  refine ⟨H, ?_, by rw [List.drop_length]; exact h⟩
  rw [aR, bB.l10]
  refine eM ?_
  refine eC hc ?_
  unfold aDg
  generalize bV ks = nk at *
  have fx := g1
  refine eH ?_
  refine fK ?_; rfl
 | d + 1, j, f + 1, ah, rd, H, hd, hf, h, hl => by
  have hjl : j < ks.length := by omega
  have hc := h.cut _ (yH C insts hC hI (n := n) (R := R) at_ ks j H.length (by have := h.len; omega))
  have g1 : bC Tryd.prog .lss 3 false (Nn j) (Nn ks.length) = some (.bool true) := dU (by omega)
  have q2 : bC Tryd.prog .add 3 true (Nn j) (.int .i64 1) = some (Nn (j + 1 : Nat)) := gR (by omega)
  obtain ⟨k, hk⟩ : ∃ k, k = ks.getD j 0 := ⟨_, rfl⟩
  have hkm : k ∈ ks := by rw [hk, List.getD_eq_getElem?_getD, List.getElem?_eq_getElem hjl]; exact List.getElem_mem hjl
  have hkn := hks k hkm
  have d1 : aM 1 (.ro false (bV ks)) (Nn j) = some (.rp false (Nn (ks.getD j 0)) 0) := sN (jT ks j hjl) rfl
  rw [← hk] at d1
  have l1 : ∀ H, aH G false 1 (.rp false (Nn k) 0) H = some (Nn k) := fun H => rfl
  have d2 : aM 1 (.sl 0 n 0 n 1) (Nn k) = some (.ptr 0 n k 0) := jN hkn
  have la := h.ha.la
  have l2 := mO (G := G) h.ha.a la hkn
  have b2 : ∀ H, dN 1 1 (.int .i64 0) [(0, Nn at_)] H = some (.ro false [Nn at_], H) := fun H => rfl
  have a1 := h.ha.a.app (k := k) (by omega) at_ (by have := hl k; omega)
  have s1 := qM h.ha.a la hkn at_
  have h' := h.growA hkn at_
  have hdrop : ks.drop j = k :: ks.drop (j + 1) := by
   rw [List.drop_eq_getElem_cons hjl, hk, List.getD_eq_getElem?_getD, List.getElem?_eq_getElem hjl]; rfl
  obtain ⟨H', e1, e2⟩ := vT w at_ hat ks hks hkl d (j + 1) f (jP ah k at_) rd _ (by omega) (by omega) h' (fun q => by
   rw [kE (by omega)]
   have h1 := hl q
   have h2 := hl k
   split
   ·rw [List.length_append]; simp only [List.length_cons, List.length_nil]; omega
   ·omega)
  refine ⟨H', ?_, by rw [hdrop]; exact e2⟩
  rw [nD] at e1
  rw [aR, bB.l10]
  refine eM ?_
  refine eC hc ?_
  unfold aDg at e1 ⊢
  clear hc h h' hkm hk hdrop e2
  generalize bB.l10 G kk H.length self = lp at *
  generalize ah.getD k [] = la_ at *
  generalize bV ks = nk at *
  generalize bV (la_ ++ [at_]) = nn at *
  generalize yN 49 1 H 0 (2 + R) ah k at_ = H2 at *
  generalize (la_ ++ [at_]).length = ll2 at *
  generalize la_.length = ll1 at *
  generalize 2 + R + n = bx at *
  generalize 2 + R + k = bk at *
  have fx := aKI g1 <| aKI q2 <| aKI d1 <| aKI l1 <| aKI d2 <| aKI l2 <| aKI b2 <| aKI a1 <| s1
  refine eH ?_
  exact e1
def aEh (C insts : AV) (n at_ : Nat) (ks : List Nat) (j : Nat) : List AV := [.rp false C 0, .sl 0 n 0 n 1, .mp 1, Nn at_, insts, Nn n, Nn at_, .ro false (bV ks), Nn ks.length, Nn j]
include hC hI in
theorem yI (at_ : Nat) (ks : List Nat) (j N : Nat) (hN : 1 < N) : bG N (aEh C insts n at_ ks j) = true := by
 have h0 := eA (Nat.zero_le N) hC
 have h1 := eA (Nat.zero_le N) hI
 simp [aEh, bG, aV, h0, h1, eW]
 omega
include hC hI in
theorem rZ (w : WI) (at_ : Nat) (hat : at_ < 100000) (ks : List Nat) (hks : ∀ k ∈ ks, k < R) (hkl : ks.length ≤ 1000) : ∀ (d j f : Nat) (ah rd : List (List Nat)) (H : aA), j + d = ks.length → d < f → HI n R ah rd w H → (∀ k, (rd.getD k []).length + d ≤ 100000) →
  ∃ H', cC (bB.l15 G kk H.length self) f (aEh C insts n at_ ks j) H = some (.exit 4, aEh C insts n at_ ks ks.length, H') ∧ HI n R ah (gJ at_ (ks.drop j) rd) w H'
 | d, j, 0, ah, rd, H, _, h, _, _ => by omega
 | 0, j, f + 1, ah, rd, H, hd, hf, h, hl => by
  have hj : j = ks.length := by omega
  subst hj
  have hc := h.cut _ (yI C insts hC hI (n := n) at_ ks ks.length H.length (by have := h.len; omega))
  have g1 : bC Tryd.prog .lss 3 false (Nn ks.length) (Nn ks.length) = some (.bool false) := dR (by omega)
  refine ⟨H, ?_, by rw [List.drop_length]; exact h⟩
  rw [aR, bB.l15]
  refine eM ?_
  refine eC hc ?_
  unfold aEh
  generalize bV ks = nk at *
  have fx := g1
  refine eH ?_
  refine fK ?_; rfl
 | d + 1, j, f + 1, ah, rd, H, hd, hf, h, hl => by
  have hjl : j < ks.length := by omega
  have hc := h.cut _ (yI C insts hC hI (n := n) at_ ks j H.length (by have := h.len; omega))
  have g1 : bC Tryd.prog .lss 3 false (Nn j) (Nn ks.length) = some (.bool true) := dU (by omega)
  have q2 : bC Tryd.prog .add 3 true (Nn j) (.int .i64 1) = some (Nn (j + 1 : Nat)) := gR (by omega)
  obtain ⟨k, hk⟩ : ∃ k, k = ks.getD j 0 := ⟨_, rfl⟩
  have hkm : k ∈ ks := by rw [hk, List.getD_eq_getElem?_getD, List.getElem?_eq_getElem hjl]; exact List.getElem_mem hjl
  have hkn := hks k hkm
  have d1 : aM 1 (.ro false (bV ks)) (Nn j) = some (.rp false (Nn (ks.getD j 0)) 0) := sN (jT ks j hjl) rfl
  rw [← hk] at d1
  have l1 : ∀ H, aH G false 1 (.rp false (Nn k) 0) H = some (Nn k) := fun H => rfl
  have lr := h.ha.lr
  have l2 := aCt h.ha.r (k := k) (by omega)
  have b2 : ∀ H, dN 1 1 (.int .i64 0) [(0, Nn at_)] H = some (.ro false [Nn at_], H) := fun H => rfl
  have a1 := h.ha.r.app (k := k) (by omega) at_ (by have := hl k; omega)
  have s1 := aHO h.ha.r (k := k) (by omega) at_
  have h' := h.growR hkn at_
  have hdrop : ks.drop j = k :: ks.drop (j + 1) := by
   rw [List.drop_eq_getElem_cons hjl, hk, List.getD_eq_getElem?_getD, List.getElem?_eq_getElem hjl]; rfl
  obtain ⟨H', e1, e2⟩ := rZ w at_ hat ks hks hkl d (j + 1) f ah (jP rd k at_) _ (by omega) (by omega) h' (fun q => by
   rw [kE (by omega)]
   have h1 := hl q
   have h2 := hl k
   split
   ·rw [List.length_append]; simp only [List.length_cons, List.length_nil]; omega
   ·omega)
  refine ⟨H', ?_, by rw [hdrop]; exact e2⟩
  rw [nD] at e1
  rw [aR, bB.l15]
  refine eM ?_
  refine eC hc ?_
  unfold aEh at e1 ⊢
  clear hc h h' hkm hk hdrop e2
  generalize bB.l15 G kk H.length self = lp at *
  generalize rd.getD k [] = la_ at *
  generalize bV ks = nk at *
  generalize bV (la_ ++ [at_]) = nn at *
  generalize yN 0 0 H 1 2 rd k at_ = H2 at *
  generalize (la_ ++ [at_]).length = ll2 at *
  generalize la_.length = ll1 at *
  generalize 2 + k = bk at *
  have fx := aKI g1 <| aKI q2 <| aKI d1 <| aKI l1 <| aKI l2 <| aKI b2 <| aKI a1 <| s1
  refine eH ?_
  exact e1
end
theorem aCT : ∀ (b : Nat) (L : List (List Nat)) (l : List Nat), nJ b (L ++ [l]) = nJ b L ++ [.sl (b + L.length) l.length 0 l.length 1]
 | b, [], l => rfl
 | b, l0 :: L, l => by
  simp only [List.cons_append, nJ, aCT (b + 1) L l, List.length_cons]
  rw [show b + 1 + L.length = b + (L.length + 1) by omega]
theorem aFD (j : Nat) : List.replicate (j + 1) ([] : List Nat) = List.replicate j [] ++ [[]] := by rw [List.replicate_succ']
theorem aCS (b j : Nat) : nJ b (List.replicate (j + 1) []) = nJ b (List.replicate j []) ++ [.sl (b + j) 0 0 0 1] := by
 rw [aFD, aCT, List.length_replicate]; rfl
theorem aFs (n k : Nat) : (List.replicate n ([] : List Nat)).getD k [] = [] := by
 simp only [List.getD_eq_getElem?_getD, List.getElem?_replicate]
 split <;> rfl
structure Gr (H H' : aA) (q base n : Nat) : Prop where
 len : H'.length = base + n
 same : ∀ i, i < base → i ≠ q → H'[i]? = H[i]?
 row : ∀ k, k < n → H'[base + k]? = some ⟨3, 1, []⟩
theorem yE {q base n : Nat} (hq : q < base) : ∀ (d j : Nat) (H : aA), j + d = n → H.length = base + j → H[q]? = some ⟨49, 1, nJ base (List.replicate j []) ++ List.replicate d .nils⟩ → (∀ k, k < j → H[base + k]? = some ⟨3, 1, []⟩) →
  Gr H (jK q 0 3 1 (List.range' j d) H) q base n ∧ (jK q 0 3 1 (List.range' j d) H)[q]? = some ⟨49, 1, nJ base (List.replicate n [])⟩
 | 0, j, H, hj, hl, hb, hr => by
  have : j = n := by omega
  subst this
  refine ⟨⟨hl, fun _ _ _ => rfl, hr⟩, ?_⟩
  simpa [jK] using hb
 | d + 1, j, H, hj, hl, hb, hr => by
  have hqH : q < H.length := by omega
  have hslen : (nJ base (List.replicate j [])).length = j := by rw [nK, List.length_replicate]
  have he : (nJ base (List.replicate j []) ++ List.replicate (d + 1) AV.nils)[j]? = some .nils := by
   rw [List.getElem?_append_right (by omega), hslen, Nat.sub_self]; rfl
  have hv : sG (.ptr q 0 j 0, 0, 3, 1) H = H.set q ⟨49, 1, nJ base (List.replicate (j + 1) []) ++ List.replicate d .nils⟩ ++ [⟨3, 1, []⟩] := by
   unfold sG
   simp only [hb, he, AV.cells, List.getElem?_cons_zero]
   have e1 : (decide (0 < 1) && decide (0 < 1)) = true := rfl
   simp only [Nat.lt_one_iff, decide_true, Bool.and_self, Nat.zero_lt_one]
   have e2 : kN AV.nils ([AV.nils].set 0 (.sl H.length 0 0 0 1)) = .sl H.length 0 0 0 1 := rfl
   rw [e2, aCS]
   congr 3
   rw [List.set_append_right _ _ (by omega), hslen, Nat.sub_self, List.append_assoc, hl]
   rfl
  simp only [List.range'_succ, jK]
  rw [hv]
  obtain ⟨H1, hH1⟩ : ∃ H1, H1 = H.set q ⟨49, 1, nJ base (List.replicate (j + 1) []) ++ List.replicate d .nils⟩ ++ [⟨3, 1, []⟩] := ⟨_, rfl⟩
  rw [← hH1]
  have h1l : H1.length = base + (j + 1) := by rw [hH1]; simp [hl]; omega
  have same : ∀ i, i < H.length → i ≠ q → H1[i]? = H[i]? := fun i hi hne => by
   rw [hH1, List.getElem?_append_left (by simpa using hi), List.getElem?_set_ne (Ne.symm hne)]
  obtain ⟨g1, g2⟩ := yE (n := n) (base := base) hq d (j + 1) H1 (by omega) h1l (by rw [hH1, List.getElem?_append_left (by simpa using hqH), List.getElem?_set_self hqH]) (fun k hk => by
   by_cases e : k = j
   ·subst e
    rw [hH1, List.getElem?_append_right (by simp [hl])]
    simp [hl]
   ·rw [same _ (by omega) (by omega)]; exact hr k (by omega))
  exact ⟨⟨g1.len, fun i hi hne => by rw [g1.same i hi hne]; exact same i (by omega) hne, g1.row⟩, g2⟩
theorem aBN {q base n : Nat} (hq : q < base) : ∀ (d j : Nat) (H : aA), j + d = n → H.length = base + j → H[q]? = some ⟨0, 0, nJ base (List.replicate j [])⟩ → (∀ k, k < j → H[base + k]? = some ⟨3, 1, []⟩) →
  Gr H (lK q 3 1 d H) q base n ∧ (lK q 3 1 d H)[q]? = some ⟨0, 0, nJ base (List.replicate n [])⟩
 | 0, j, H, hj, hl, hb, hr => by
  have : j = n := by omega
  subst this
  exact ⟨⟨hl, fun _ _ _ => rfl, hr⟩, hb⟩
 | d + 1, j, H, hj, hl, hb, hr => by
  have hqH : q < H.length := by omega
  have hv : vR q 3 1 H = H.set q ⟨0, 0, nJ base (List.replicate (j + 1) [])⟩ ++ [⟨3, 1, []⟩] := by
   unfold vR
   simp only [hb]
   have e1 : (decide (0 < 1) && decide True) = true := rfl
   simp only [e1, aCS, hl]
  simp only [lK]
  rw [hv]
  obtain ⟨H1, hH1⟩ : ∃ H1, H1 = H.set q ⟨0, 0, nJ base (List.replicate (j + 1) [])⟩ ++ [⟨3, 1, []⟩] := ⟨_, rfl⟩
  rw [← hH1]
  have h1l : H1.length = base + (j + 1) := by rw [hH1]; simp [hl]; omega
  have same : ∀ i, i < H.length → i ≠ q → H1[i]? = H[i]? := fun i hi hne => by
   rw [hH1, List.getElem?_append_left (by simpa using hi), List.getElem?_set_ne (Ne.symm hne)]
  obtain ⟨g1, g2⟩ := aBN (n := n) (base := base) hq d (j + 1) H1 (by omega) h1l (by rw [hH1, List.getElem?_append_left (by simpa using hqH), List.getElem?_set_self hqH]) (fun k hk => by
   by_cases e : k = j
   ·subst e
    rw [hH1, List.getElem?_append_right (by simp [hl])]
    simp [hl]
   ·rw [same _ (by omega) (by omega)]; exact hr k (by omega))
  exact ⟨⟨g1.len, fun i hi hne => by rw [g1.same i hi hne]; exact same i (by omega) hne, g1.row⟩, g2⟩
theorem Rows.empty {ty sz : Nat} {H' : aA} {q base n : Nat} (hq : q < base) (h : H'[q]? = some ⟨ty, sz, nJ base (List.replicate n [])⟩) (hr : ∀ k, k < n → H'[base + k]? = some ⟨3, 1, []⟩) : Rows ty sz H' q base (List.replicate n []) :=
 ⟨h, fun k hk => by rw [aFs]; exact hr k (by simpa using hk), .inl hq⟩
theorem aFY (n R : Nat) (a0 m0 : AV) : ∃ H1 H2, qN (.mp 1, .agg [a0, Nn R, m0], 1, 3, 1) [⟨49, 1, List.replicate n .nils⟩, ⟨0, 0, []⟩] = H1 ∧ qB (.sl 0 n 0 n 1, 0, 3, 1) H1 = H2 ∧ HA n R (List.replicate n []) (List.replicate R []) H2 ∧ H2.length = 2 + R + n := by
 refine ⟨_, _, rfl, rfl, ?_⟩
 have e1 : qN (.mp 1, .agg [a0, Nn R, m0], 1, 3, 1) [⟨49, 1, List.replicate n .nils⟩, ⟨0, 0, []⟩] = lK 1 3 1 R [⟨49, 1, List.replicate n .nils⟩, ⟨0, 0, []⟩] := by
  unfold qN
  simp only [AV.cells, List.getElem?_cons_succ, List.getElem?_cons_zero, Int.toNat_natCast]
 rw [e1]
 obtain ⟨g1, g2⟩ := aBN (q := 1) (base := 2) (n := R) (by omega) R 0 [⟨49, 1, List.replicate n .nils⟩, ⟨0, 0, []⟩] (by omega) rfl rfl (fun k hk => by omega)
 generalize lK 1 3 1 R [⟨49, 1, List.replicate n .nils⟩, ⟨0, 0, []⟩] = H1 at *
 have e2 : qB (.sl 0 n 0 n 1, 0, 3, 1) H1 = jK 0 0 3 1 (List.range' 0 n) H1 := rfl
 rw [e2]
 have h10 : H1[0]? = some ⟨49, 1, List.replicate n .nils⟩ := by rw [g1.same 0 (by omega) (by omega)]; rfl
 obtain ⟨g3, g4⟩ := yE (q := 0) (base := 2 + R) (n := n) (by omega) n 0 H1 (by omega) (by rw [g1.len]; omega) (by rw [h10]; rfl) (fun k hk => by omega)
 generalize jK 0 0 3 1 (List.range' 0 n) H1 = H2 at *
 refine ⟨⟨by simp, by simp, Rows.empty (by omega) g4 g3.row, Rows.empty (by omega) (by rw [g3.same 1 (by omega) (by omega)]; exact g2) (fun k hk => by rw [g3.same _ (by omega) (by omega)]; exact g1.row k hk)⟩, g3.len⟩
def kL (ws : List WI) (at_ : Nat) : List Nat := (nX (sW ws.length (ws.getD at_ default) at_)).map Int.toNat
def nP (ws : List WI) (at_ : Nat) : List Nat := (nX (rdF (ws.getD at_ default))).map Int.toNat
theorem kT {l : List Int} (h : l.Pairwise (· < ·)) (h0 : ∀ x ∈ l, 0 ≤ x) : (l.map Int.toNat).Nodup := by
 induction l with
 | nil => simp
 | cons x l ih =>
  rw [List.pairwise_cons] at h
  rw [List.map_cons, List.nodup_cons]
  refine ⟨fun hm => ?_, ih h.2 fun y hy => h0 y (by simp [hy])⟩
  obtain ⟨y, hy, e⟩ := List.mem_map.1 hm
  have h1 := h.1 y hy
  have h2 := h0 y (by simp [hy])
  have h3 := h0 x (by simp)
  omega
theorem zX {l : List Int} (h0 : ∀ x ∈ l, 0 ≤ x) : I3.intsI l = bV (l.map Int.toNat) := by
 induction l with
 | nil => rfl
 | cons x l ih =>
  have h1 := h0 x (by simp)
  have := ih fun y hy => h0 y (by simp [hy])
  unfold I3.intsI bV at this ⊢
  simp only [List.map_cons]
  rw [this]
  have e : I6 x = Nn x.toNat := by show AV.int .i64 x = .int .i64 (x.toNat : Int); rw [Int.toNat_of_nonneg h1]
  rw [e]
theorem hU (ws : List WI) (at_ : Nat) : (∀ k ∈ kL ws at_, k < ws.length) ∧ (kL ws at_).Nodup ∧ I3.intsI (nX (sW ws.length (ws.getD at_ default) at_)) = bV (kL ws at_) ∧ (kL ws at_).length ≤ 1000 ∧ ∀ q, q ∈ kL ws at_ ↔ q < ws.length ∧ (q : Int) ∈ nL (ws.getD at_ default) at_ := by
 have hl := aBg ws.length (ws.getD at_ default) at_
 obtain ⟨h1, h2⟩ := pO (l := sW ws.length (ws.getD at_ default) at_) (by omega)
 have hm : ∀ x, x ∈ nX (sW ws.length (ws.getD at_ default) at_) → 0 ≤ x ∧ x < ws.length := fun x hx => by
  have := (h2 x).1 hx
  simp [sW] at this
  exact this.2
 have hq : ∀ q, q ∈ kL ws at_ ↔ q < ws.length ∧ (q : Int) ∈ nL (ws.getD at_ default) at_ := fun q => by
  unfold kL
  constructor
  ·intro hq
   obtain ⟨x, hx, rfl⟩ := List.mem_map.1 hq
   have h3 := hm x hx
   have h4 := (h2 x).1 hx
   refine ⟨by omega, ?_⟩
   rw [Int.toNat_of_nonneg h3.1]
   simp [sW] at h4
   exact h4.1
  ·rintro ⟨h3, h4⟩
   exact List.mem_map.2 ⟨q, (h2 _).2 (List.mem_filter.2 ⟨h4, by simp [h3]⟩), by simp⟩
 refine ⟨fun k hk => ((hq k).1 hk).1, kT h1 fun x hx => (hm x hx).1, zX fun x hx => (hm x hx).1, ?_, hq⟩
 have hn : (kL ws at_).Nodup := kT h1 fun x hx => (hm x hx).1
 have : (kL ws at_).length ≤ 3 := by
  unfold kL nX
  rw [List.length_map, List.length_take]
  have : (I3.cpF (I3.inI 0 ((sW ws.length (ws.getD at_ default) at_).length - 1) 1 (sW ws.length (ws.getD at_ default) at_))).2.length = (sW ws.length (ws.getD at_ default) at_).length := by rw [I3.cpF_len, I3.inI_len]
  omega
 omega
theorem jV {ws : List WI} {at_ R : Nat} (h : at_ < ws.length) (hg : (ws.getD at_ default).Good R ws.length) : (∀ k ∈ nP ws at_, k < R) ∧ (nP ws at_).Nodup ∧ I3.intsI (nX (rdF (ws.getD at_ default))) = bV (nP ws at_) ∧ (nP ws at_).length ≤ 1000 ∧ ∀ q : Nat, q ∈ nP ws at_ ↔ (q : Int) ∈ rdF (ws.getD at_ default) := by
 obtain ⟨w, hw⟩ : ∃ w, w = ws.getD at_ default := ⟨_, rfl⟩
 unfold nP
 rw [← hw] at hg ⊢
 have hl := aBl w
 obtain ⟨h1, h2⟩ := pO hl
 obtain ⟨ga, gb, gc⟩ := aGo hg
 have hm : ∀ x, x ∈ nX (rdF w) → 0 ≤ x ∧ x < R := fun x hx => by
  have := (h2 x).1 hx
  unfold rdF at this
  simp only [List.mem_append] at this
  rcases this with this | this | this
  ·split at this
   ·rename_i q; rw [List.mem_singleton.1 this]; exact ga q
   ·cases this
  ·split at this
   ·rename_i q; rw [List.mem_singleton.1 this]; exact gb q
   ·cases this
  ·split at this
   ·rename_i q; rw [List.mem_singleton.1 this]; exact gc q
   ·cases this
 refine ⟨fun k hk => ?_, kT h1 fun x hx => (hm x hx).1, zX fun x hx => (hm x hx).1, ?_, fun q => ?_⟩
 ·obtain ⟨x, hx, rfl⟩ := List.mem_map.1 hk
  have := hm x hx; omega
 ·rw [List.length_map]
  unfold nX
  rw [List.length_take, I3.cpF_len, I3.inI_len]; omega
 ·constructor
  ·intro hq
   obtain ⟨x, hx, rfl⟩ := List.mem_map.1 hq
   rw [Int.toNat_of_nonneg (hm x hx).1]
   exact (h2 x).1 hx
  ·intro hq
   exact List.mem_map.2 ⟨q, (h2 _).2 hq, by simp⟩
section
variable (G : aC) (kk : Nat) (self : cK) (bor : Bool) (ws : List WI) (R : Nat) (M : Int) (hn : ws.length ≤ 1000) (hR : R ≤ 1000) (hk : 2000 ≤ kk) (hgood : ∀ j, j < ws.length → (ws.getD j default).Good R ws.length)
def xs7 (bor : Bool) (ws : List WI) (R : Nat) (M : Int) (at_ : Nat) : List AV := [.rp false (cV bor ws R M) 0, .sl 0 ws.length 0 ws.length 1, .mp 1, .ro bor (cJ ws), Nn ws.length, Nn at_]
theorem mZ : aV 0 (cV bor ws R M) = true := by simp [cV, aV, bG, fH]
theorem aFK (at_ N : Nat) (hN : 1 < N) : bG N (xs7 bor ws R M at_) = true := by
 have h0 := eA (Nat.zero_le N) (mZ bor ws R M)
 simp [xs7, bG, aV, h0, fH]
 omega
include hgood in
theorem aGx (at_ : Nat) (hat : at_ ≤ ws.length) : (∀ k, ((jQ (kL ws) ws.length at_).getD k []).length ≤ at_) ∧ (∀ k, ((jQ (nP ws) R at_).getD k []).length ≤ at_) := by
 refine ⟨fun k => ?_, fun k => ?_⟩
 ·rw [oA (kL ws) ws.length at_ (fun a ha => ⟨(hU ws a).1, (hU ws a).2.1⟩)]; exact pB ..
 ·rw [oA (nP ws) R at_ (fun a ha => ⟨(jV (by omega) (hgood a (by omega))).1, (jV (by omega) (hgood a (by omega))).2.1⟩)]; exact pB ..
include hn hR hk hgood in
theorem aGt : ∀ (d at_ f : Nat) (H : aA), at_ + d = ws.length → d < f → HA ws.length R (jQ (kL ws) ws.length at_) (jQ (nP ws) R at_) H → 2 + R + ws.length ≤ H.length →
  ∃ H', cC (bB.l7 G kk (2 + R + ws.length) self) f (xs7 bor ws R M at_) H = some (.exit 0, xs7 bor ws R M ws.length, H') ∧ HA ws.length R (jQ (kL ws) ws.length ws.length) (jQ (nP ws) R ws.length) H' ∧ H'.length = 2 + R + ws.length
 | d, at_, 0, H, _, h, _, _ => by omega
 | d, at_, f + 1, H, hd, hf, h, hH => by
  obtain ⟨Ht, hHt⟩ : ∃ Ht, Ht = H.take (2 + R + ws.length) := ⟨_, rfl⟩
  have hlt : Ht.length = 2 + R + ws.length := by rw [hHt, List.length_take]; omega
  have ht : HA ws.length R (jQ (kL ws) ws.length at_) (jQ (nP ws) R at_) Ht := h.same fun i hi => by rw [hHt, List.getElem?_take_of_lt hi]
  have hc : eF (2 + R + ws.length) (xs7 bor ws R M at_) H = some Ht := by
   unfold eF
   rw [← hHt, aFK bor ws R M at_ _ (by omega)]
   have : bS (2 + R + ws.length) Ht = true := jH fun i b hb => ht.low (Nat.le_refl _) (by have := (List.getElem?_eq_some_iff.1 hb).1; omega) hb
   rw [this]; rfl
  cases d with
  | zero =>
   have hat : at_ = ws.length := by omega
   subst hat
   have g1 : bC Tryd.prog .lss 3 false (Nn ws.length) (Nn ws.length) = some (.bool false) := dR (by omega)
   refine ⟨Ht, ?_, ht, hlt⟩
   rw [aR, bB.l7]
   refine eM ?_
   refine eC hc ?_
   unfold xs7
   generalize cV bor ws R M = C at *
   generalize cJ ws = W at *
   have fx := g1
   refine eH ?_
   refine fK ?_; rfl
  | succ d =>
   have g1 : bC Tryd.prog .lss 3 false (Nn at_) (Nn ws.length) = some (.bool true) := dU (by omega)
   have q2 : bC Tryd.prog .add 3 true (Nn at_) (.int .i64 1) = some (Nn (at_ + 1 : Nat)) := gR (by omega)
   have d1 := rG bor ws at_ (by omega)
   have hg := hgood at_ (by omega)
   obtain ⟨r1, r2, r3, r4, r5⟩ := jV (by omega) hg
   obtain ⟨n1, n2, n3, n4, n5⟩ := hU ws at_
   have nx : ∀ H, aJ (cG.f G kk) [cV bor ws R M, Nn at_] H = some (.ro false (bV (kL ws at_)), H) := fun H => aZ (H := H) (by
    have e := qD G (kk - 20) bor ws R M at_ (by omega) (by omega)
    rw [show kk - 20 + 20 = kk by omega, if_pos (by omega), Int.toNat_natCast, n3] at e
    exact e) (by simp [dK, cV, bP, jA]) (by simp [dV, tX])
   have rdc : ∀ H, aJ (cD.f G kk) [(ws.getD at_ default).v] H = some (.ro false (bV (nP ws at_)), H) := fun H => aZ (H := H) (by
    have e := tI G (kk - 20) (ws.getD at_ default) (by omega)
    rw [show kk - 20 + 20 = kk by omega, r3] at e
    exact e) (by simp [dK, bP, WI.v]) (by simp [dV, tX])
   obtain ⟨w, hw⟩ : ∃ w, w = ws.getD at_ default := ⟨_, rfl⟩
   rw [← hw] at d1 rdc
   have li := fun H => wS G bor w H
   have lC : ∀ H, aH G true 3 (.rp false (cV bor ws R M) 0) H = some (cV bor ws R M) := fun H => rfl
   have bx : gD 29 (.agg [(.int .i64 0), (.int .i64 0), (.int .i64 0), (.int .i64 0), (.int .i64 0), (.int .i64 0)]) Ht = some (.ptr (2 + R + ws.length) 1 0 0, Ht ++ [⟨29, 6, [(.agg [(.int .i64 0), (.int .i64 0), (.int .i64 0), (.int .i64 0), (.int .i64 0), (.int .i64 0)])]⟩]) := by
    rw [← hlt]; rfl
   have gl : ∀ b : ABlk, (Ht ++ [b])[2 + R + ws.length]? = some b := fun b => by rw [← hlt, List.getElem?_append_right (Nat.le_refl _), Nat.sub_self]; rfl
   have st : hX (cH 6 (.ptr (2 + R + ws.length) 1 0 0) w.v (Ht ++ [⟨29, 6, [(.agg [(.int .i64 0), (.int .i64 0), (.int .i64 0), (.int .i64 0), (.int .i64 0), (.int .i64 0)])]⟩])) = some (.tup [], Ht ++ [⟨29, 6, [w.v]⟩]) := by
    have e : cH 6 (.ptr (2 + R + ws.length) 1 0 0) w.v (Ht ++ [⟨29, 6, [(.agg [(.int .i64 0), (.int .i64 0), (.int .i64 0), (.int .i64 0), (.int .i64 0), (.int .i64 0)])]⟩]) = some (Ht ++ [⟨29, 6, [w.v]⟩]) := by
     unfold cH
     simp only [gl]
     have e2 : (Ht ++ [(⟨29, 6, [(.agg [(.int .i64 0), (.int .i64 0), (.int .i64 0), (.int .i64 0), (.int .i64 0), (.int .i64 0)])]⟩ : ABlk)]).set (2 + R + ws.length) ⟨29, 6, [w.v]⟩ = Ht ++ [⟨29, 6, [w.v]⟩] := by
      rw [← hlt, List.set_append_right _ _ (Nat.le_refl _), Nat.sub_self]; rfl
     rw [if_pos ⟨rfl, rfl, rfl⟩]
     simp only [List.getElem?_cons_zero]
     rw [if_pos (by show 0 + 6 ≤ 6; omega)]
     exact congrArg some e2
    rw [e]; rfl
   have hi : HI ws.length R (jQ (kL ws) ws.length at_) (jQ (nP ws) R at_) w (Ht ++ [⟨29, 6, [w.v]⟩]) :=
    ⟨ht.same fun i hi => by rw [List.getElem?_append_left (by omega)], by simp [hlt], gl _⟩
   obtain ⟨b1, b2⟩ := aGx ws R hgood at_ (by omega)
   obtain ⟨H1, p1, p2⟩ := vT G kk self (cV bor ws R M) (.ro bor (cJ ws)) (mZ bor ws R M) (by simp [aV, fH]) w at_ (by omega) (kL ws at_) n1 n4 (kL ws at_).length 0 kk _ _ _ (by omega) (by omega) hi (fun k => by have := b1 k; omega)
   rw [List.drop_zero] at p2
   have lw : aH G true 6 (.ptr (2 + R + ws.length) 1 0 0) H1 = some w.v := by
    unfold aH
    simp only [p2.box]
    rfl
   obtain ⟨H2, p3, p4⟩ := rZ G kk self (cV bor ws R M) (.ro bor (cJ ws)) (mZ bor ws R M) (by simp [aV, fH]) w at_ (by omega) (nP ws at_) r1 r4 (nP ws at_).length 0 kk _ _ _ (by omega) (by omega) p2 (fun k => by have := b2 k; omega)
   rw [List.drop_zero] at p4
   have e1 : gJ at_ (kL ws at_) (jQ (kL ws) ws.length at_) = jQ (kL ws) ws.length (at_ + 1) := rfl
   have e2 : gJ at_ (nP ws at_) (jQ (nP ws) R at_) = jQ (nP ws) R (at_ + 1) := rfl
   rw [e1, e2] at p4
   obtain ⟨H', z1, z2, z3⟩ := aGt d (at_ + 1) f H2 (by omega) (by omega) p4.ha (by rw [p4.len]; omega)
   refine ⟨H', ?_, z2, z3⟩
   have ln1 : cB (.ro false (bV (kL ws at_))) = some (Nn (kL ws at_).length) := by simp [cB, dZ]
   have ln2 : cB (.ro false (bV (nP ws at_))) = some (Nn (nP ws at_).length) := by simp [cB, dZ]
   have p1' : cC (bB.l10 G kk (Ht ++ [⟨29, 6, [w.v]⟩] : aA).length self) kk (aDg (cV bor ws R M) (.ro bor (cJ ws)) ws.length R at_ (kL ws at_) 0) (Ht ++ [⟨29, 6, [w.v]⟩] : aA) = _ := p1
   rw [aR, bB.l7]
   refine eM ?_
   refine eC hc ?_
   clear p1 hc h ht hi p2 p4 z2 b1 b2 gl r1 r2 r3 r4 r5 n1 n2 n3 n4 n5 hw e1 e2
   unfold xs7 at z1 ⊢
   unfold aDg at p1'
   unfold aEh at p3
   generalize cV bor ws R M = C at *
   generalize cJ ws = W at *
   generalize bV (kL ws at_) = NX at *
   generalize bV (nP ws at_) = RX at *
   generalize (kL ws at_).length = nl at *
   generalize (nP ws at_).length = rl at *
   generalize w.v = wv at *
   generalize 2 + R + ws.length = bx_ at *
   have fx := aKI g1 <| aKI d1 <| aKI li <| aKI bx <| aKI st <| aKI lC <| aKI nx <| aKI ln1 <| aKI lw <| aKI rdc <| aKI ln2 <| q2
   have lx1 := p1'
   have lx2 := p3
   refine eH ?_
   exact z1
end
structure HO (n R : Nat) (ah rd out : List (List Nat)) (H : aA) : Prop where
 ha : HA n R ah rd H
 lo : out.length = n
 o : Rows 49 1 H (2 + R + n) (2 + R + n + 2) out
 bx : H[2 + R + n + 1]? = some ⟨56, 1, [.sl (2 + R + n) n 0 n 1]⟩
section
variable {n R : Nat} {ah rd out : List (List Nat)} {H : aA} (h : HO n R ah rd out H)
include h in
theorem HO.low {N : Nat} (hN : 2 + R + n + 2 + n ≤ N) {i : Nat} {b : ABlk} (hi : i < 2 + R + n + 2 + n) (hb : H[i]? = some b) : bG N b.elems = true := by
 have lo := h.lo
 by_cases e0 : i < 2 + R + n
 ·exact h.ha.low (by omega) e0 hb
 by_cases e1 : i = 2 + R + n
 ·subst e1
  rw [h.o.out] at hb
  obtain rfl := Option.some.inj hb
  exact pP _ _ _ (by omega)
 by_cases e2 : i = 2 + R + n + 1
 ·subst e2
  rw [h.bx] at hb
  obtain rfl := Option.some.inj hb
  simp [bG, aV]; omega
 ·have := h.o.row (i - (2 + R + n + 2)) (by omega)
  rw [show 2 + R + n + 2 + (i - (2 + R + n + 2)) = i by omega, hb] at this
  obtain rfl := Option.some.inj this
  exact eW _ _
include h in
theorem HO.grow {k : Nat} (hk : k < n) (x : Nat) : HO n R ah rd (jP out k x) (yN 49 1 H (2 + R + n) (2 + R + n + 2) out k x) := by
 have lo := h.lo
 exact ⟨h.ha.same fun i hi => jC (by omega) (by omega), by rw [iT]; exact h.lo, h.o.grow (by omega) x, by rw [jC (by omega) (by omega)]; exact h.bx⟩
theorem HO.same {H2 : aA} (h : HO n R ah rd out H) (hs : ∀ i, i < 2 + R + n + 2 + n → H2[i]? = H[i]?) : HO n R ah rd out H2 := by
 have lo := h.lo
 exact ⟨h.ha.same fun i hi => hs i (by omega), h.lo, ⟨by rw [hs _ (by omega)]; exact h.o.out, fun k hk => by rw [hs _ (by omega)]; exact h.o.row k hk, h.o.ap⟩, by rw [hs _ (by omega)]; exact h.bx⟩
end
structure HT (n R : Nat) (ah rd out : List (List Nat)) (tb : List Nat) (H : aA) : Prop where
 ho : HO n R ah rd out H
 len : H.length = 2 + R + n + 2 + n + 2
 e : H[2 + R + n + 2 + n]? = some ⟨3, 1, []⟩
 t : H[2 + R + n + 2 + n + 1]? = some ⟨3, 1, bV tb⟩
section
variable {n R : Nat} {ah rd out : List (List Nat)} {tb : List Nat} {H : aA} (h : HT n R ah rd out tb H)
include h in
theorem HT.cut (xs : List AV) (hx : bG H.length xs = true) : eF H.length xs H = some H := by
 have hlen := h.len
 unfold eF
 rw [List.take_of_length_le (Nat.le_refl _), hx]
 have : bS H.length H = true := jH fun i b hb => by
  have hi := (List.getElem?_eq_some_iff.1 hb).1
  by_cases e0 : i < 2 + R + n + 2 + n
  ·exact h.ho.low (by omega) e0 hb
  by_cases e1 : i = 2 + R + n + 2 + n
  ·subst e1
   rw [h.e] at hb
   obtain rfl := Option.some.inj hb
   rfl
  ·rw [show i = 2 + R + n + 2 + n + 1 by omega, h.t] at hb
   obtain rfl := Option.some.inj hb
   exact eW _ _
 rw [this]; rfl
include h in
theorem HT.grow {k : Nat} (hk : k < n) (x : Nat) : HT n R ah rd (jP out k x) tb (yN 49 1 H (2 + R + n) (2 + R + n + 2) out k x) :=
 ⟨h.ho.grow hk x, by rw [nD]; exact h.len, by rw [jC (by omega) (by omega)]; exact h.e, by rw [jC (by omega) (by omega)]; exact h.t⟩
include h in
theorem HT.push (tb2 : List Nat) : HT n R ah rd out tb2 (H.set (2 + R + n + 2 + n + 1) ⟨3, 1, bV tb2⟩) := by
 have hl := h.len
 exact ⟨h.ho.same fun i hi => by rw [List.getElem?_set_ne (by omega)], by rw [List.length_set]; exact h.len, by rw [List.getElem?_set_ne (by omega)]; exact h.e, List.getElem?_set_self (by omega)⟩
include h in
theorem HT.idx {G : aC} {m j : Nat} (hm : m ≤ tb.length) (hj : j < m) :
  aM 1 (.sl (2 + R + n + 2 + n + 1) tb.length 0 m 1) (Nn j) = some (.ptr (2 + R + n + 2 + n + 1) tb.length j 0) ∧ aH G false 1 (.ptr (2 + R + n + 2 + n + 1) tb.length j 0) H = some (Nn (tb.getD j 0)) := by
 refine ⟨?_, ?_⟩
 ·unfold aM
  simp only [Int.toNat_natCast, Nat.zero_add]
  rw [if_pos (by omega), if_pos trivial]
 ·unfold aH
  simp only [h.t, dZ, if_true, jT tb j (by omega)]
  rfl
include h in
theorem HT.box (G : aC) : aH G false 1 (.ptr (2 + R + n + 1) 1 0 0) H = some (.sl (2 + R + n) n 0 n 1) := by
 unfold aH
 simp only [h.ho.bx]
 rfl
end
section
variable (G : aC) (kk : Nat) (self : cK) (C : AV) (hC : aV 0 C = true) {n R : Nat} (hn : n ≤ 1000) (hR : R ≤ 1000)
abbrev bO (R n : Nat) : AV := .ptr (2 + R + n + 1) 1 0 0
abbrev tO (R n L m : Nat) : AV := .sl (2 + R + n + 2 + n + 1) L 0 m 1
def aDh (C : AV) (n R r L : Nat) (j : Nat) : List AV := [.rp false C 0, .sl 0 n 0 n 1, .mp 1, bO R n, .fn 59 [bO R n], Nn r, tO R n L L, Nn R, Nn r, tO R n L L, Nn L, Nn j]
include hC in
theorem yJ (r L j N : Nat) (hN : 2 + R + n + 2 + n + 1 < N) : bG N (aDh C n R r L j) = true := by
 have h0 := eA (Nat.zero_le N) hC
 simp [aDh, bG, aV, h0]
 omega
include hC in
theorem aAe (r : Nat) (hr : r < 100000) (ah rd : List (List Nat)) (tb : List Nat) (hks : ∀ k ∈ tb, k < n) (htl : tb.length ≤ 1000) : ∀ (d j f : Nat) (out : List (List Nat)) (H : aA), j + d = tb.length → d < f → HT n R ah rd out tb H → (∀ k, (out.getD k []).length + d ≤ 100000) →
  ∃ H', cC (bB.l27 G kk H.length self) f (aDh C n R r tb.length j) H = some (.exit 8, aDh C n R r tb.length tb.length, H') ∧ HT n R ah rd (gJ r (tb.drop j) out) tb H'
 | d, j, 0, out, H, _, h, _, _ => by omega
 | 0, j, f + 1, out, H, hd, hf, h, hl => by
  have hj : j = tb.length := by omega
  subst hj
  have hc := h.cut _ (yJ C hC (n := n) (R := R) r tb.length tb.length H.length (by have := h.len; omega))
  have g1 : bC Tryd.prog .lss 3 false (Nn tb.length) (Nn tb.length) = some (.bool false) := dR (by omega)
  refine ⟨H, ?_, by rw [List.drop_length]; exact h⟩
  rw [aR, bB.l27]
  refine eM ?_
  refine eC hc ?_
  unfold aDh
  have fx := g1
  refine eH ?_
  refine fK ?_; rfl
 | d + 1, j, f + 1, out, H, hd, hf, h, hl => by
  have hjl : j < tb.length := by omega
  have hc := h.cut _ (yJ C hC (n := n) (R := R) r tb.length j H.length (by have := h.len; omega))
  have g1 : bC Tryd.prog .lss 3 false (Nn j) (Nn tb.length) = some (.bool true) := dU (by omega)
  have q2 : bC Tryd.prog .add 3 true (Nn j) (.int .i64 1) = some (Nn (j + 1 : Nat)) := gR (by omega)
  obtain ⟨d1, l1⟩ := h.idx (G := G) (Nat.le_refl _) hjl
  have lb := h.box G
  obtain ⟨k, hk⟩ : ∃ k, k = tb.getD j 0 := ⟨_, rfl⟩
  have hkm : k ∈ tb := by rw [hk, List.getD_eq_getElem?_getD, List.getElem?_eq_getElem hjl]; exact List.getElem_mem hjl
  have hkn := hks k hkm
  rw [← hk] at l1
  have d2 : aM 1 (.sl (2 + R + n) n 0 n 1) (Nn k) = some (.ptr (2 + R + n) n k 0) := jN hkn
  have lo := h.ho.lo
  have l2 := mO (G := G) h.ho.o lo hkn
  have b2 : ∀ H, dN 1 1 (.int .i64 0) [(0, Nn r)] H = some (.ro false [Nn r], H) := fun H => rfl
  have a1 := h.ho.o.app (k := k) (by omega) r (by have := hl k; omega)
  have s1 := qM h.ho.o lo hkn r
  have h' := h.grow hkn r
  have hap : gV (bO R n) (.sl (2 + R + n + 2 + k) (out.getD k []).length 0 (out.getD k []).length 1) = true := by
   have : (2 + R + n + 1 == 2 + R + n + 2 + k) = false := by simp; omega
   simp [gV, this]
  have hdrop : tb.drop j = k :: tb.drop (j + 1) := by
   rw [List.drop_eq_getElem_cons hjl, hk, List.getD_eq_getElem?_getD, List.getElem?_eq_getElem hjl]; rfl
  obtain ⟨H', e1, e2⟩ := aAe r hr ah rd tb hks htl d (j + 1) f (jP out k r) _ (by omega) (by omega) h' (fun q => by
   rw [kE (by omega)]
   have h1 := hl q
   have h2 := hl k
   split
   ·rw [List.length_append]; simp only [List.length_cons, List.length_nil]; omega
   ·omega)
  refine ⟨H', ?_, by rw [hdrop]; exact e2⟩
  rw [nD] at e1
  rw [aR, bB.l27]
  refine eM ?_
  refine eC hc ?_
  unfold aDh at e1 ⊢
  unfold bO at *
  unfold tO at *
  clear hc h h' hkm hk hdrop e2
  generalize bB.l27 G kk H.length self = lp at *
  generalize out.getD k [] = la_ at *
  generalize bV (la_ ++ [r]) = nn at *
  generalize yN 49 1 H (2 + R + n) (2 + R + n + 2) out k r = H2 at *
  generalize (la_ ++ [r]).length = ll2 at *
  generalize la_.length = ll1 at *
  generalize 2 + R + n + 2 + n + 1 = tx at *
  generalize 2 + R + n + 2 + k = bk at *
  generalize 2 + R + n + 1 = ox at *
  generalize 2 + R + n = bx at *
  have fx := aKI g1 <| aKI d1 <| aKI l1 <| aKI lb <| aKI d2 <| aKI l2 <| aKI b2 <| aKI a1 <| s1
  refine eH ?_
  refine wE (by simp only [eZ, eY]; exact hap) ?_
  refine wD ?_
  have fx := q2
  refine eH ?_
  exact e1
theorem aDG (ah rd out : List (List Nat)) (tb : List Nat) {H : aA} (h : HT n R ah rd out tb H) {k r : Nat} (hk : k < n) (hkk : 1 ≤ kk) (hl : (out.getD k []).length ≤ 1000000000) (self0 : cK) :
  kX (fI (bB.env G kk self0)) (.fn 59 [bO R n]) [Nn k, Nn r] H = some (.bool (fL out k r), H) := by
 obtain ⟨q, rfl⟩ : ∃ q, kk = q + 1 := ⟨kk - 1, by omega⟩
 have lb := h.box G
 have lo := h.ho.lo
 have d2 : aM 1 (.sl (2 + R + n) n 0 n 1) (Nn k) = some (.ptr (2 + R + n) n k 0) := jN hk
 have l2 := mO (G := G) h.ho.o lo hk
 have row := h.ho.o.row k (by omega)
 have hcut : ∀ (b : Bool), cS [.bool b] H.length H = some (.ret, [.bool b], H) := fun b => by
  unfold cS
  have e := h.cut [] rfl
  rw [e]
  rfl
 have key : dQ.f G (q + 1) [Nn k, Nn r, bO R n] H = some (.bool (fL out k r), H) := by
  rw [dQ.step]
  unfold dQ.c fL
  unfold bO at *
  generalize out.getD k [] = l at *
  have ln : cB (.sl (2 + R + n + 2 + k) l.length 0 l.length 1) = some (Nn l.length) := rfl
  refine fC ?_
  cases hll : l.length with
  | zero =>
   have hl0 : l = [] := List.length_eq_zero_iff.1 hll
   subst hl0
   have g1 : bC Tryd.prog .gtr 3 true (.int .i64 0) (.int .i64 0) = some (.bool false) := nH (by omega)
   have ln' : cB (.sl (2 + R + n + 2 + k) 0 0 0 1) = some (.int .i64 0) := rfl
   have fin := hcut false
   have l2' : aH G false 1 (.ptr (2 + R + n) n k 0) H = some (.sl (2 + R + n + 2 + k) 0 0 0 1) := l2
   clear h row l2
   have e : decide (([] : List Nat).getLast? = some r) = false := by simp
   rw [e]
   have fx := aKI lb <| aKI d2 <| aKI l2' <| aKI ln' <| g1
   refine eH ?_
   exact oF fin
  | succ m =>
   have g1 : bC Tryd.prog .gtr 3 true (Nn l.length) (.int .i64 0) = some (.bool true) := pM (by omega)
   have m1 : bC Tryd.prog .sub 3 true (Nn l.length) (.int .i64 1) = some (Nn m) := by
    rw [kA, eG (by omega) (by omega)]; congr 2; omega
   have d3 : aM 1 (.sl (2 + R + n + 2 + k) l.length 0 l.length 1) (Nn m) = some (.ptr (2 + R + n + 2 + k) l.length m 0) := jN (by omega)
   have l3 : aH G false 1 (.ptr (2 + R + n + 2 + k) l.length m 0) H = some (Nn (l.getD m 0)) := by
    unfold aH
    simp only [row, dZ, if_true, jT l m (by omega)]
    rfl
   have hlast : l.getLast? = some (l.getD m 0) := by
    rw [List.getLast?_eq_getElem?, hll, show m + 1 - 1 = m by omega, List.getElem?_eq_getElem (by omega), List.getD_eq_getElem?_getD, List.getElem?_eq_getElem (by omega)]; rfl
   have g2 : bC Tryd.prog .eql 3 false (Nn (l.getD m 0)) (Nn r) = some (.bool (decide (l.getLast? = some r))) := by
    rw [hlast]
    by_cases e : l.getD m 0 = r
    ·rw [aGB e, decide_eq_true (by rw [e])]
    ·rw [aGA e, decide_eq_false (by simpa using e)]
   have fin := hcut (decide (l.getLast? = some r))
   clear h row hlast
   generalize decide (l.getLast? = some r) = b at *
   generalize l.getD m 0 = y at *
   generalize l.length = ll at *
   have fx := aKI lb <| aKI d2 <| aKI l2 <| aKI ln <| aKI g1 <| aKI m1 <| aKI d3 <| aKI l3 <| g2
   refine eH ?_
   exact oF fin
 show dG (dQ.f G (q + 1)) ([Nn k, Nn r] ++ [bO R n]) H = _
 unfold dG
 have key' : dQ.f G (q + 1) ([Nn k, Nn r] ++ [bO R n]) H = some (.bool (fL out k r), H) := key
 rw [key']
 simp
end
theorem aHH {l : List Nat} {j : Nat} (h : j < l.length) : l.getD j 0 ∈ l := by
 rw [List.getD_eq_getElem?_getD, List.getElem?_eq_getElem h]; exact List.getElem_mem h
theorem aFm {l : List Nat} {j : Nat} (h : j < l.length) : l.drop j = l.getD j 0 :: l.drop (j + 1) := by
 rw [List.drop_eq_getElem_cons h, List.getD_eq_getElem?_getD, List.getElem?_eq_getElem h]; rfl
structure Stk (tb stk : List Nat) : Prop where
 le : stk.length ≤ tb.length
 eq : tb.take stk.length = stk.reverse
theorem Stk.push {tb stk : List Nat} (h : Stk tb stk) (k : Nat) : Stk (tb.take stk.length ++ ([k] ++ tb.drop (stk.length + 1))) (k :: stk) := by
 have h1 := h.le
 refine ⟨by simp; omega, ?_⟩
 rw [List.length_cons, ← List.append_assoc, List.take_append_of_le_length (by simp; omega), List.take_of_length_le (by simp; omega), h.eq]
 simp
theorem Stk.top {tb stk : List Nat} {a : Nat} (h : Stk tb (a :: stk)) : tb.getD stk.length 0 = a ∧ Stk tb stk := by
 have h1 := h.le
 have h2 := h.eq
 simp only [List.length_cons] at h1 h2
 have e : (tb.take (stk.length + 1)).getD stk.length 0 = tb.getD stk.length 0 := by
  rw [List.getD_eq_getElem?_getD, List.getElem?_take_of_lt (by omega), ← List.getD_eq_getElem?_getD]
 refine ⟨?_, by omega, ?_⟩
 ·rw [← e, h2, List.reverse_cons, List.getD_eq_getElem?_getD, List.getElem?_append_right (by simp)]
  simp
 ·have := congrArg (List.take stk.length) h2
  rw [List.take_take, Nat.min_eq_left (by omega)] at this
  rw [this, List.reverse_cons, List.take_append_of_le_length (by simp), List.take_of_length_le (by simp)]
section
variable (G : aC) (kk : Nat) (self : cK) (bor : Bool) (ws : List WI) (R : Nat) (M : Int)
def yG (ws : List WI) (p r : Nat) : Bool := (dD (ws.getD p default).op).d && decide ((ws.getD p default).d = (r : Int))
def yW (C : AV) (n R r L m at_ la : Nat) (j : Nat) : List AV := [.rp false C 0, .sl 0 n 0 n 1, .mp 1, bO R n, .fn 59 [bO R n], Nn r, tO R n L m, Nn R, Nn r, .sl (2 + R + at_) la 0 la 1, Nn la, Nn j]
theorem yL {C : AV} (hC : aV 0 C = true) (n R r L m at_ la j N : Nat) (hat : at_ < n) (hN : 2 + R + n + 2 + n + 1 < N) : bG N (yW C n R r L m at_ la j) = true := by
 have h0 := eA (Nat.zero_le N) hC
 simp [yW, bG, aV, h0]
 omega
theorem aGI {n R : Nat} {ah rd out : List (List Nat)} {tb : List Nat} {H : aA} (h : HT n R ah rd out tb H) (m k : Nat) (hm : m ≤ 1000000000) (hmt : m ≤ tb.length) :
  eQ 3 1 (tO R n tb.length m) (.ro false [Nn k]) H = some (tO R n (tb.take m ++ ([k] ++ tb.drop (m + 1))).length (m + 1), H.set (2 + R + n + 2 + n + 1) ⟨3, 1, bV (tb.take m ++ ([k] ++ tb.drop (m + 1)))⟩) := by
 have e2 : fN (.ro false [Nn k]) H = some [Nn k] := rfl
 have e := h.t
 unfold tO eQ
 simp only [e, e2, dZ]
 rw [if_pos (by refine ⟨?_, ?_, ?_, ?_, ?_⟩ <;> first | trivial | rfl | (show m + 1 ≤ _; omega))]
 have e4 : (bV tb).take m ++ ([Nn k] ++ (bV tb).drop (m + [Nn k].length)) = bV (tb.take m ++ ([k] ++ tb.drop (m + 1))) := by
  unfold bV
  simp only [List.map_append, List.map_take, List.map_drop, List.map_cons, List.map_nil, List.length_cons, List.length_nil]
 rw [e4, dZ]
 rfl
theorem tB (hn : ws.length ≤ 1000) (hk : 2000 ≤ kk) (r : Nat) (hr : r < 100000) (ah rd : List (List Nat)) (at_ : Nat) (hat : at_ < ws.length) (hah : ∀ k ∈ ah.getD at_ [], k < ws.length) (hal : (ah.getD at_ []).length ≤ 1000) :
  ∀ (d j f : Nat) (out : List (List Nat)) (tb stk : List Nat) (H : aA), j + d = (ah.getD at_ []).length → d < f → HT ws.length R ah rd out tb H → Stk tb stk → stk.length + d ≤ 1000000000 → (∀ k, (out.getD k []).length + d ≤ 1000000000) →
  ∃ H' tb', cC (bB.l35 G kk H.length self) f (yW (cV bor ws R M) ws.length R r tb.length stk.length at_ (ah.getD at_ []).length j) H =
   some (.exit 12, yW (cV bor ws R M) ws.length R r tb'.length (gP (yG ws) r ((ah.getD at_ []).drop j) out stk).2.length at_ (ah.getD at_ []).length (ah.getD at_ []).length, H') ∧
   HT ws.length R ah rd (gP (yG ws) r ((ah.getD at_ []).drop j) out stk).1 tb' H' ∧ Stk tb' (gP (yG ws) r ((ah.getD at_ []).drop j) out stk).2
 | d, j, 0, out, tb, stk, H, _, h, _, _, _, _ => by omega
 | 0, j, f + 1, out, tb, stk, H, hd, hf, h, hs, hb1, hb2 => by
  have hj : j = (ah.getD at_ []).length := by omega
  have hc := h.cut _ (yL (mZ bor ws R M) ws.length R r tb.length stk.length at_ (ah.getD at_ []).length j H.length hat (by have := h.len; omega))
  have g1 : bC Tryd.prog .lss 3 false (Nn j) (Nn (ah.getD at_ []).length) = some (.bool false) := dR (by omega)
  have hdr : (ah.getD at_ []).drop j = [] := by rw [hj, List.drop_length]
  rw [hdr]
  refine ⟨H, tb, ?_, h, hs⟩
  rw [aR, bB.l35]
  refine eM ?_
  refine eC hc ?_
  rw [hj] at g1 ⊢
  clear hdr hc hah hal h
  unfold yW
  unfold bO tO
  unfold gP
  generalize cV bor ws R M = C at *
  generalize (ah.getD at_ []).length = la at *
  have fx := g1
  refine eH ?_
  refine fK ?_; rfl
 | d + 1, j, f + 1, out, tb, stk, H, hd, hf, h, hs, hb1, hb2 => by
  have hjl : j < (ah.getD at_ []).length := by omega
  have hc := h.cut _ (yL (mZ bor ws R M) ws.length R r tb.length stk.length at_ (ah.getD at_ []).length j H.length hat (by have := h.len; omega))
  have g1 : bC Tryd.prog .lss 3 false (Nn j) (Nn (ah.getD at_ []).length) = some (.bool true) := dU (by omega)
  have q2 : bC Tryd.prog .add 3 true (Nn j) (.int .i64 1) = some (Nn (j + 1 : Nat)) := gR (by omega)
  obtain ⟨k, hkd⟩ : ∃ k, k = (ah.getD at_ []).getD j 0 := ⟨_, rfl⟩
  have hkm : k ∈ ah.getD at_ [] := hkd ▸ aHH hjl
  have hkn := hah k hkm
  have la := h.ho.ha.la
  have d1 : aM 1 (.sl (2 + R + at_) (ah.getD at_ []).length 0 (ah.getD at_ []).length 1) (Nn j) = some (.ptr (2 + R + at_) (ah.getD at_ []).length j 0) := jN hjl
  have l1 : aH G false 1 (.ptr (2 + R + at_) (ah.getD at_ []).length j 0) H = some (Nn k) := by
   have row := h.ho.ha.a.row at_ (by omega)
   unfold aH
   simp only [row, dZ, if_true, jT _ j hjl]
   rw [hkd]; rfl
  have f0 : aF 0 (.rp false (cV bor ws R M) 0) = some (.rp false (cV bor ws R M) 0) := rfl
  have lI : ∀ H, aH G false 1 (.rp false (cV bor ws R M) 0) H = some (.ro bor (cJ ws)) := fun H => rfl
  have dI := rG bor ws k hkn
  have li := fun H => wS G bor (ws.getD k default) H
  obtain ⟨w, hw⟩ : ∃ w, w = ws.getD k default := ⟨_, rfl⟩
  have wrk : yG ws k r = ((dD w.op).d && decide (w.d = (r : Int))) := by rw [hw]; rfl
  rw [← hw] at dI li
  have wc : ∀ H, aJ (cT.f G kk) [w.v] H = some (.tup [I6 (if (dD w.op).d = true then w.d else 0), .bool (dD w.op).d], H) := fun H => aZ (H := H) (by
   have e := nZ G (kk - 6) w.op w.d w.a w.b w.c w.k H
   rw [show kk - 6 + 6 = kk by omega] at e
   exact e) (by simp [dK, bP, WI.v]) (by simp [dV, fW])
  have ex0 : ∀ x y : AV, cX (.tup [x, y]) 0 = some x := fun _ _ => rfl
  have ex1 : ∀ x y : AV, cX (.tup [x, y]) 1 = some y := fun _ _ => rfl
  have nc := aDG G kk (n := ws.length) (R := R) ah rd out tb h hkn (by omega) (by have := hb2 k; omega) (r := r) self
  have hdrop : (ah.getD at_ []).drop j = k :: (ah.getD at_ []).drop (j + 1) := hkd ▸ aFm hjl
  rw [hdrop, gP]
  by_cases hcond : (fL out k r || yG ws k r) = true
  ·rw [if_pos hcond]
   obtain ⟨H', tb', e1, e2, e3⟩ := tB hn hk r hr ah rd at_ hat hah hal d (j + 1) f out tb stk H (by omega) (by omega) h hs (by omega) (fun q => by have := hb2 q; omega)
   refine ⟨H', tb', ?_, e2, e3⟩
   generalize hend : yW (cV bor ws R M) ws.length R r tb'.length (gP (yG ws) r ((ah.getD at_ []).drop (j + 1)) out stk).2.length at_ (ah.getD at_ []).length (ah.getD at_ []).length = XE at *
   rw [aR, bB.l35]
   refine eM ?_
   refine eC hc ?_
   clear hend e2 e3 hdrop hkd hkm hah hal h hc hb2 hw
   unfold yW at e1 ⊢
   generalize bB.l35 G kk H.length self = lp at *
   generalize hC : cV bor ws R M = C at *
   clear hC
   generalize cJ ws = W at *
   generalize (ah.getD at_ []).length = la at *
   generalize hwv : w.v = wv at *
   clear hwv
   cases hlq : fL out k r with
   | true =>
    rw [hlq] at nc
    generalize dD w.op = F at *
    generalize (if F.d = true then w.d else 0) = dd at *
    generalize bB.env G kk self = EV at *
    have fx := aKI g1 <| aKI d1 <| aKI l1 <| aKI f0 <| aKI lI <| aKI dI <| aKI li <| aKI wc <| aKI ex0 <| aKI ex1 <| aKI nc <| q2
    refine eH ?_
    exact e1
   | false =>
    rw [hlq] at nc
    rw [hlq, Bool.false_or, wrk] at hcond
    have hfd : (dD w.op).d = true := by
     cases hx : (dD w.op).d with
     | true => rfl
     | false => rw [hx] at hcond; simp at hcond
    have hdr : w.d = (r : Int) := by rw [hfd] at hcond; simpa using hcond
    rw [hfd] at wc
    have gq : bC Tryd.prog .eql 3 false (I6 w.d) (Nn r) = some (.bool true) := gH hdr
    simp only [if_true] at wc
    clear hcond hfd hdr wrk
    generalize w.d = wd at *
    generalize bB.env G kk self = EV at *
    have fx := aKI g1 <| aKI d1 <| aKI l1 <| aKI f0 <| aKI lI <| aKI dI <| aKI li <| aKI wc <| aKI ex0 <| aKI ex1 <| aKI nc <| aKI gq <| q2
    refine eH ?_
    exact e1
  ·rw [if_neg hcond]
   simp only [Bool.or_eq_true, not_or, Bool.not_eq_true] at hcond
   obtain ⟨hc1, hc2⟩ := hcond
   have lo := h.ho.lo
   have lb := h.box G
   have d2 : aM 1 (.sl (2 + R + ws.length) ws.length 0 ws.length 1) (Nn k) = some (.ptr (2 + R + ws.length) ws.length k 0) := jN hkn
   have l2 := mO (G := G) h.ho.o lo hkn
   have b2 : ∀ H, dN 1 1 (.int .i64 0) [(0, Nn r)] H = some (.ro false [Nn r], H) := fun H => rfl
   have b3 : ∀ H, dN 1 1 (.int .i64 0) [(0, Nn k)] H = some (.ro false [Nn k], H) := fun H => rfl
   have a1 := h.ho.o.app (k := k) (by omega) r (by have := hb2 k; omega)
   have s1 := qM h.ho.o lo hkn r
   have hap : gV (bO R ws.length) (.sl (2 + R + ws.length + 2 + k) (out.getD k []).length 0 (out.getD k []).length 1) = true := by
    have : (2 + R + ws.length + 1 == 2 + R + ws.length + 2 + k) = false := by simp; omega
    simp [gV, this]
   have h' := h.grow hkn r
   have a2 := aGI h' stk.length k (by omega) hs.le
   have h'' := h'.push (tb.take stk.length ++ ([k] ++ tb.drop (stk.length + 1)))
   have hs' := hs.push k
   obtain ⟨H', tb', e1, e2, e3⟩ := tB hn hk r hr ah rd at_ hat hah hal d (j + 1) f (jP out k r) _ (k :: stk) _ (by omega) (by omega) h'' hs' (by simp only [List.length_cons]; omega) (fun q => by
    rw [kE (by omega)]
    have h1 := hb2 q
    have h2 := hb2 k
    split
    ·rw [List.length_append]; simp only [List.length_cons, List.length_nil]; omega
    ·omega)
   refine ⟨H', tb', ?_, e2, e3⟩
   rw [List.length_set, nD] at e1
   generalize hend : yW (cV bor ws R M) ws.length R r tb'.length (gP (yG ws) r ((ah.getD at_ []).drop (j + 1)) (jP out k r) (k :: stk)).2.length at_ (ah.getD at_ []).length (ah.getD at_ []).length = XE at *
   rw [aR, bB.l35]
   refine eM ?_
   refine eC hc ?_
   have nc' : kX (fI (bB.env G kk self)) (.fn 59 [bO R ws.length]) [Nn k, Nn r] H = some (.bool false, H) := by rw [nc, hc1]
   have hpk : ∃ b1 b4 : Bool, (dD w.op).d = b1 ∧ decide (w.d = (r : Int)) = b4 ∧ (b1 && b4) = false := ⟨_, _, rfl, rfl, by rw [← wrk]; exact hc2⟩
   obtain ⟨p1, p4, hp1, hp4, hpp⟩ := hpk
   have gq : p1 = true → bC Tryd.prog .eql 3 false (I6 (if p1 = true then w.d else 0)) (Nn r) = some (.bool false) := fun q => by
    subst q
    rw [Bool.true_and] at hpp
    rw [hpp] at hp4
    rw [if_pos rfl]
    exact fU (of_decide_eq_false hp4)
   rw [hp1] at wc
   clear hend e2 e3 hdrop hkd hkm hah hal h hc hb2 hw h' h'' hs' nc hc1 hc2 wrk hp1 hp4 hpp p4
   unfold yW at e1 ⊢
   unfold bO tO at *
   generalize bB.l35 G kk H.length self = lp at *
   generalize hC : cV bor ws R M = C at *
   clear hC
   generalize cJ ws = W at *
   generalize (ah.getD at_ []).length = la at *
   generalize hwv : w.v = wv at *
   clear hwv
   generalize bB.env G kk self = EV at *
   rw [List.length_cons] at e1
   generalize out.getD k [] = la_ at *
   generalize bV (la_ ++ [r]) = nn at *
   generalize (la_ ++ [r]).length = ll2 at *
   generalize la_.length = ll1 at *
   generalize tb.take stk.length ++ ([k] ++ tb.drop (stk.length + 1)) = tb2 at *
   generalize bV tb2 = nt2 at *
   generalize tb2.length = tl2 at *
   generalize tb.length = tl1 at *
   generalize yN 49 1 H (2 + R + ws.length) (2 + R + ws.length + 2) out k r = H2 at *
   generalize 2 + R + ws.length + 2 + ws.length + 1 = tx at *
   generalize 2 + R + ws.length + 2 + k = bk at *
   generalize 2 + R + ws.length + 1 = ox at *
   generalize 2 + R + ws.length = bx at *
   generalize stk.length = sl at *
   generalize w.d = wd at *
   cases p1 with
   | true =>
    have gq' := gq rfl
    clear gq
    generalize (if true = true then wd else 0) = dd at *
    have fx := aKI g1 <| aKI d1 <| aKI l1 <| aKI f0 <| aKI lI <| aKI dI <| aKI li <| aKI wc <| aKI ex0 <| aKI ex1 <| aKI nc' <| aKI gq' <| aKI lb <| aKI d2 <| aKI l2 <| aKI b2 <| aKI a1 <| s1
    refine eH ?_
    refine wE (by simp only [eZ, eY]; exact hap) ?_
    refine wD ?_
    have fx := aKI b3 <| aKI a2 <| q2
    refine eH ?_
    exact e1
   | false =>
    clear gq
    generalize (if false = true then wd else 0) = dd at *
    have fx := aKI g1 <| aKI d1 <| aKI l1 <| aKI f0 <| aKI lI <| aKI dI <| aKI li <| aKI wc <| aKI ex0 <| aKI ex1 <| aKI nc' <| aKI lb <| aKI d2 <| aKI l2 <| aKI b2 <| aKI a1 <| s1
    refine eH ?_
    refine wE (by simp only [eZ, eY]; exact hap) ?_
    refine wD ?_
    have fx := aKI b3 <| aKI a2 <| q2
    refine eH ?_
    exact e1
end
theorem sZ {wr : Nat → Nat → Bool} {r : Nat} : ∀ (ks : List Nat) (out : List (List Nat)) (stk : List Nat), (∀ x ∈ (gP wr r ks out stk).2, x ∈ stk ∨ x ∈ ks) ∧ (gP wr r ks out stk).2.length ≤ stk.length + ks.length
 | [], out, stk => ⟨fun x hx => .inl hx, Nat.le_refl _⟩
 | k :: ks, out, stk => by
  rw [gP]
  split
  ·obtain ⟨h1, h2⟩ := sZ (wr := wr) (r := r) ks out stk
   refine ⟨fun x hx => (h1 x hx).imp id fun h => by simp [h], by simp only [List.length_cons]; omega⟩
  ·obtain ⟨h1, h2⟩ := sZ (wr := wr) (r := r) ks (jP out k r) (k :: stk)
   refine ⟨fun x hx => ?_, by simp only [List.length_cons] at h2 ⊢; omega⟩
   rcases h1 x hx with h | h
   ·rcases List.mem_cons.1 h with rfl | h
    ·exact .inr (by simp)
    ·exact .inl h
   ·exact .inr (by simp [h])
theorem tA {wr : Nat → Nat → Bool} {r : Nat} : ∀ (ks : List Nat) (out : List (List Nat)) (stk : List Nat), (∀ k ∈ ks, k < out.length) → (gP wr r ks out stk).1.length = out.length ∧ ∀ q, ((gP wr r ks out stk).1.getD q []).length ≤ (out.getD q []).length + ks.length
 | [], out, stk, _ => ⟨rfl, fun q => Nat.le_refl _⟩
 | k :: ks, out, stk, hks => by
  rw [gP]
  split
  ·obtain ⟨h1, h2⟩ := tA (wr := wr) (r := r) ks out stk fun q hq => hks q (by simp [hq])
   exact ⟨h1, fun q => by have := h2 q; simp only [List.length_cons]; omega⟩
  ·obtain ⟨h1, h2⟩ := tA (wr := wr) (r := r) ks (jP out k r) (k :: stk) fun q hq => by rw [iT]; exact hks q (by simp [hq])
   refine ⟨by rw [h1, iT], fun q => ?_⟩
   have h3 := h2 q
   rw [kE (hks k (by simp))] at h3
   simp only [List.length_cons]
   split at h3
   ·rename_i e
    subst e
    rw [List.length_append] at h3
    simp only [List.length_cons, List.length_nil] at h3
    omega
   ·omega
section
variable (G : aC) (kk : Nat) (self : cK) (bor : Bool) (ws : List WI) (R : Nat) (M : Int)
def aBC (C : AV) (n R r L m : Nat) : List AV := [.rp false C 0, .sl 0 n 0 n 1, .mp 1, bO R n, .fn 59 [bO R n], Nn r, tO R n L m, Nn R, Nn r]
theorem yK {C : AV} (hC : aV 0 C = true) (n R r L m N : Nat) (hN : 2 + R + n + 2 + n + 1 < N) : bG N (aBC C n R r L m) = true := by
 have h0 := eA (Nat.zero_le N) hC
 simp [aBC, bG, aV, h0]
 omega
theorem aCP (hn : ws.length ≤ 1000) (hk : 2000 ≤ kk) (r : Nat) (hr : r < 100000) (ah rd : List (List Nat)) (hah : ∀ a, a < ws.length → ah.getD a [] = iL (kL ws) ws.length a) :
  ∀ (d f : Nat) (out out' : List (List Nat)) (tb stk : List Nat) (H : aA), aBn (kL ws) ws.length (yG ws) r d out stk = some out' → d < f → HT ws.length R ah rd out tb H → Stk tb stk → (∀ a ∈ stk, a < ws.length) → stk.length + d * 1000 ≤ 1000000000 → (∀ k, (out.getD k []).length + d * 1000 ≤ 1000000000) →
  ∃ H' tb', cC (bB.l31 G kk H.length self) f (aBC (cV bor ws R M) ws.length R r tb.length stk.length) H = some (.exit 10, aBC (cV bor ws R M) ws.length R r tb'.length 0, H') ∧ HT ws.length R ah rd out' tb' H'
 | d, 0, out, out', tb, stk, H, _, h, _, _, _, _, _ => by omega
 | d, f + 1, out, out', tb, [], H, hrun, hf, h, hs, hm, hb1, hb2 => by
  have hc := h.cut _ (yK (mZ bor ws R M) ws.length R r tb.length 0 H.length (by have := h.len; omega))
  have e : out' = out := by unfold aBn at hrun; simp at hrun; exact hrun.symm
  subst e
  have ln : cB (tO R ws.length tb.length 0) = some (.int .i64 0) := rfl
  have g1 : bC Tryd.prog .gtr 3 true (.int .i64 0) (.int .i64 0) = some (.bool false) := nH (by omega)
  refine ⟨H, tb, ?_, h⟩
  show cC _ _ (aBC (cV bor ws R M) ws.length R r tb.length 0) H = _
  rw [aR, bB.l31]
  refine eM ?_
  refine eC hc ?_
  unfold aBC
  generalize tO R ws.length tb.length 0 = td at *
  generalize cV bor ws R M = C at *
  have fx := aKI ln <| g1
  refine eH ?_
  refine fK ?_; rfl
 | 0, f + 1, out, out', tb, a :: stk, H, hrun, hf, h, hs, hm, hb1, hb2 => by simp [aBn] at hrun
 | d + 1, f + 1, out, out', tb, a :: stk, H, hrun, hf, h, hs, hm, hb1, hb2 => by
  rw [aBn] at hrun
  have han := hm a (by simp)
  have hw := hah a han
  obtain ⟨ht, hs0⟩ := hs.top
  have hsl := hs.le
  simp only [List.length_cons] at hsl hb1
  have hc := h.cut _ (yK (mZ bor ws R M) ws.length R r tb.length (stk.length + 1) H.length (by have := h.len; omega))
  have ln : cB (tO R ws.length tb.length (stk.length + 1)) = some (Nn (stk.length + 1 : Nat)) := rfl
  have g1 : bC Tryd.prog .gtr 3 true (Nn (stk.length + 1 : Nat)) (.int .i64 0) = some (.bool true) := pM (by omega)
  have m1 : bC Tryd.prog .sub 3 true (Nn (stk.length + 1 : Nat)) (.int .i64 1) = some (Nn stk.length) := by
   rw [kA, eG (by omega) (by omega)]; congr 2; omega
  obtain ⟨d1, l1⟩ := h.idx (G := G) (m := stk.length + 1) (j := stk.length) (by omega) (by omega)
  rw [ht] at l1
  have sl : fO 1 (tO R ws.length tb.length (stk.length + 1)) none (some (Nn stk.length)) = some (tO R ws.length tb.length stk.length) := by
   unfold tO
   simp only [fO, mY, mX, Nat.zero_add, Nat.sub_zero]
   rw [if_pos (by refine ⟨?_, ?_, trivial⟩ <;> omega)]
  have la := h.ho.ha.la
  have d2 : aM 1 (.sl 0 ws.length 0 ws.length 1) (Nn a) = some (.ptr 0 ws.length a 0) := jN han
  have l2 := mO (G := G) h.ho.ha.a la han
  have ln2 : cB (.sl (2 + R + a) (ah.getD a []).length 0 (ah.getD a []).length 1) = some (Nn (ah.getD a []).length) := rfl
  have hwl := pB (kL ws) ws.length a
  have hlo := h.ho.lo
  have hks : ∀ k ∈ ah.getD a [], k < ws.length := fun k hk => by rw [hw] at hk; exact (kK.1 hk).1
  obtain ⟨H1, tb1, e1, e2, e3⟩ := tB G kk self bor ws R M hn hk r hr ah rd a han hks (by rw [hw]; omega) (ah.getD a []).length 0 kk out tb stk H (by omega) (by rw [hw]; omega) h hs0 (by rw [hw]; omega) (fun k => by have := hb2 k; rw [hw]; omega)
  rw [List.drop_zero] at e1 e2 e3
  have hmem := sZ (wr := yG ws) (r := r) (ah.getD a []) out stk
  have hrow := tA (wr := yG ws) (r := r) (ah.getD a []) out stk (fun k hk => by rw [hlo]; exact hks k hk)
  rw [← hw] at hrun
  have hw1000 : (ah.getD a []).length ≤ 1000 := by rw [hw]; omega
  obtain ⟨H', tb', z1, z2⟩ := aCP hn hk r hr ah rd hah d f _ out' tb1 _ H1 hrun (by omega) e2 e3 (fun x hx => by
   rcases hmem.1 x hx with q | q
   ·exact hm x (by simp [q])
   ·exact hks x q) (by have := hmem.2; omega) (fun k => by have := hrow.2 k; have := hb2 k; omega)
  refine ⟨H', tb', ?_, z2⟩
  have hl1 : H1.length = H.length := by rw [e2.len, h.len]
  rw [hl1] at z1
  rw [List.length_cons]
  generalize aBC (cV bor ws R M) ws.length R r tb'.length 0 = XE at *
  rw [aR, bB.l31]
  refine eM ?_
  refine eC hc ?_
  clear hc h e2 e3 z2 hmem hrow hrun hks hw hw1000 hwl hb2
  unfold aBC at z1 ⊢
  unfold yW at e1
  unfold bO tO at *
  generalize (gP (yG ws) r (ah.getD a []) out stk).2.length = s2 at *
  generalize cV bor ws R M = C at *
  generalize (ah.getD a []).length = al at *
  generalize 2 + R + ws.length + 2 + ws.length + 1 = tx at *
  generalize 2 + R + ws.length + 1 = ox at *
  have fx := aKI ln <| aKI g1 <| aKI m1 <| aKI d1 <| aKI l1 <| aKI sl <| aKI d2 <| aKI l2 <| ln2
  have lx1 := e1
  refine eH ?_
  exact z1
theorem pH : ∀ l : List Nat, nV (bV l) (bV l) = true
 | [] => rfl
 | x :: l => by
  have := pH l
  simp only [bV, List.map_cons, nV, jL, decide_true, Bool.and_self, Bool.true_and] at this ⊢
  exact this
theorem uV : ∀ (b : Nat) (L : List (List Nat)), nV (nJ b L) (nJ b L) = true
 | _, [] => rfl
 | b, l :: L => by
  have := uV (b + 1) L
  simp only [nJ, nV, jL, Nat.beq_refl, Bool.and_self, Bool.true_and, this]
theorem aEw : ∀ {H : aA}, (∀ (i : Nat) (b : ABlk), H[i]? = some b → nV b.elems b.elems = true) → aCg H H = true
 | [], _ => rfl
 | b :: H, h => by
  have h1 := h 0 b rfl
  have h2 := aEw (H := H) fun i c hc => h (i + 1) c (by simpa using hc)
  simp only [aCg, Nat.beq_refl, h1, h2, Bool.and_self]
theorem aDk (k b : Nat) (l : List Nat) {H : aA} (hb : H[b]? = some ⟨3, 1, bV l⟩) (hl : l.length ≤ 1000000000) (hH : ∀ (i : Nat) (b : ABlk), H[i]? = some b → nV b.elems b.elems = true) :
  dG (bD.f G (k + 1)) [.sl b l.length 0 l.length 1] H = some (.sl (H.length + 1) l.length 0 l.length 1, H ++ [⟨3, 1, []⟩] ++ [⟨3, 1, bV l⟩]) := by
 have hbl : b < H.length := (List.getElem?_eq_some_iff.1 hb).1
 have key : bD.f G (k + 1) [.sl b l.length 0 l.length 1] H = some (.sl (H.length + 1) l.length 0 l.length 1, H ++ [⟨3, 1, []⟩] ++ [⟨3, 1, bV l⟩]) := by
  rw [bD.step]
  unfold bD.c
  have h1l : (H ++ [(⟨3, 1, []⟩ : ABlk)]).length = H.length + 1 := by simp
  have bo : gQ 3 1 0 (.int .i64 0) [] (H ++ [⟨3, 1, []⟩]) = some (.sl (H.length + 1) 0 0 0 1, H ++ [⟨3, 1, []⟩] ++ [⟨3, 1, []⟩]) := by
   unfold gQ
   simp [iV]
  have ap : eQ 3 1 (.sl (H.length + 1) 0 0 0 1) (.sl b l.length 0 l.length 1) (H ++ [⟨3, 1, []⟩] ++ [⟨3, 1, []⟩]) = some (.sl (H.length + 1) l.length 0 l.length 1, H ++ [⟨3, 1, []⟩] ++ [⟨3, 1, bV l⟩]) := by
   have e1 : (H ++ [(⟨3, 1, []⟩ : ABlk)] ++ [⟨3, 1, []⟩])[H.length + 1]? = some ⟨3, 1, []⟩ := by
    rw [List.getElem?_append_right (by simp)]; simp
   have e2 : fN (.sl b l.length 0 l.length 1) (H ++ [(⟨3, 1, []⟩ : ABlk)] ++ [⟨3, 1, []⟩]) = some (bV l) := by
    have e3 : (H ++ [(⟨3, 1, []⟩ : ABlk)] ++ [⟨3, 1, []⟩])[b]? = some ⟨3, 1, bV l⟩ := by
     rw [List.append_assoc, List.getElem?_append_left hbl]; exact hb
    simp only [fN, e3, dZ, if_true, List.drop_zero]
    rw [List.take_of_length_le (by rw [dZ]; exact Nat.le_refl _)]
   unfold eQ
   simp only [e1, e2]
   rw [if_pos (by refine ⟨?_, ?_, ?_, sK 1 _ (fun _ => rfl) l, ?_⟩ <;> first | trivial | rfl | (rw [dZ]; omega))]
   simp only [List.take_nil, List.nil_append, List.drop_nil, List.append_nil, dZ, Nat.zero_add]
   rw [List.set_append_right _ _ (by simp)]
   simp
  by_cases h0 : l = []
  ·subst h0
   have q : bC Tryd.prog .eql 49 true (.sl b ([] : List Nat).length 0 ([] : List Nat).length 1) .nils = some .anyb := by kernel_rfl
   have hself : aCg (H ++ [(⟨3, 1, []⟩ : ABlk)] ++ [⟨3, 1, []⟩]) (H ++ [(⟨3, 1, []⟩ : ABlk)] ++ [⟨3, 1, []⟩]) = true := aEw fun i c hc => by
    by_cases hi : i < H.length
    ·rw [List.append_assoc, List.getElem?_append_left hi] at hc; exact hH i c hc
    ·rw [List.append_assoc, List.getElem?_append_right (by omega)] at hc
     match hj : i - H.length, hc with
     | 0, hc => simp at hc; subst hc; rfl
     | 1, hc => simp at hc; subst hc; rfl
     | j + 2, hc => simp at hc
   simp only [aE, pu, q]
   rw [bo]
   simp only
   rw [ap]
   simp only [h1l, bK, aAU, iQ, aEp, aHA, nV, jL, Nat.beq_refl, Bool.and_self, List.length_nil, bV, List.map_nil, hself, fQ]
  ·have hpos : 0 < l.length := List.length_pos_iff.2 h0
   obtain ⟨m, hm⟩ : ∃ m, l.length = m + 1 := ⟨l.length - 1, by omega⟩
   have q : bC Tryd.prog .eql 49 true (.sl b l.length 0 l.length 1) .nils = some (.bool false) := by
    rw [hm]; kernel_rfl
   simp only [aE, pu, q]
   rw [bo]
   simp only
   rw [ap]
   simp only [bK, aAU, iQ, fQ]
 unfold dG
 rw [key]
 simp
end
theorem HO.self {n R : Nat} {ah rd out : List (List Nat)} {H : aA} (h : HO n R ah rd out H) {i : Nat} {b : ABlk} (hi : i < 2 + R + n + 2 + n) (hb : H[i]? = some b) : nV b.elems b.elems = true := by
 have lo := h.lo
 have la := h.ha.la
 have lr := h.ha.lr
 by_cases e0 : i = 0
 ·subst e0; rw [h.ha.a.out] at hb; obtain rfl := Option.some.inj hb; exact uV _ _
 by_cases e1 : i = 1
 ·subst e1; rw [h.ha.r.out] at hb; obtain rfl := Option.some.inj hb; exact uV _ _
 by_cases e2 : i < 2 + R
 ·have := h.ha.r.row (i - 2) (by omega)
  rw [show 2 + (i - 2) = i by omega, hb] at this
  obtain rfl := Option.some.inj this
  exact pH _
 by_cases e3 : i < 2 + R + n
 ·have := h.ha.a.row (i - (2 + R)) (by omega)
  rw [show 2 + R + (i - (2 + R)) = i by omega, hb] at this
  obtain rfl := Option.some.inj this
  exact pH _
 by_cases e4 : i = 2 + R + n
 ·subst e4; rw [h.o.out] at hb; obtain rfl := Option.some.inj hb; exact uV _ _
 by_cases e5 : i = 2 + R + n + 1
 ·subst e5
  rw [h.bx] at hb
  obtain rfl := Option.some.inj hb
  simp only [nV, jL, Nat.beq_refl, Bool.and_self]
 ·have := h.o.row (i - (2 + R + n + 2)) (by omega)
  rw [show 2 + R + n + 2 + (i - (2 + R + n + 2)) = i by omega, hb] at this
  obtain rfl := Option.some.inj this
  exact pH _
section
variable (G : aC) (kk : Nat) (self : cK) (bor : Bool) (ws : List WI) (R : Nat) (M : Int)
def yV (C : AV) (n R r : Nat) : List AV := [.rp false C 0, .sl 0 n 0 n 1, .mp 1, bO R n, .fn 59 [bO R n], Nn R, Nn r]
theorem aEi {C : AV} (hC : aV 0 C = true) (n R r N : Nat) (hN : 2 + R + n + 1 < N) : bG N (yV C n R r) = true := by
 have h0 := eA (Nat.zero_le N) hC
 simp [yV, bG, aV, h0]
 omega
theorem aCM (hn : ws.length ≤ 1000) (hR : R ≤ 1000) (hk : 3000 ≤ kk) (ah rd : List (List Nat)) (hah : ∀ a, a < ws.length → ah.getD a [] = iL (kL ws) ws.length a) (hrd : ∀ r, r < R → rd.getD r [] = iL (nP ws) ws.length r) :
  ∀ (d r f : Nat) (out : List (List Nat)) (H : aA), r + d = R → d < f → HO ws.length R ah rd out H → 2 + R + ws.length + 2 + ws.length ≤ H.length → Part ws.length (nP ws) (kL ws) (yG ws) r out →
  ∃ H' out', cC (bB.l23 G kk (2 + R + ws.length + 2 + ws.length) self) f (yV (cV bor ws R M) ws.length R r) H = some (.exit 6, yV (cV bor ws R M) ws.length R R, H') ∧ HO ws.length R ah rd out' H' ∧ Part ws.length (nP ws) (kL ws) (yG ws) R out'
 | d, r, 0, out, H, _, h, _, _, _ => by omega
 | d, r, f + 1, out, H, hd, hf, h, hH, hp => by
  obtain ⟨Ht, hHt⟩ : ∃ Ht, Ht = H.take (2 + R + ws.length + 2 + ws.length) := ⟨_, rfl⟩
  have hlt : Ht.length = 2 + R + ws.length + 2 + ws.length := by rw [hHt, List.length_take]; omega
  have ht : HO ws.length R ah rd out Ht := h.same fun i hi => by rw [hHt, List.getElem?_take_of_lt hi]
  have hc : eF (2 + R + ws.length + 2 + ws.length) (yV (cV bor ws R M) ws.length R r) H = some Ht := by
   unfold eF
   rw [← hHt, aEi (mZ bor ws R M) ws.length R r _ (by omega)]
   have : bS (2 + R + ws.length + 2 + ws.length) Ht = true := jH fun i b hb => ht.low (Nat.le_refl _) (by have := (List.getElem?_eq_some_iff.1 hb).1; omega) hb
   rw [this]; rfl
  cases d with
  | zero =>
   have hr : r = R := by omega
   subst hr
   have g1 : bC Tryd.prog .lss 3 false (Nn r) (Nn r) = some (.bool false) := dR (by omega)
   refine ⟨Ht, out, ?_, ht, hp⟩
   rw [aR, bB.l23]
   refine eM ?_
   refine eC hc ?_
   unfold yV
   generalize cV bor ws r M = C at *
   have fx := g1
   refine eH ?_
   refine fK ?_; rfl
  | succ d =>
   have hrR : r < R := by omega
   have g1 : bC Tryd.prog .lss 3 false (Nn r) (Nn R) = some (.bool true) := dU (by omega)
   have q2 : bC Tryd.prog .add 3 true (Nn r) (.int .i64 1) = some (Nn (r + 1 : Nat)) := gR (by omega)
   have lr := ht.ha.lr
   have lk := aCt ht.ha.r (k := r) (by omega)
   have row := ht.ha.r.row r (by omega)
   have hl : (rd.getD r []).length ≤ 1000 := by rw [hrd r hrR]; have := pB (nP ws) ws.length r; omega
   have cl := aDk G (kk - 1) (2 + r) (rd.getD r []) row (by omega) (fun i b hb => ht.self (by have := (List.getElem?_eq_some_iff.1 hb).1; omega) hb)
   rw [show kk - 1 + 1 = kk by omega, hlt] at cl
   have hT : HT ws.length R ah rd out (rd.getD r []) (Ht ++ [⟨3, 1, []⟩] ++ [⟨3, 1, bV (rd.getD r [])⟩]) := by
    refine ⟨ht.same fun i hi => by rw [List.append_assoc, List.getElem?_append_left (by omega)], by simp [hlt], ?_, ?_⟩
    ·rw [List.append_assoc, List.getElem?_append_right (by omega), hlt, Nat.sub_self]; rfl
    ·rw [List.append_assoc, List.getElem?_append_right (by omega), hlt]; simp
   have hmem : ∀ k ∈ rd.getD r [], k < ws.length := fun k hk => by rw [hrd r hrR] at hk; exact (kK.1 hk).1
   have hrow : ∀ k, (out.getD k []).length ≤ 1000 := fun k => by
    have h1 := hp.up k
    have h2 := hp.low k
    have : (out.getD k []).length ≤ r := by
     have hnd : (out.getD k []).Nodup := h1.imp (fun h => Nat.ne_of_lt h)
     have := List.Nodup.length_le_of_subset hnd (l₂ := List.range r) (fun x hx => by simpa using h2 x hx)
     simpa using this
    omega
   obtain ⟨H1, e1, e2⟩ := aAe G kk self (cV bor ws R M) (mZ bor ws R M) (n := ws.length) (R := R) r (by omega) ah rd (rd.getD r []) hmem hl (rd.getD r []).length 0 kk out _ (by omega) (by omega) hT (fun k => by have := hrow k; omega)
   rw [List.drop_zero] at e2
   obtain ⟨out', p1, p2⟩ := hp.step (fun k hk a ha => (hU ws k).1 a ha)
   rw [← hrd r hrR] at p1
   have hst : Stk (rd.getD r []) (rd.getD r []).reverse := ⟨by simp, by simp⟩
   have hrow2 : ∀ k, ((gJ r (rd.getD r []) out).getD k []).length ≤ 1001 := fun k => by
    have lo := ht.lo
    rw [mV r (rd.getD r []) out (fun q hq => by rw [lo]; exact hmem q hq) (by rw [hrd r hrR]; exact yF ..), List.length_append]
    have := hrow k
    split
    ·simp only [List.length_cons, List.length_nil]; omega
    ·simp only [List.length_nil]; omega
   obtain ⟨H2, tb', z1, z2⟩ := aCP G kk self bor ws R M hn (by omega) r (by omega) ah rd hah (2 * ws.length) kk _ out' (rd.getD r []) (rd.getD r []).reverse H1 p1 (by omega) e2 hst (fun a ha => hmem a (List.mem_reverse.1 ha)) (by rw [List.length_reverse]; omega) (fun k => by have := hrow2 k; omega)
   rw [List.length_reverse] at z1
   obtain ⟨H', out2, y1, y2, y3⟩ := aCM hn hR hk ah rd hah hrd d (r + 1) f out' H2 (by omega) (by omega) z2.ho (by rw [z2.len]; omega) p2
   refine ⟨H', out2, ?_, y2, y3⟩
   have ln : cB (.sl (2 + R + ws.length + 2 + ws.length + 1) (rd.getD r []).length 0 (rd.getD r []).length 1) = some (Nn (rd.getD r []).length) := rfl
   have e1' : cC (bB.l27 G kk (Ht ++ [⟨3, 1, []⟩] ++ [⟨3, 1, bV (rd.getD r [])⟩] : aA).length self) kk (aDh (cV bor ws R M) ws.length R r (rd.getD r []).length 0) (Ht ++ [⟨3, 1, []⟩] ++ [⟨3, 1, bV (rd.getD r [])⟩] : aA) = _ := e1
   rw [aR, bB.l23]
   refine eM ?_
   refine eC hc ?_
   clear e1 hc h ht hT e2 z2 y2 y3 p1 p2 hst hrow2 hrow hmem hl hH hp
   unfold yV at y1 ⊢
   unfold aDh at e1'
   unfold aBC at z1
   unfold bO tO at *
   generalize cV bor ws R M = C at *
   generalize bV (rd.getD r []) = nl at *
   generalize (rd.getD r []).length = ll at *
   generalize 2 + R + ws.length + 2 + ws.length + 1 = tx at *
   generalize 2 + R + ws.length + 2 + ws.length = ty at *
   generalize 2 + R + ws.length + 1 = ox at *
   have fx := aKI g1 <| aKI lk <| aKI cl <| aKI ln <| q2
   have lx1 := e1'
   have lx2 := z1
   refine eH ?_
   exact y1
def iP (out : List (List Nat)) : AV := .ro false (out.map fun l => .ro false (bV l))
theorem aCm {H : aA} {base : Nat} (d : Nat) : ∀ (L : List (List Nat)) (b : Nat), (∀ k, k < L.length → H[b + k]? = some ⟨3, 1, bV (L.getD k [])⟩) → nG (nM (lO H 0 (d + 2))) (nJ b L) = some (L.map fun l => .ro false (bV l))
 | [], b, h => rfl
 | l :: L, b, h => by
  have h0 := h 0 (by simp)
  simp only [Nat.add_zero, List.getD_cons_zero] at h0
  have ih := aCm (H := H) (base := base) d L (b + 1) fun k hk => by
   have := h (k + 1) (by simpa using hk)
   rw [show b + 1 + k = b + (k + 1) by omega]
   simpa using this
  have e1 : fN (.sl b l.length 0 l.length 1) H = some (bV l) := by
   simp only [fN, h0, dZ, if_true, List.drop_zero]
   rw [List.take_of_length_le (by rw [dZ]; exact Nat.le_refl _)]
  have e2 : nG (nM (lO H 0 (d + 1))) (bV l) = some (bV l) := mM fun x h => pF (jS (eW 0 _) x h)
  have e3 : lO H 0 (d + 2) (.sl b l.length 0 l.length 1) = some (.ro false (bV l)) := by
   unfold lO
   simp only [aV, e1, aCv, e2]
   rfl
  have e4 : nM (lO H 0 (d + 2)) (.sl b l.length 0 l.length 1) = some (.ro false (bV l)) := e3
  simp only [nJ, nG, e4, ih, List.map_cons]
theorem aHD {n R : Nat} {ah rd out : List (List Nat)} {H : aA} (h : HO n R ah rd out H) : cS [.sl (2 + R + n) n 0 n 1, .nili] 0 H = some (.ret, [.tup [iP out, .nili]], []) := by
 have lo := h.lo
 have e1 : fN (.sl (2 + R + n) n 0 n 1) H = some (nJ (2 + R + n + 2) out) := by
  simp only [fN, h.o.out, nK, lo, if_true, List.drop_zero]
  rw [List.take_of_length_le (by rw [nK]; omega)]
 have e2 := aCm (H := H) (base := 0) 2 out (2 + R + n + 2) h.o.row
 have e3 : jB 1 (nJ (2 + R + n + 2) out) = true := by
  have : ∀ (b : Nat) (L : List (List Nat)), jB 1 (nJ b L) = true := fun b L => by
   induction L generalizing b with
   | nil => rfl
   | cons l L ih => simp only [nJ, jB, List.all_cons, AV.cells, List.length_cons, List.length_nil]; exact ih (b + 1)
  exact this _ _
 have e4 : lO H 0 5 (.sl (2 + R + n) n 0 n 1) = some (iP out) := by
  unfold lO
  simp only [aV, e1, e3, e2]
  rfl
 have e5 : lO H 0 6 (iQ [.sl (2 + R + n) n 0 n 1, .nili]) = some (.tup [iP out, .nili]) := by
  have hb : aV 0 (AV.tup [.sl (2 + R + n) n 0 n 1, .nili]) = false := by simp [aV, bG]
  have hn : lO H 0 5 .nili = some .nili := by unfold lO; simp [aV]
  simp only [iQ]
  unfold lO
  simp only [hb, nG, e4, hn]
 unfold cS
 rw [e5, pE]
section
variable {γ : Type} {f : Option fJ → Option γ} {ks : List KK} {r : Option γ}
theorem eM1 {q : AV × AV × Nat × Nat × Nat} {l : List (AV × AV × Nat × Nat × Nat)} {H H1 : aA} {k : aA → Option fJ} (h : qN q H = H1) (h2 : E f ks (vM l H1 k) r) : E f ks (vM (q :: l) H k) r := by rw [vM, h]; exact h2
theorem eM0 {H : aA} {k : aA → Option fJ} (h2 : E f ks (k H) r) : E f ks (vM [] H k) r := by rw [vM]; exact h2
end
theorem aBH (hg : GOk G) (hv : fA ws R M = .ok) (hn : ws.length ≤ 1000) (hR : R ≤ 1000) (hk : 3000 ≤ kk) :
  ∃ out, bB.f G (kk + 1) [cV bor ws R M] [] = some (.tup [iP out, .nili], []) ∧ Part ws.length (nP ws) (kL ws) (yG ws) R out := by
 obtain ⟨self, hself⟩ : ∃ x, x = bB.f G kk := ⟨_, rfl⟩
 have hgood0 := oZ hv
 rw [Int.toNat_natCast] at hgood0
 have hgood : ∀ j, j < ws.length → (ws.getD j default).Good R ws.length := fun j hj => hgood0 _ (by rw [List.getD_eq_getElem?_getD, List.getElem?_eq_getElem hj]; exact List.getElem_mem hj)
 have r1 : ∀ H, aJ (cW.f G kk) [cV bor ws R M] H = some (.nili, H) := fun H => aZ (H := H) (by
  have e := vP (bor := bor) G hg (kk - 8) ws R M (by omega) (by omega)
  rw [show kk - 8 + 8 = kk by omega, hv] at e
  exact e) (by simp [dK, cV, bP, jA]) rfl
 have b0 : ∀ H, eE (cV bor ws R M) H = some (.rp false (cV bor ws R M) 0, H) := fun H => rfl
 have lC : ∀ H, aH G true 3 (.rp false (cV bor ws R M) 0) H = some (cV bor ws R M) := fun H => rfl
 have q1 : bC Tryd.prog .neq 33 true .nili .nili = some (.bool false) := by kernel_rfl
 have f0 : aF 0 (.rp false (cV bor ws R M) 0) = some (.rp false (cV bor ws R M) 0) := rfl
 have f1 : aF 1 (.rp false (cV bor ws R M) 0) = some (.rp false (cV bor ws R M) 1) := rfl
 have lI : ∀ H, aH G false 1 (.rp false (cV bor ws R M) 0) H = some (.ro bor (cJ ws)) := fun H => rfl
 have lR : ∀ H, aH G false 1 (.rp false (cV bor ws R M) 1) H = some (Nn R) := fun H => rfl
 have ln : cB (.ro bor (cJ ws)) = some (Nn ws.length) := by simp [cB, fY]
 have mk : ∀ H, fR 49 1 .nils (Nn ws.length) (Nn ws.length) H = some (.sl H.length ws.length 0 ws.length 1, H ++ [⟨49, 1, List.replicate ws.length .nils⟩]) := fun H => by
  unfold fR
  simp only [Int.toNat_natCast]
  rw [if_pos (by omega)]
 have mk0 : fR 49 1 .nils (Nn ws.length) (Nn ws.length) [] = some (.sl 0 ws.length 0 ws.length 1, [⟨49, 1, List.replicate ws.length .nils⟩]) := mk []
 obtain ⟨H1, H2, v1, v2, hA, hAl⟩ := aFY ws.length R (.ro bor (cJ ws)) (I6 M)
 obtain ⟨H3, w1, w2, w3⟩ := aGt G kk self bor ws R M hn hR (by omega) hgood ws.length 0 kk H2 (by omega) (by omega) hA (by omega)
 have hah : ∀ a, a < ws.length → (jQ (kL ws) ws.length ws.length).getD a [] = iL (kL ws) ws.length a := fun a _ => oA (kL ws) ws.length ws.length (fun a ha => ⟨(hU ws a).1, (hU ws a).2.1⟩) a
 have hrd : ∀ r, r < R → (jQ (nP ws) R ws.length).getD r [] = iL (nP ws) ws.length r := fun r _ => oA (nP ws) R ws.length (fun a ha => ⟨(jV ha (hgood a ha)).1, (jV ha (hgood a ha)).2.1⟩) r
 have mk3 := mk H3
 rw [w3] at mk3
 obtain ⟨H4, hH4⟩ : ∃ H4, H4 = H3 ++ [⟨49, 1, List.replicate ws.length .nils⟩] := ⟨_, rfl⟩
 have h4l : H4.length = 2 + R + ws.length + 1 := by rw [hH4]; simp [w3]
 have bx : gD 56 .nils H4 = some (.ptr (2 + R + ws.length + 1) 1 0 0, H4 ++ [⟨56, 1, [.nils]⟩]) := by rw [← h4l]; rfl
 have st : hX (cH 1 (.ptr (2 + R + ws.length + 1) 1 0 0) (.sl (2 + R + ws.length) ws.length 0 ws.length 1) (H4 ++ [⟨56, 1, [.nils]⟩])) = some (.tup [], H4 ++ [⟨56, 1, [.sl (2 + R + ws.length) ws.length 0 ws.length 1]⟩]) := by
  have g4 : (H4 ++ [(⟨56, 1, [.nils]⟩ : ABlk)])[2 + R + ws.length + 1]? = some ⟨56, 1, [.nils]⟩ := by rw [← h4l, List.getElem?_append_right (Nat.le_refl _), Nat.sub_self]; rfl
  have e : cH 1 (.ptr (2 + R + ws.length + 1) 1 0 0) (.sl (2 + R + ws.length) ws.length 0 ws.length 1) (H4 ++ [⟨56, 1, [.nils]⟩]) = some (H4 ++ [⟨56, 1, [.sl (2 + R + ws.length) ws.length 0 ws.length 1]⟩]) := by
   unfold cH
   simp only [g4]
   rw [if_pos ⟨rfl, rfl, rfl⟩]
   simp only [List.getElem?_cons_zero]
   rw [if_pos (by show 0 + 1 ≤ 1; omega)]
   have e2 : (H4 ++ [(⟨56, 1, [.nils]⟩ : ABlk)]).set (2 + R + ws.length + 1) ⟨56, 1, [.sl (2 + R + ws.length) ws.length 0 ws.length 1]⟩ = H4 ++ [⟨56, 1, [.sl (2 + R + ws.length) ws.length 0 ws.length 1]⟩] := by
    rw [← h4l, List.set_append_right _ _ (Nat.le_refl _), Nat.sub_self]; rfl
   exact congrArg some e2
  rw [e]; rfl
 obtain ⟨H5, hH5⟩ : ∃ H5, H5 = H4 ++ [⟨56, 1, [.sl (2 + R + ws.length) ws.length 0 ws.length 1]⟩] := ⟨_, rfl⟩
 have h5l : H5.length = 2 + R + ws.length + 2 := by rw [hH5]; simp [h4l]
 have g5a : H5[2 + R + ws.length]? = some ⟨49, 1, List.replicate ws.length .nils⟩ := by
  rw [hH5, List.getElem?_append_left (by omega), hH4, List.getElem?_append_right (by omega), w3, Nat.sub_self]; rfl
 have g5b : H5[2 + R + ws.length + 1]? = some ⟨56, 1, [.sl (2 + R + ws.length) ws.length 0 ws.length 1]⟩ := by
  rw [hH5, List.getElem?_append_right (by omega), h4l, Nat.sub_self]; rfl
 have g5c : ∀ i, i < 2 + R + ws.length → H5[i]? = H3[i]? := fun i hi => by
  rw [hH5, List.getElem?_append_left (by omega), hH4, List.getElem?_append_left (by omega)]
 have vq : qB (.ptr (2 + R + ws.length + 1) 1 0 0, 0, 3, 1) H5 = jK (2 + R + ws.length) 0 3 1 (List.range' 0 ws.length) H5 := by
  have hcell : aDp (2 + R + ws.length + 1) 0 0 H5 = .sl (2 + R + ws.length) ws.length 0 ws.length 1 := by
   unfold aDp
   simp only [g5b]
   rfl
  unfold qB
  simp only [hcell]
 obtain ⟨gr1, gr2⟩ := yE (q := 2 + R + ws.length) (base := 2 + R + ws.length + 2) (n := ws.length) (by omega) ws.length 0 H5 (by omega) (by omega) (by rw [g5a]; rfl) (fun k hk => by omega)
 rw [← vq] at gr1 gr2
 obtain ⟨H6, hH6⟩ : ∃ H6, H6 = qB (.ptr (2 + R + ws.length + 1) 1 0 0, 0, 3, 1) H5 := ⟨_, rfl⟩
 rw [← hH6] at gr1 gr2
 have hO : HO ws.length R (jQ (kL ws) ws.length ws.length) (jQ (nP ws) R ws.length) (List.replicate ws.length []) H6 :=
  ⟨w2.same fun i hi => by rw [gr1.same i (by omega) (by omega)]; exact g5c i hi, by simp, Rows.empty (by omega) gr2 gr1.row, by rw [gr1.same _ (by omega) (by omega)]; exact g5b⟩
 obtain ⟨H7, out, z1, z2, z3⟩ := aCM G kk self bor ws R M hn hR hk _ _ hah hrd R 0 kk _ H6 (by omega) (by omega) hO (by rw [gr1.len]; omega) .zero
 rw [← hH4] at mk3
 rw [← hH5] at st
 have w1' : cC (bB.l7 G kk H2.length self) kk (xs7 bor ws R M 0) H2 = some (.exit 0, xs7 bor ws R M ws.length, H3) := by rw [hAl]; exact w1
 have z1' : cC (bB.l23 G kk H6.length self) kk (yV (cV bor ws R M) ws.length R 0) H6 = some (.exit 6, yV (cV bor ws R M) ws.length R R, H7) := by rw [gr1.len]; exact z1
 have lb : aH G false 1 (.ptr (2 + R + ws.length + 1) 1 0 0) H7 = some (.sl (2 + R + ws.length) ws.length 0 ws.length 1) := by
  unfold aH
  simp only [z2.bx]
  rfl
 have fin := aHD z2
 refine ⟨out, ?_, z3⟩
 rw [bB.step]
 unfold bB.c
 rw [← hself]
 refine fC ?_
 clear w1 z1 mk z2 z3 hO gr1 gr2 vq g5a g5b g5c hH5 hH4 hA hAl h4l h5l hah hrd w2 w3 hgood hgood0 hv hself
 unfold xs7 at w1'
 unfold yV bO at z1'
 have fx := aKI b0 <| aKI lC <| aKI r1 <| aKI q1 <| aKI f0 <| aKI lI <| aKI ln <| mk0
 refine eH ?_
 refine eM1 v1 ?_
 refine eM0 ?_
 refine eV1 v2 ?_
 refine eV0 ?_
 have fx := aKI f0 <| aKI f1 <| aKI lI <| aKI lR <| aKI ln <| aKI mk3 <| aKI bx <| st
 have lx1 := w1'
 refine eH ?_
 refine eV1 hH6.symm ?_
 refine eV0 ?_
 have fx := lb
 have lx1 := z1'
 refine eH ?_
 exact oF fin
end
section
variable {L : LY} {R S N : Nat}
end
section
variable {L : LY} {R S N : Nat} {P : List Nat} {m : Nat}
end
def Fol (w : WI) (p q : Nat) : Prop := (w.op ≠ 17 ∧ w.op ≠ 20 ∧ q = p + 1) ∨ ((w.op = 17 ∨ w.op = 18 ∨ w.op = 19) ∧ q = w.k.toNat)
structure LvC (cs : List WI) (L : Nat → Nat → Prop) : Prop where
 a : ∀ p w, cs[p]? = some w → (dD w.op).a = true → L w.a.toNat p
 b : ∀ p w, cs[p]? = some w → (dD w.op).b = true → L w.b.toNat p
 c : ∀ p w, cs[p]? = some w → (dD w.op).c = true → L w.c.toNat p
 up : ∀ p w q x, cs[p]? = some w → q < cs.length → Fol w p q → L x q → ¬ ((dD w.op).d = true ∧ w.d.toNat = x) → L x p
def brW (w : WI) : Prop := w.op = 17 ∨ w.op = 18 ∨ w.op = 19
instance (w : WI) : Decidable (brW w) := by unfold brW; infer_instance
structure SR (cs : List WI) (L : Nat → Nat → Prop) (R : Nat) (ps : Nat → Nat) (s t : MS) : Prop where
 at_ : t.at_ = ps s.at_
 mem : t.mem = s.mem
 code : t.code = s.code
 len : s.regs.length = R
 len2 : R ≤ t.regs.length
 ag : s.at_ < cs.length → ∀ x, x < R → L x s.at_ → t.regs.getD x 0 = s.regs.getD x 0
 le : s.at_ ≤ cs.length
section
variable {cs : List WI} {L : Nat → Nat → Prop} {R : Nat} {ps : Nat → Nat} (hL : LvC cs L)
structure St2 (cs : List WI) (L : Nat → Nat → Prop) (R : Nat) (ps : Nat → Nat) (s t : MS) (go : Bool) (s2 t2 : MS) : Prop where
 run : go = true → SR cs L R ps s2 t2
 mem : t2.mem = s2.mem
 code : t2.code = s2.code
 st : s2.steps = s.steps + 1
 st2 : t2.steps = t.steps + 1
 lk : t.leaks = s.leaks → ps s.at_ = s.at_ → t2.leaks = s2.leaks
 tl : t2.regs.length = t.regs.length
theorem aCo {op : Int} (h : 16 ≤ op ∧ op ≤ 20) : (dD op).d = false := by
 have : op = 16 ∨ op = 17 ∨ op = 18 ∨ op = 19 ∨ op = 20 := by omega
 rcases this with rfl | rfl | rfl | rfl | rfl <;> rfl
end
def NdW (ws : List WI) (x p : Nat) : Prop := Nd ws.length (nP ws) (kL ws) (yG ws) x p
instance : Inhabited WI := ⟨⟨0, 0, 0, 0, 0, 0⟩⟩
def hpM (p0 : ABlk) (bor : Bool) (cs : List WI) (R M : Int) (s : MS) : aA :=
 [p0, ⟨73, 4, [.agg [.int .i64 0, .nils, .nils, .int .i64 0]]⟩, ⟨30, 1, aIC s.regs⟩,
  ⟨147, 9, [.agg [.ro bor (cJ cs), I6 R, I6 M, .sl 2 s.regs.length 0 s.regs.length 1, Nn s.at_, I6 s.code, .sl 5 s.mem.length 0 s.mem.length 1, .sl 6 s.leaks.length 0 s.leaks.length 2, Nn s.steps]]⟩,
  ⟨30, 1, []⟩, ⟨30, 1, aIC s.mem⟩, ⟨91, 2, aJi s.leaks⟩]
section
variable (G : aC) (p0 : ABlk) (bor : Bool) (cs : List WI) (R M : Int) (s : MS)
theorem aEy {g : cK} {args : List AV} {r : AV} {s' : MS} (h : g args (hpM p0 bor cs R M s) = some (r, hpM p0 bor cs R M s')) : dG g args (hpM p0 bor cs R M s) = some (r, hpM p0 bor cs R M s') := by
 unfold dG; rw [h]; rfl
end
section
variable (G : aC) (p0 : ABlk) (hp : bG 7 p0.elems = true) (bor : Bool) (cs : List WI) (R : Nat) (M : Int) (s : MS) (i : WI) (hs : s.Ok R) (hl : s.leaks.length ≤ 999990)
end
section
variable (G : aC) (p0 : ABlk) (hp : bG 7 p0.elems = true) (bor b2 : Bool) (cs : List WI) (R : Nat) (M : Int) (fuel : Int) (self : cK) (k : Nat)
end
section
variable {bor : Bool} (G : aC) (hg : GOk G) (k : Nat) (self : cK) (cs : List WI) (R M : Int)
end
section
variable {bor : Bool} (G : aC) (hg : GOk G) (k : Nat) (cs : List WI) (R M : Int) (bm : Bool) (mem : List Nat) (fuel : Int)
theorem sU {v : VE} (h : v ≠ .ok) : bC Tryd.prog .neq 33 true (tD v) .nili = some (.bool true) := by
 cases v with
 | ok => exact absurd rfl h
 | bare e => kernel_rfl
 | at_ j e => kernel_rfl
end
theorem aHE (G : aC) (k : Nat) : cO.f G (k + 150) [] [] = some (.bool true, []) := by kernel_rfl
theorem aHN (G : aC) (k : Nat) (cs : List WI) (R M : Int) : bW.f G (k + 1) [cV false cs R M] [] = some (.bool (decide (cs.length ≤ 60 ∧ R ≤ 40)), []) := by
 rw [bW.step]
 unfold bW.c cV
 have l1 : cB (.ro false (cJ cs)) = some (I6 cs.length) := by simp [cB, fY]
 refine fC ?_
 repeat' first
  | (with_reducible first | refine eT ?_ | refine eN ?_ | refine eS ?_ | refine eXn ?_ | refine eXr ?_ | refine eX ?_ | refine eI ?_ | refine eK ?_ | refine eV0 ?_ | refine wD ?_ | refine aCd ?_ | refine aBZ ?_ | refine aCc ?_ | refine aCa ?_ | refine aCb ?_)
  | ((with_reducible apply eCn); (simp only [eZ, eY]; first | done | (with_reducible exact rfl)))
  | ((with_reducible apply eJ); (rfl))
  | ((with_reducible apply wE); (first | rfl | (simp only [eZ, eY]; rfl)))
  | ((with_reducible apply eB); (first | (with_reducible exact rfl) | (simp (disch := omega) only [qf, l1]; first | done | (with_reducible exact rfl) | (with_reducible exact ⟨rfl, rfl⟩)) | (simp (disch := omega) only [qa, jU, AV.cells, fP, eU, kG, dN, gQ, iV, Nat.reduceLeDiff, Nat.reduceLT, Nat.reduceAdd, ↓reduceIte, l1]; first | done | (with_reducible exact rfl) | (with_reducible exact ⟨rfl, rfl⟩))))
  | ((with_reducible apply eR); (simp only [eZ, eY]; (with_reducible exact rfl)))
  | ((with_reducible first | refine aDP ?_ ?_ | refine aDU ?_ ?_ | refine aDT ?_ ?_ | refine aDS ?_ ?_ | refine aDR ?_ ?_ | refine aDQ ?_ ?_ | refine aDV ?_ ?_ | refine xR ?_ ?_ | refine sGd ?_ ?_ | refine wC ?_ ?_) <;> intro hq <;> try subst hq)
 all_goals (refine w1b ?_; first | exact (decide_eq_true (by omega)).symm | exact (decide_eq_false (by omega)).symm)
theorem aCu (b : Bool) {l : List Nat} {j : Nat} (h : j < l.length) : aM 1 (.ro b (bV l)) (Nn j) = some (.rp b (Nn l[j]) 0) := by
 have e : (bV l)[j]? = some (Nn l[j]) := by simp [bV, h]
 have e1 : (Nn l[j]).cells.length = 1 := rfl
 simp [aM, e, e1]
section
variable (R M : Int) (G : aC) (k : Nat) (self : cK)
end
section
variable (G : aC) (k : Nat) (self : cK) (ws : List WI) (R : Nat) (M : Int) (mem : List Nat) (junk : Nat) (out : List (List Nat))
theorem oT (n : Nat) : aV n (iP out) = true := by
 unfold iP
 simp only [aV]
 exact jR n _ (fun l => by simp [aV, eW]) out
end
theorem aAt (G : aC) (hg : GOk G) (k : Nat) (bor : Bool) (ws : List WI) (R M : Int) (hk : ws.length < k + 7) (hl : ws.length ≤ 100000) (h : fA ws R M ≠ .ok) :
  bB.f G (k + 9) [cV bor ws R M] [] = some (.tup [.nils, tD (fA ws R M)], []) := by
 have r1 : ∀ H, aJ (cW.f G (k + 8)) [cV bor ws R M] H = _ := fun H => aZ (H := H) (vP (bor := bor) G hg k ws R M hk (by omega)) (by simp [dK, bP, cV, jA]) (kW _)
 have q1 : bC Tryd.prog .neq 33 true (tD (fA ws R M)) .nili = some (.bool true) := sU h
 have b0 : ∀ H, eE (cV bor ws R M) H = some (.rp false (cV bor ws R M) 0, H) := fun H => rfl
 have l0 : ∀ H, aH G true 3 (.rp false (cV bor ws R M) 0) H = some (cV bor ws R M) := fun H => rfl
 have fin : cS [.nils, tD (fA ws R M)] 0 [] = some (.ret, [.tup [.nils, tD (fA ws R M)]], []) := gY (by simp [aV, bG, iQ, aEY]) _
 rw [bB.step]
 unfold bB.c
 refine fC ?_
 generalize cV bor ws R M = C at *
 generalize tD (fA ws R M) = V at *
 have fx := aKI b0 <| aKI l0 <| aKI r1 <| q1
 refine eH ?_
 exact oF fin
section
variable (G : aC) (k : Nat) (self : cK) (ws : List WI) (R M : Int) (mem : List Nat) (cs0 : List WI) (N : Nat)
end
end Go.Proofs.YtlkgkfgkiidhdaaDoor.Mir
