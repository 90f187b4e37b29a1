/- The law of SpanOrders, in plain Lean. -/
import Derived.Test.YtemkaggjbhpbbaaMirY
import Derived.Test.YtemkaggjbhpbbaaPb
namespace Go.Proofs.Ytemkaggjbhpbbaa
open Go Mir
set_option linter.unusedVariables false
set_option linter.unusedSimpArgs false

theorem span_open {x : AV} (h : IsT Try.prog 24 x) : ∃ a b : Int, x = Sp a b ∧ Rg a ∧ Rg b := by
  obtain ⟨cs, rfl, h'⟩ := h.of_struct Try.underlying24
  replace h' : IsFs Try.prog [_, _] cs := h'
  cases h' with
  | cons hx h' =>
    cases h' with
    | cons hy h' =>
      cases h'
      obtain ⟨a, rfl, ha⟩ := hx.of_int Try.underlying2
      obtain ⟨b, rfl, hb⟩ := hy.of_int Try.underlying2
      exact ⟨a, b, rfl, wf_i64 ha, wf_i64 hb⟩

theorem joinV_eq {a b c d : Int} (h : a ≤ b) (h' : c ≤ d) : joinV a b c d = Sp (min a c) (max b d) := by simp [joinV, h, h']
theorem joinV_clean (a b c d : Int) : cleanB (joinV a b c d) = true := by unfold joinV; split <;> rfl
theorem spanS_clean (p : Bool) (a b : Int) : cleanB (spanS p a b) = true := by unfold spanS; split <;> rfl
theorem joinC (G : Globs) (a b c d : Int) (H : AHeap) : pureCall (span_Join.f G 40) [Sp a b, Sp c d] H = some (joinV a b c d, H) :=
  pureCall_of (join_spec G 20 a b c d) rfl (joinV_clean ..)
theorem withinC (G : Globs) (a b c d : Int) (H : AHeap) : pureCall (span_Within.f G 40) [Sp a b, Sp c d] H = some (.bool (decide (a ≤ b) && decide (c ≤ d) && decide (c ≤ a) && decide (b ≤ d)), H) :=
  pureCall_of (within_spec G 20 a b c d) rfl rfl
theorem sameC (G : Globs) (a b c d : Int) (H : AHeap) : pureCall (alembiclaw16_same.f G 40) [Sp a b, Sp c d] H = some (.bool (decide (a = c) && decide (b = d)), H) :=
  pureCall_of (same_spec G 20 a b c d) rfl rfl
theorem isC (G : Globs) (a b : Int) (H : AHeap) : pureCall (span_Is.f G 40) [Sp a b] H = some (.bool (decide (a ≤ b)), H) :=
  pureCall_of (is_spec G 39 a b) rfl rfl

set_option maxRecDepth 100000 in
set_option maxHeartbeats 4000000 in
theorem LSpanOrders.law (xs : List AV) (h : IsTs Try.prog [24, 24, 24] xs) : ∃ k, alembiclaw16_SpanOrders.f (sentG 0 []) k xs [] = some (.bool true, []) := by
  obtain ⟨x, _, rfl, hx, h⟩ := h.uncons
  obtain ⟨y, _, rfl, hy, h⟩ := h.uncons
  obtain ⟨z, _, rfl, hz, h⟩ := h.uncons
  obtain rfl := h.unnil
  obtain ⟨a, b, rfl, ha, hb⟩ := span_open hx
  obtain ⟨c, d, rfl, hc, hd⟩ := span_open hy
  obtain ⟨e, f, rfl, he, hf⟩ := span_open hz
  refine ⟨41, ?_⟩
  generalize sentG 0 [] = G
  have hfirst : ∀ H, pureCall (alembiclaw16_first.f G 40) [] H = _ := fun H => pureCall_of (H := H) (first_ok G 10) rfl rfl
  rw [alembiclaw16_SpanOrders.step]
  unfold alembiclaw16_SpanOrders.c
  by_cases hh : a ≤ b ∧ c ≤ d ∧ e ≤ f
  case neg =>
    have j0 : joinV 1 0 c d = Sp 0 0 := by simp [joinV]
    cases h1 : decide (a ≤ b) <;> cases h2 : decide (c ≤ d) <;> cases h3 : decide (e ≤ f)
    all_goals first
      | (exfalso; simp at h1 h2 h3; omega)
      | (
          repeat first
            | refine oB (by with_reducible exact rfl) ?_
            | refine oB (by simp [pu_val, boxRoA, boxA, fieldAddrV, loadV, loadC, storable, AV.cells, extractA, buildRo, buildOwn, fillE, buildSt, fillA, stS, storeV, recell, putC, lenSl, lenStr, idxAddrSl, idxAddrArr, allSome, hfirst, isC, h1, h2, h3, joinC, sameC, j0]; first | done | (with_reducible exact rfl) | (with_reducible exact ⟨rfl, rfl⟩)) ?_
            | refine oT ?_
            | refine oN ?_
            | refine oX ?_
            | refine oXn ?_
            | refine oXr ?_
          exact oF (finV_bool ..))
  obtain ⟨hab, hcd, hef⟩ := hh
  obtain ⟨p, hp⟩ : ∃ p, p = min a c := ⟨_, rfl⟩
  obtain ⟨q, hq⟩ : ∃ q, q = max b d := ⟨_, rfl⟩
  obtain ⟨s, hs⟩ : ∃ s, s = min c e := ⟨_, rfl⟩
  obtain ⟨t, ht⟩ : ∃ t, t = max d f := ⟨_, rfl⟩
  obtain ⟨u, hu⟩ : ∃ u, u = min p e := ⟨_, rfl⟩
  obtain ⟨v, hv⟩ : ∃ v, v = max q f := ⟨_, rfl⟩
  have j1 : ∀ H, pureCall (span_Join.f G 40) [Sp a b, Sp c d] H = some (Sp p q, H) := fun H => by rw [joinC, joinV_eq hab hcd, hp, hq]
  have j2 : ∀ H, pureCall (span_Join.f G 40) [Sp c d, Sp a b] H = some (Sp p q, H) := fun H => by rw [joinC, joinV_eq hcd hab, hp, hq, Int.min_comm, Int.max_comm]
  have j3 : ∀ H, pureCall (span_Join.f G 40) [Sp p q, Sp e f] H = some (Sp u v, H) := fun H => by rw [joinC, joinV_eq (by omega) hef, hu, hv]
  have j4 : ∀ H, pureCall (span_Join.f G 40) [Sp c d, Sp e f] H = some (Sp s t, H) := fun H => by rw [joinC, joinV_eq hcd hef, hs, ht]
  have j5 : ∀ H, pureCall (span_Join.f G 40) [Sp a b, Sp s t] H = some (Sp u v, H) := fun H => by
    rw [joinC, joinV_eq hab (by omega)]
    have e1 : min a s = u := by omega
    have e2 : max b t = v := by omega
    rw [e1, e2]
  have j6 : ∀ H, pureCall (span_Join.f G 40) [Sp a b, Sp a b] H = some (Sp a b, H) := fun H => by
    rw [joinC, joinV_eq hab hab]; simp
  have w1 : ∀ H, pureCall (span_Within.f G 40) [Sp a b, Sp p q] H = some (.bool true, H) := fun H => by
    rw [withinC]; have h1 : p ≤ q := by omega
    have h2 : p ≤ a := by omega
    have h3 : b ≤ q := by omega
    simp [hab, h1, h2, h3]
  have w2 : ∀ H, pureCall (span_Within.f G 40) [Sp p q, Sp u v] H = some (.bool true, H) := fun H => by
    rw [withinC]; have h1 : p ≤ q := by omega
    have h2 : u ≤ p := by omega
    have h3 : q ≤ v := by omega
    have h4 : u ≤ v := by omega
    simp [h4, h1, h2, h3]
  have w3 : ∀ H, pureCall (span_Within.f G 40) [Sp a b, Sp a b] H = some (.bool true, H) := fun H => by
    rw [withinC]; simp [hab]
  have w4 : ∀ H, pureCall (span_Within.f G 40) [Sp a b, Sp c d] H = some (.bool (decide (c ≤ a ∧ b ≤ d)), H) := fun H => by
    rw [withinC]; simp [hab, hcd]
  have w5 : ∀ H, pureCall (span_Within.f G 40) [Sp c d, Sp a b] H = some (.bool (decide (a ≤ c ∧ d ≤ b)), H) := fun H => by
    rw [withinC]; simp [hab, hcd]
  have s0 : ∀ (a b : Int) H, pureCall (alembiclaw16_same.f G 40) [Sp a b, Sp a b] H = some (.bool true, H) := fun a b H => by rw [sameC]; simp
  have s1 : ∀ H, pureCall (alembiclaw16_same.f G 40) [Sp a b, Sp c d] H = some (.bool (decide (a = c ∧ b = d)), H) := fun H => by rw [sameC]; simp
  have i1 := fun H => isC G a b H
  have i2 := fun H => isC G c d H
  have i3 := fun H => isC G e f H
  simp only [decide_eq_true hab] at i1
  simp only [decide_eq_true hcd] at i2
  simp only [decide_eq_true hef] at i3
  obtain ⟨P, hP⟩ : ∃ P, P = (decide (a ≤ b) && decide (c ≤ d) && numB (a + c) && numB (b + d)) := ⟨_, rfl⟩
  have a1 : ∀ H, pureCall (span_Add.f G 40) [Sp a b, Sp c d] H = some (spanS P (a + c) (b + d), H) := fun H => by
    rw [hP]; exact pureCall_of (add_spec G 20 a b c d ha hb hc hd) rfl (spanS_clean ..)
  obtain ⟨R, hR⟩ : ∃ R, R = (decide (a ≤ b) && decide (c ≤ d) && numB (a * c) && numB (a * d) && numB (b * c) && numB (b * d)) := ⟨_, rfl⟩
  obtain ⟨lo, hlo⟩ : ∃ x, x = (min (a * c) (min (a * d) (min (b * c) (b * d)))) := ⟨_, rfl⟩
  obtain ⟨hi, hhi⟩ : ∃ x, x = (max (a * c) (max (a * d) (max (b * c) (b * d)))) := ⟨_, rfl⟩
  have m1 : ∀ H, pureCall (span_Mul.f G 40) [Sp a b, Sp c d] H = some (spanS R lo hi, H) := fun H => by
    rw [hR, hlo, hhi]; exact pureCall_of (mul_spec G 20 a b c d ha hb hc hd) rfl (spanS_clean ..)
  have m2 : ∀ H, pureCall (span_Mul.f G 40) [Sp c d, Sp a b] H = some (spanS R lo hi, H) := fun H => by
    rw [pureCall_of (mul_spec G 20 c d a b hc hd ha hb) rfl (spanS_clean ..)]
    rw [Int.mul_comm c a, Int.mul_comm c b, Int.mul_comm d a, Int.mul_comm d b]
    have e1 : (decide (c ≤ d) && decide (a ≤ b) && numB (a * c) && numB (b * c) && numB (a * d) && numB (b * d)) = R := by
      rw [hR, Bool.and_comm (decide (c ≤ d))]; simp only [Bool.and_assoc, Bool.and_left_comm]
    have e2 : (min (a * c) (min (b * c) (min (a * d) (b * d)))) = lo := by rw [hlo]; omega
    have e3 : (max (a * c) (max (b * c) (max (a * d) (b * d)))) = hi := by rw [hhi]; omega
    rw [e1, e2, e3]
  have wab : ∀ (W : Bool), W = decide (c ≤ a ∧ b ≤ d) → W = true → (decide (a ≤ c ∧ d ≤ b) != decide (a = c ∧ b = d)) = false := by
    intro W h1 h2; rw [h2] at h1
    have h3 := of_decide_eq_true h1.symm
    simp only [bne_eq_false_iff_eq, decide_eq_decide]
    omega
  obtain ⟨W, hW⟩ : ∃ W, W = decide (c ≤ a ∧ b ≤ d) := ⟨_, rfl⟩
  have wab' := wab W hW
  simp only [Bool.decide_and] at wab'
  rw [← hW] at w4
  have nb := fun (x y : Bool) => bin_neq_bool (P := Try.prog) (t := 4) Try.underlying4 false x y
  have eb := fun (x y : Bool) => bin_eql_bool (P := Try.prog) (t := 4) Try.underlying4 false x y
  have spe : ∀ lo hi, spanS false lo hi = .tup [Sp 0 0, .bool false] := fun _ _ => rfl
  have spt : ∀ lo hi, spanS true lo hi = .tup [Sp lo hi, .bool true] := fun _ _ => rfl
  repeat first
    | refine oB (by with_reducible exact rfl) ?_
    | refine oB (by simp [pu_val, boxRoA, boxA, fieldAddrV, loadV, loadC, storable, AV.cells, extractA, buildRo, buildOwn, fillE, buildSt, fillA, stS, storeV, recell, putC, lenSl, lenStr, idxAddrSl, idxAddrArr, allSome, hfirst, i1, i2, i3, j1, j2, j3, j4, j5, j6, w1, w2, w3, w4, w5, s0, s1]; first | done | (with_reducible exact rfl) | (with_reducible exact ⟨rfl, rfl⟩)) ?_
    | refine oT ?_
    | refine oN ?_
    | refine oX ?_
    | refine oXn ?_
    | refine oXr ?_
  cases W
  all_goals repeat first
    | refine oB (by with_reducible exact rfl) ?_
    | refine oB (by simp [pu_val, boxRoA, boxA, fieldAddrV, loadV, loadC, storable, AV.cells, extractA, buildRo, buildOwn, fillE, buildSt, fillA, stS, storeV, recell, putC, lenSl, lenStr, idxAddrSl, idxAddrArr, allSome, w5, s0, s1, j6, a1, nb, wab']; first | done | (with_reducible exact rfl) | (with_reducible exact ⟨rfl, rfl⟩)) ?_
    | refine oT ?_
    | refine oN ?_
    | refine oX ?_
    | refine oXn ?_
    | refine oXr ?_
  all_goals cases P
  all_goals repeat first
    | refine oB (by with_reducible exact rfl) ?_
    | refine oB (by simp [pu_val, boxRoA, boxA, fieldAddrV, loadV, loadC, storable, AV.cells, extractA, buildRo, buildOwn, fillE, buildSt, fillA, stS, storeV, recell, putC, lenSl, lenStr, idxAddrSl, idxAddrArr, allSome, spe, spt]; first | done | (with_reducible exact rfl) | (with_reducible exact ⟨rfl, rfl⟩)) ?_
    | refine oT ?_
    | refine oN ?_
    | refine oX ?_
    | refine oXn ?_
    | refine oXr ?_
  case false.false => exact oF (finV_bool ..)
  case true.false => exact oF (finV_bool ..)
  all_goals
    have ra : Rg (a + c) ∧ Rg (b + d) := by
      simp only [numB, Bool.and_eq_true, Bool.true_eq, decide_eq_true_eq] at hP
      exact ⟨hP.1.2, hP.2⟩
    obtain ⟨Q, hQ⟩ : ∃ Q, Q = (decide (a + c ≤ b + d) && decide (c ≤ d) && numB (a + c - d) && numB (b + d - c)) := ⟨_, rfl⟩
    have u1 : ∀ H, pureCall (span_Sub.f G 40) [Sp (a + c) (b + d), Sp c d] H = some (spanS Q (a + c - d) (b + d - c), H) := fun H => by
      rw [hQ]; exact pureCall_of (sub_spec G 20 (a + c) (b + d) c d ra.1 ra.2 hc hd) rfl (spanS_clean ..)
    have w6 : ∀ H, pureCall (span_Within.f G 40) [Sp a b, Sp (a + c - d) (b + d - c)] H = some (.bool true, H) := fun H => by
      rw [withinC]
      have h1 : a + c - d ≤ b + d - c := by omega
      have h2 : a + c - d ≤ a := by omega
      have h3 : b ≤ b + d - c := by omega
      rw [decide_eq_true hab, decide_eq_true h1, decide_eq_true h2, decide_eq_true h3]; rfl
    repeat first
      | refine oB (by with_reducible exact rfl) ?_
      | refine oB (by simp [pu_val, boxRoA, boxA, fieldAddrV, loadV, loadC, storable, AV.cells, extractA, buildRo, buildOwn, fillE, buildSt, fillA, stS, storeV, recell, putC, lenSl, lenStr, idxAddrSl, idxAddrArr, allSome, u1]; first | done | (with_reducible exact rfl) | (with_reducible exact ⟨rfl, rfl⟩)) ?_
      | refine oT ?_
      | refine oN ?_
      | refine oX ?_
      | refine oXn ?_
      | refine oXr ?_
    cases Q <;> cases R
  all_goals repeat first
    | refine oB (by with_reducible exact rfl) ?_
    | refine oB (by simp [pu_val, boxRoA, boxA, fieldAddrV, loadV, loadC, storable, AV.cells, extractA, buildRo, buildOwn, fillE, buildSt, fillA, stS, storeV, recell, putC, lenSl, lenStr, idxAddrSl, idxAddrArr, allSome, w6, s0, m1, m2, eb, spe, spt]; first | done | (with_reducible exact rfl) | (with_reducible exact ⟨rfl, rfl⟩)) ?_
    | refine oT ?_
    | refine oN ?_
    | refine oX ?_
    | refine oXn ?_
    | refine oXr ?_
  all_goals exact oF (finV_bool ..)
end Go.Proofs.Ytemkaggjbhpbbaa
