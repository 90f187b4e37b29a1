/- The law of SpanSays, in plain Lean. -/
import Derived.Test.YtemkaggjbhpbbaaMirY
import Derived.Test.YtemkaggjbhpbbaaPf
namespace Go.Proofs.Ytemkaggjbhpbbaa
open Go Mir
set_option linter.unusedVariables false
set_option linter.unusedSimpArgs false

theorem span_open {x : AV} (h : IsT Try.prog 24 x) : ∃ a b : Int, x = Sp a b ∧ Rg a ∧ Rg b := by
  obtain ⟨cs, rfl, h'⟩ := h.of_struct Try.underlying24
  replace h' : IsFs Try.prog [_, _] cs := h'
  cases h' with
  | cons hx h' =>
    cases h' with
    | cons hy h' =>
      cases h'
      obtain ⟨a, rfl, ha⟩ := hx.of_int Try.underlying2
      obtain ⟨b, rfl, hb⟩ := hy.of_int Try.underlying2
      exact ⟨a, b, rfl, wf_i64 ha, wf_i64 hb⟩

theorem spanS_clean (p : Bool) (a b : Int) : cleanB (spanS p a b) = true := by unfold spanS; split <;> rfl
theorem spanS_form (p : Bool) (lo hi : Int) : ∃ u v, spanS p lo hi = .tup [Sp u v, .bool p] := by
  cases p
  · exact ⟨0, 0, rfl⟩
  · exact ⟨lo, hi, rfl⟩
theorem spanS_false (lo hi : Int) : spanS false lo hi = .tup [Sp 0 0, .bool false] := rfl
theorem sameC (G : Globs) (a b : Int) (H : AHeap) : pureCall (alembiclaw16_same.f G 60) [Sp a b, Sp a b] H = some (.bool true, H) :=
  pureCall_of ((same_spec G 40 a b a b).trans (by simp)) rfl rfl
theorem shlV_form (a b k : Int) : ∃ u v p, shlV a b k = .tup [Sp u v, .bool p] := by
  unfold shlV; split
  · exact ⟨0, 0, false, rfl⟩
  · obtain ⟨u, v, h⟩ := spanS_form (decide (a ≤ b) && numB (a * 2 ^ k.toNat) && numB (b * 2 ^ k.toNat)) (a * 2 ^ k.toNat) (b * 2 ^ k.toNat)
    exact ⟨u, v, _, h⟩
theorem shlV_not {a b : Int} (k : Int) (h : ¬ a ≤ b) : shlV a b k = .tup [Sp 0 0, .bool false] := by
  unfold shlV; rw [decide_eq_false h]; split <;> rfl
theorem shlV_is {a b : Int} (k : Int) (h : a ≤ b) : rshlV a b k = shlV a b k := by
  unfold shlV rshlV; rw [decide_eq_true h, Bool.true_and]
theorem sarV_form (a b k : Int) : ∃ u v, sarV a b k = Sp u v := by
  unfold sarV; split
  · exact ⟨_, _, rfl⟩
  · exact ⟨_, _, rfl⟩
theorem sarV_is {a b : Int} (k : Int) (h : a ≤ b) : rsarV a b k = sarV a b k := by
  unfold sarV rsarV
  have : (b < a ∨ k < 0 ∨ 63 < k) ↔ (k < 0 ∨ 63 < k) := by omega
  simp only [this]
theorem sarV_not {a b : Int} (k : Int) (h : ¬ a ≤ b) : sarV a b k = Sp 0 0 := by unfold sarV; rw [if_pos (.inl (by omega))]
theorem randV_form (a b c d : Int) : ∃ u v, randV a b c d = Sp u v := by
  unfold randV; split
  · exact ⟨_, _, rfl⟩
  · split
    · exact ⟨_, _, rfl⟩
    · split <;> exact ⟨_, _, rfl⟩
theorem andV_is {a b c d : Int} (h : a ≤ b) (h' : c ≤ d) : andV a b c d = randV a b c d := by
  unfold andV randV; rw [decide_eq_true h, decide_eq_true h']; simp
theorem andV_not {a b c d : Int} (h : ¬ (a ≤ b ∧ c ≤ d)) : andV a b c d = Sp 0 0 := by
  unfold andV
  have : (decide (a ≤ b) && decide (c ≤ d)) = false := by
    by_cases h1 : a ≤ b
    · rw [decide_eq_false (show ¬ c ≤ d from fun h2 => h ⟨h1, h2⟩), Bool.and_false]
    · rw [decide_eq_false h1]; rfl
  rw [this]; rfl
theorem joinV_not {a b c d : Int} (h : ¬ (a ≤ b ∧ c ≤ d)) : joinV a b c d = Sp 0 0 := by
  unfold joinV
  have : (decide (a ≤ b) && decide (c ≤ d)) = false := by
    by_cases h1 : a ≤ b
    · rw [decide_eq_false (show ¬ c ≤ d from fun h2 => h ⟨h1, h2⟩), Bool.and_false]
    · rw [decide_eq_false h1]; rfl
  rw [this]; rfl

set_option maxRecDepth 100000 in
set_option maxHeartbeats 4000000 in
theorem LSpanSays.law (xs : List AV) (h : IsTs Try.prog [24, 24, 3] xs) : ∃ k, alembiclaw16_SpanSays.f (sentG 0 []) k xs [] = some (.bool true, []) := by
  obtain ⟨x, _, rfl, hx, h⟩ := h.uncons
  obtain ⟨y, _, rfl, hy, h⟩ := h.uncons
  obtain ⟨z, _, rfl, hz, h⟩ := h.uncons
  obtain rfl := h.unnil
  obtain ⟨a, b, rfl, ha, hb⟩ := span_open hx
  obtain ⟨c, d, rfl, hc, hd⟩ := span_open hy
  obtain ⟨k, rfl, hk⟩ := hz.of_int Try.underlying3
  replace hk := wf_i64 hk
  clear h hx hy hz
  refine ⟨61, ?_⟩
  generalize sentG 0 [] = G
  have hf : ∀ H, pureCall (alembiclaw16_first.f G 60) [] H = _ := fun H => pureCall_of (H := H) (first_ok G 30) rfl rfl
  have a1 := add_spec G 40 a b c d ha hb hc hd
  have a2 := sub_spec G 40 a b c d ha hb hc hd
  have a3 := mul_spec G 40 a b c d ha hb hc hd
  have a4 : ∀ H, pureCall (span_Shl.f G 60) [Sp a b, I k] H = some (shlV a b k, H) := fun H =>
    pureCall_of (shl_spec G 30 a b k ha hb) rfl (by obtain ⟨u, v, p, e⟩ := shlV_form a b k; rw [e]; rfl)
  have a5 : ∀ H, pureCall (span_Sar.f G 60) [Sp a b, I k] H = some (sarV a b k, H) := fun H =>
    pureCall_of (sar_spec G 30 a b k) rfl (by obtain ⟨u, v, e⟩ := sarV_form a b k; rw [e]; rfl)
  have i1 : ∀ H, pureCall (span_Is.f G 60) [Sp a b] H = some (.bool (decide (a ≤ b)), H) := fun H => pureCall_of (is_spec G 59 a b) rfl rfl
  have i2 : ∀ H, pureCall (span_Is.f G 60) [Sp c d] H = some (.bool (decide (c ≤ d)), H) := fun H => pureCall_of (is_spec G 59 c d) rfl rfl
  have i3 : ∀ H, pureCall (alembicref17_Is.f G 60) [Sp a b] H = some (.bool (decide (a ≤ b)), H) := fun H => pureCall_of (ris_spec G 59 a b) rfl rfl
  have i4 : ∀ H, pureCall (alembicref17_Is.f G 60) [Sp c d] H = some (.bool (decide (c ≤ d)), H) := fun H => pureCall_of (ris_spec G 59 c d) rfl rfl
  have nbb : ∀ p : Bool, bin Try.prog .neq 4 false (.bool p) (.bool p) = some (.bool false) := fun p => by rw [nb]; simp
  have ebb : ∀ p : Bool, bin Try.prog .eql 4 false (.bool p) (.bool p) = some (.bool true) := fun p => by rw [eb]; simp
  have wn : ¬ (a ≤ b ∧ c ≤ d) → ∀ H, pureCall (span_Within.f G 60) [Sp a b, Sp c d] H = some (.bool false, H) := fun hn H => by
    have e : (decide (a ≤ b) && decide (c ≤ d)) = false := by
      by_cases h1 : a ≤ b
      · rw [decide_eq_false (show ¬ c ≤ d from fun h2 => hn ⟨h1, h2⟩), Bool.and_false]
      · rw [decide_eq_false h1]; rfl
    have := within_spec G 40 a b c d
    rw [e] at this
    exact pureCall_of this rfl rfl
  have jn : ∀ H, cleanB (joinV a b c d) = true → pureCall (span_Join.f G 60) [Sp a b, Sp c d] H = some (joinV a b c d, H) := fun H hcl =>
    pureCall_of (join_spec G 40 a b c d) rfl hcl
  have an : ∀ H, cleanB (andV a b c d) = true → pureCall (span_And.f G 60) [Sp a b, Sp c d] H = some (andV a b c d, H) := fun H hcl =>
    pureCall_of (and_spec G 30 a b c d) rfl hcl
  have s0 := sameC G
  rw [alembiclaw16_SpanSays.step]
  unfold alembiclaw16_SpanSays.c
  by_cases hab : a ≤ b
  · simp only [decide_eq_true hab] at i1 i3
    have r4 : ∀ H, pureCall (alembicref17_Shl.f G 60) [Sp a b, I k] H = some (shlV a b k, H) := fun H => by
      rw [← shlV_is k hab]
      exact pureCall_of (rshl_spec G 30 a b k ha hb hab) rfl (by rw [shlV_is k hab]; obtain ⟨u, v, p, e⟩ := shlV_form a b k; rw [e]; rfl)
    have r5 : ∀ H, pureCall (alembicref17_Sar.f G 60) [Sp a b, I k] H = some (sarV a b k, H) := fun H => by
      rw [← sarV_is k hab]
      exact pureCall_of (rsar_spec G 30 a b k) rfl (by rw [sarV_is k hab]; obtain ⟨u, v, e⟩ := sarV_form a b k; rw [e]; rfl)
    obtain ⟨u4, v4, p4, e4⟩ := shlV_form a b k
    obtain ⟨u5, v5, e5⟩ := sarV_form a b k
    rw [e4] at a4 r4
    rw [e5] at a5 r5
    by_cases hcd : c ≤ d
    · simp only [decide_eq_true hcd] at i2 i4
      rw [decide_eq_true hab, decide_eq_true hcd] at a1 a2 a3
      simp only [Bool.and_self, Bool.true_and] at a1 a2 a3
      have r1 := radd_spec G 50 a b c d ha hb hc hd
      have r2 := rsub_spec G 50 a b c d ha hb hc hd
      have r3 := rmul_spec G 40 a b c d ha hb hc hd
      obtain ⟨u1, v1, e1⟩ := spanS_form (numB (a + c) && numB (b + d)) (a + c) (b + d)
      obtain ⟨u2, v2, e2⟩ := spanS_form (numB (a - d) && numB (b - c)) (a - d) (b - c)
      obtain ⟨u3, v3, e3⟩ := spanS_form (numB (a * c) && numB (a * d) && numB (b * c) && numB (b * d)) (min (a * c) (min (a * d) (min (b * c) (b * d)))) (max (a * c) (max (a * d) (max (b * c) (b * d))))
      rw [e1] at a1 r1
      rw [e2] at a2 r2
      rw [e3] at a3 r3
      generalize (numB (a + c) && numB (b + d)) = p1 at *
      generalize (numB (a - d) && numB (b - c)) = p2 at *
      generalize (numB (a * c) && numB (a * d) && numB (b * c) && numB (b * d)) = p3 at *
      have x1 : ∀ H, pureCall (span_Add.f G 60) [Sp a b, Sp c d] H = _ := fun H => pureCall_of (H := H) a1 rfl rfl
      have x2 : ∀ H, pureCall (span_Sub.f G 60) [Sp a b, Sp c d] H = _ := fun H => pureCall_of (H := H) a2 rfl rfl
      have x3 : ∀ H, pureCall (span_Mul.f G 60) [Sp a b, Sp c d] H = _ := fun H => pureCall_of (H := H) a3 rfl rfl
      have y1 : ∀ H, pureCall (alembicref17_Add.f G 60) [Sp a b, Sp c d] H = _ := fun H => pureCall_of (H := H) r1 rfl rfl
      have y2 : ∀ H, pureCall (alembicref17_Sub.f G 60) [Sp a b, Sp c d] H = _ := fun H => pureCall_of (H := H) r2 rfl rfl
      have y3 : ∀ H, pureCall (alembicref17_Mul.f G 60) [Sp a b, Sp c d] H = _ := fun H => pureCall_of (H := H) r3 rfl rfl
      obtain ⟨u6, v6, e6⟩ := randV_form a b c d
      have x6 : ∀ H, pureCall (span_And.f G 60) [Sp a b, Sp c d] H = some (Sp u6 v6, H) := fun H => by
        have := an H (by rw [andV_is hab hcd, e6]; rfl)
        rw [andV_is hab hcd, e6] at this; exact this
      have y6 : ∀ H, pureCall (alembicref17_And.f G 60) [Sp a b, Sp c d] H = some (Sp u6 v6, H) := fun H => by
        have := rand_spec G 30 a b c d
        rw [e6] at this
        exact pureCall_of this rfl rfl
      have ej : joinV a b c d = Sp (min a c) (max b d) := by simp [joinV, hab, hcd]
      obtain ⟨u7, e7⟩ : ∃ z, z = min a c := ⟨_, rfl⟩
      obtain ⟨v7, e7'⟩ : ∃ z, z = max b d := ⟨_, rfl⟩
      have x7 : ∀ H, pureCall (span_Join.f G 60) [Sp a b, Sp c d] H = some (Sp u7 v7, H) := fun H => by
        have := jn H (by rw [ej]; rfl)
        rw [ej, ← e7, ← e7'] at this; exact this
      have y7 : ∀ H, pureCall (alembicref17_Join.f G 60) [Sp a b, Sp c d] H = some (Sp u7 v7, H) := fun H => by
        have := rjoin_spec G 59 a b c d
        rw [← e7, ← e7'] at this
        exact pureCall_of this rfl rfl
      have g1 : bin Try.prog .geq 2 false (I a) (I c) = some (.bool (decide (c ≤ a))) := bin_geq ..
      have g2 : bin Try.prog .leq 2 false (I b) (I d) = some (.bool (decide (b ≤ d))) := bin_leq ..
      have x8 : ∀ H, pureCall (span_Within.f G 60) [Sp a b, Sp c d] H = some (.bool (decide (c ≤ a) && decide (b ≤ d)), H) := fun H => by
        have := within_spec G 40 a b c d
        rw [decide_eq_true hab, decide_eq_true hcd] at this
        exact pureCall_of this rfl rfl
      cases hca : decide (c ≤ a)
      all_goals simp only [hca, Bool.false_and, Bool.true_and] at g1 x8
      all_goals repeat first
        | refine oB (by first | (with_reducible exact rfl) | ((first | (simp only [pu_val, nth_zero, nth_succ, gd_tt, gd_ff, gd_tf, gd_ft, gd_no, pickA_true, pickA_false, un_not, hf, x1, x2, x3, a4, a5, i1, i2, i3, i4, nbb, ebb, r4, r5, y1, y2, y3, x6, y6, x7, y7, x8, g1, g2, s0, Bool.not_true, Bool.not_false]; first | done | (with_reducible exact rfl) | (with_reducible exact ⟨rfl, rfl⟩)) | simp [pu_val, boxRoA, boxA, fieldAddrV, loadV, loadC, storable, AV.cells, extractA, buildRo, buildOwn, fillE, buildSt, fillA, stS, storeV, recell, putC, lenSl, lenStr, idxAddrSl, idxAddrArr, allSome]); first | done | (with_reducible exact rfl) | (with_reducible exact ⟨rfl, rfl⟩))) ?_
        | refine lB (by first | (with_reducible exact rfl) | ((first | (simp only [pu_val, nth_zero, nth_succ, gd_tt, gd_ff, gd_tf, gd_ft, gd_no, pickA_true, pickA_false, un_not, hf, x1, x2, x3, a4, a5, i1, i2, i3, i4, nbb, ebb, r4, r5, y1, y2, y3, x6, y6, x7, y7, x8, g1, g2, s0, Bool.not_true, Bool.not_false]; first | done | (with_reducible exact rfl) | (with_reducible exact ⟨rfl, rfl⟩)) | simp [pu_val, boxRoA, boxA, fieldAddrV, loadV, loadC, storable, AV.cells, extractA, buildRo, buildOwn, fillE, buildSt, fillA, stS, storeV, recell, putC, lenSl, lenStr, idxAddrSl, idxAddrArr, allSome]); first | done | (with_reducible exact rfl) | (with_reducible exact ⟨rfl, rfl⟩))) ?_
        | refine oT ?_
        | refine oN ?_
        | refine oX ?_
        | refine oXn ?_
        | refine oXr ?_
        | exact oF (finV_bool ..)
        | apply oK
        | refine lT ?_
        | refine lN ?_
        | refine lX ?_
        | refine lXn ?_
        | refine lXr ?_
        | apply lK
        | refine oI ?_
        | refine oJ rfl ?_
        | refine lI ?_
        | refine lJ rfl ?_
        | (with_reducible exact rfl)
    · simp only [decide_eq_false hcd] at i2 i4
      rw [decide_eq_true hab, decide_eq_false hcd] at a1 a2 a3
      simp only [Bool.and_false, Bool.false_and, spanS_false] at a1 a2 a3
      have x1 : ∀ H, pureCall (span_Add.f G 60) [Sp a b, Sp c d] H = _ := fun H => pureCall_of (H := H) a1 rfl rfl
      have x2 : ∀ H, pureCall (span_Sub.f G 60) [Sp a b, Sp c d] H = _ := fun H => pureCall_of (H := H) a2 rfl rfl
      have x3 : ∀ H, pureCall (span_Mul.f G 60) [Sp a b, Sp c d] H = _ := fun H => pureCall_of (H := H) a3 rfl rfl
      have hn : ¬ (a ≤ b ∧ c ≤ d) := fun h => hcd h.2
      have x6 : ∀ H, pureCall (span_And.f G 60) [Sp a b, Sp c d] H = some (Sp 0 0, H) := fun H => by
        have := an H (by rw [andV_not hn]; rfl)
        rw [andV_not hn] at this; exact this
      have x7 : ∀ H, pureCall (span_Join.f G 60) [Sp a b, Sp c d] H = some (Sp 0 0, H) := fun H => by
        have := jn H (by rw [joinV_not hn]; rfl)
        rw [joinV_not hn] at this; exact this
      have x8 := wn hn
      repeat first
        | refine oB (by first | (with_reducible exact rfl) | ((first | (simp only [pu_val, nth_zero, nth_succ, gd_tt, gd_ff, gd_tf, gd_ft, gd_no, pickA_true, pickA_false, un_not, hf, x1, x2, x3, a4, a5, i1, i2, i3, i4, nbb, ebb, r4, r5, x6, x7, x8, s0, Bool.not_true, Bool.not_false]; first | done | (with_reducible exact rfl) | (with_reducible exact ⟨rfl, rfl⟩)) | simp [pu_val, boxRoA, boxA, fieldAddrV, loadV, loadC, storable, AV.cells, extractA, buildRo, buildOwn, fillE, buildSt, fillA, stS, storeV, recell, putC, lenSl, lenStr, idxAddrSl, idxAddrArr, allSome]); first | done | (with_reducible exact rfl) | (with_reducible exact ⟨rfl, rfl⟩))) ?_
        | refine lB (by first | (with_reducible exact rfl) | ((first | (simp only [pu_val, nth_zero, nth_succ, gd_tt, gd_ff, gd_tf, gd_ft, gd_no, pickA_true, pickA_false, un_not, hf, x1, x2, x3, a4, a5, i1, i2, i3, i4, nbb, ebb, r4, r5, x6, x7, x8, s0, Bool.not_true, Bool.not_false]; first | done | (with_reducible exact rfl) | (with_reducible exact ⟨rfl, rfl⟩)) | simp [pu_val, boxRoA, boxA, fieldAddrV, loadV, loadC, storable, AV.cells, extractA, buildRo, buildOwn, fillE, buildSt, fillA, stS, storeV, recell, putC, lenSl, lenStr, idxAddrSl, idxAddrArr, allSome]); first | done | (with_reducible exact rfl) | (with_reducible exact ⟨rfl, rfl⟩))) ?_
        | refine oT ?_
        | refine oN ?_
        | refine oX ?_
        | refine oXn ?_
        | refine oXr ?_
        | exact oF (finV_bool ..)
        | apply oK
        | refine lT ?_
        | refine lN ?_
        | refine lX ?_
        | refine lXn ?_
        | refine lXr ?_
        | apply lK
        | refine oI ?_
        | refine oJ rfl ?_
        | refine lI ?_
        | refine lJ rfl ?_
        | (with_reducible exact rfl)
  · simp only [decide_eq_false hab] at i1 i3
    rw [decide_eq_false hab] at a1 a2 a3
    simp only [Bool.false_and, spanS_false] at a1 a2 a3
    rw [shlV_not k hab] at a4
    rw [sarV_not k hab] at a5
    have x1 : ∀ H, pureCall (span_Add.f G 60) [Sp a b, Sp c d] H = _ := fun H => pureCall_of (H := H) a1 rfl rfl
    have x2 : ∀ H, pureCall (span_Sub.f G 60) [Sp a b, Sp c d] H = _ := fun H => pureCall_of (H := H) a2 rfl rfl
    have x3 : ∀ H, pureCall (span_Mul.f G 60) [Sp a b, Sp c d] H = _ := fun H => pureCall_of (H := H) a3 rfl rfl
    have hn : ¬ (a ≤ b ∧ c ≤ d) := fun h => hab h.1
    have x6 : ∀ H, pureCall (span_And.f G 60) [Sp a b, Sp c d] H = some (Sp 0 0, H) := fun H => by
      have := an H (by rw [andV_not hn]; rfl)
      rw [andV_not hn] at this; exact this
    have x7 : ∀ H, pureCall (span_Join.f G 60) [Sp a b, Sp c d] H = some (Sp 0 0, H) := fun H => by
      have := jn H (by rw [joinV_not hn]; rfl)
      rw [joinV_not hn] at this; exact this
    have x8 := wn hn
    repeat first
      | refine oB (by first | (with_reducible exact rfl) | ((first | (simp only [pu_val, nth_zero, nth_succ, gd_tt, gd_ff, gd_tf, gd_ft, gd_no, pickA_true, pickA_false, un_not, hf, x1, x2, x3, a4, a5, i1, i2, i3, i4, nbb, ebb, x6, x7, x8, s0, Bool.not_true, Bool.not_false]; first | done | (with_reducible exact rfl) | (with_reducible exact ⟨rfl, rfl⟩)) | simp [pu_val, boxRoA, boxA, fieldAddrV, loadV, loadC, storable, AV.cells, extractA, buildRo, buildOwn, fillE, buildSt, fillA, stS, storeV, recell, putC, lenSl, lenStr, idxAddrSl, idxAddrArr, allSome]); first | done | (with_reducible exact rfl) | (with_reducible exact ⟨rfl, rfl⟩))) ?_
      | refine lB (by first | (with_reducible exact rfl) | ((first | (simp only [pu_val, nth_zero, nth_succ, gd_tt, gd_ff, gd_tf, gd_ft, gd_no, pickA_true, pickA_false, un_not, hf, x1, x2, x3, a4, a5, i1, i2, i3, i4, nbb, ebb, x6, x7, x8, s0, Bool.not_true, Bool.not_false]; first | done | (with_reducible exact rfl) | (with_reducible exact ⟨rfl, rfl⟩)) | simp [pu_val, boxRoA, boxA, fieldAddrV, loadV, loadC, storable, AV.cells, extractA, buildRo, buildOwn, fillE, buildSt, fillA, stS, storeV, recell, putC, lenSl, lenStr, idxAddrSl, idxAddrArr, allSome]); first | done | (with_reducible exact rfl) | (with_reducible exact ⟨rfl, rfl⟩))) ?_
      | refine oT ?_
      | refine oN ?_
      | refine oX ?_
      | refine oXn ?_
      | refine oXr ?_
      | exact oF (finV_bool ..)
      | apply oK
      | refine lT ?_
      | refine lN ?_
      | refine lX ?_
      | refine lXn ?_
      | refine lXr ?_
      | apply lK
      | refine oI ?_
      | refine oJ rfl ?_
      | refine lI ?_
      | refine lJ rfl ?_
      | (with_reducible exact rfl)
end Go.Proofs.Ytemkaggjbhpbbaa
