/- What the document's exact numbers are. -/
import Derived.Test.YtcmblhedhgiofaaDoorWb
import Derived.Test.YtcmblhedhgiofaaDoorMirZB
namespace Go.Proofs.YtcmblhedhgiofaaDoor.Mir
open Go
set_option linter.unusedVariables false
set_option linter.unusedSimpArgs false
set_option maxHeartbeats 4000000
set_option maxRecDepth 4000

/-- Is a number an int64? -/
def numB (n : Int) : Bool := decide (-9223372036854775808 ≤ n ∧ n < 9223372036854775808)

theorem eb (x y : Bool) : bin Tryd.prog .eql 4 false (.bool x) (.bool y) = some (.bool (x == y)) := bin_eql_bool Tryd.underlying4 false x y
theorem nb (x y : Bool) : bin Tryd.prog .neq 4 false (.bool x) (.bool y) = some (.bool (x != y)) := bin_neq_bool Tryd.underlying4 false x y

theorem rsum_spec (G : Globs) (k : Nat) (a b : Int) (ha : Rg a) (hb : Rg b) : alembicref17_Sum.f G (k + 1) [I a, I b] [] = some (.tup [I (IntKind.i64.wrap (a + b)), .bool (numB (a + b))], []) := by
  have hw : IntKind.i64.wrap (a + b) = (if (a + b) % 18446744073709551616 ≥ 9223372036854775808 then (a + b) % 18446744073709551616 - 18446744073709551616 else (a + b) % 18446744073709551616) := wrap_i64_eq _
  have c1 : bin Tryd.prog .add 2 false (I a) (I b) = some (I (IntKind.i64.wrap (a + b))) := bin_add ..
  generalize hW : IntKind.i64.wrap (a + b) = W at hw c1
  have c2 : bin Tryd.prog .gtr 2 false (I W) (I a) = some (.bool (decide (a < W))) := bin_gtr ..
  have c3 : bin Tryd.prog .gtr 2 true (I b) (.int .i64 0) = some (.bool (decide (0 < b))) := bin_gtr ..
  have c4 : bin Tryd.prog .eql 2 true (I b) (.int .i64 0) = some (.bool (decide (b = 0))) := bin_eql ..
  have key : (decide (a < W) == decide (0 < b)) = true ∨ ((decide (a < W) == decide (0 < b)) = false ∧ b ≠ 0 ∧ ¬ Rg (a + b)) := by
    by_cases h1 : a < W <;> by_cases h2 : 0 < b <;> simp [h1, h2] <;> split at hw <;> omega
  have key2 : (decide (a < W) == decide (0 < b)) = true → b ≠ 0 → Rg (a + b) := by
    intro h hb0
    by_cases h1 : a < W <;> by_cases h2 : 0 < b <;> simp [h1, h2] at h <;> split at hw <;> constructor <;> omega
  rw [alembicref17_Sum.step]
  unfold alembicref17_Sum.c
  rcases key with h | ⟨h, h1, h2⟩
  · have e : numB (a + b) = true := by
      by_cases hb0 : b = 0
      · subst hb0; exact decide_eq_true ⟨by omega, by omega⟩
      · exact decide_eq_true (key2 h hb0)
    rw [e]
    repeat first
      | refine oB (by first | (simp only [pu_val, nth_zero, nth_succ, gd_tt, gd_ff, gd_tf, gd_ft, gd_no, pickA_true, pickA_false, un_not, c1, c2, c3, eb, h]; first | done | (with_reducible exact rfl) | (with_reducible exact ⟨rfl, rfl⟩)) | (with_reducible exact rfl)) ?_
      | refine lB (by first | (simp only [pu_val, nth_zero, nth_succ, gd_tt, gd_ff, gd_tf, gd_ft, gd_no, pickA_true, pickA_false, un_not, c1, c2, c3, eb, h]; first | done | (with_reducible exact rfl) | (with_reducible exact ⟨rfl, rfl⟩)) | (with_reducible exact rfl)) ?_
      | refine oT ?_
      | refine oN ?_
      | refine oX ?_
      | refine oXn ?_
      | refine oXr ?_
      | exact oF (finV_bool ..)
      | apply oK
      | refine lT ?_
      | refine lN ?_
      | refine lX ?_
      | refine lXn ?_
      | refine lXr ?_
      | apply lK
      | refine oI ?_
      | refine oJ rfl ?_
      | refine lI ?_
      | refine lJ rfl ?_
      | (with_reducible exact rfl)
    exact oF (finV_pair ..)
  · have e : numB (a + b) = false := decide_eq_false h2
    rw [e]
    simp only [decide_eq_false h1] at c4
    repeat first
      | refine oB (by first | (simp only [pu_val, nth_zero, nth_succ, gd_tt, gd_ff, gd_tf, gd_ft, gd_no, pickA_true, pickA_false, un_not, c1, c2, c3, c4, eb, h]; first | done | (with_reducible exact rfl) | (with_reducible exact ⟨rfl, rfl⟩)) | (with_reducible exact rfl)) ?_
      | refine lB (by first | (simp only [pu_val, nth_zero, nth_succ, gd_tt, gd_ff, gd_tf, gd_ft, gd_no, pickA_true, pickA_false, un_not, c1, c2, c3, c4, eb, h]; first | done | (with_reducible exact rfl) | (with_reducible exact ⟨rfl, rfl⟩)) | (with_reducible exact rfl)) ?_
      | refine oT ?_
      | refine oN ?_
      | refine oX ?_
      | refine oXn ?_
      | refine oXr ?_
      | exact oF (finV_bool ..)
      | apply oK
      | refine lT ?_
      | refine lN ?_
      | refine lX ?_
      | refine lXn ?_
      | refine lXr ?_
      | apply lK
      | refine oI ?_
      | refine oJ rfl ?_
      | refine lI ?_
      | refine lJ rfl ?_
      | (with_reducible exact rfl)
    exact oF (finV_pair ..)

theorem rless_spec (G : Globs) (k : Nat) (a b : Int) (ha : Rg a) (hb : Rg b) : alembicref17_Less.f G (k + 1) [I a, I b] [] = some (.tup [I (IntKind.i64.wrap (a - b)), .bool (numB (a - b))], []) := by
  have hw : IntKind.i64.wrap (a - b) = (if (a - b) % 18446744073709551616 ≥ 9223372036854775808 then (a - b) % 18446744073709551616 - 18446744073709551616 else (a - b) % 18446744073709551616) := wrap_i64_eq _
  have c1 : bin Tryd.prog .sub 2 false (I a) (I b) = some (I (IntKind.i64.wrap (a - b))) := bin_sub ..
  generalize hW : IntKind.i64.wrap (a - b) = W at hw c1
  have c2 : bin Tryd.prog .lss 2 false (I W) (I a) = some (.bool (decide (W < a))) := bin_lss ..
  have c3 : bin Tryd.prog .gtr 2 true (I b) (.int .i64 0) = some (.bool (decide (0 < b))) := bin_gtr ..
  have c4 : bin Tryd.prog .eql 2 true (I b) (.int .i64 0) = some (.bool (decide (b = 0))) := bin_eql ..
  have key : (decide (W < a) == decide (0 < b)) = true ∨ ((decide (W < a) == decide (0 < b)) = false ∧ b ≠ 0 ∧ ¬ Rg (a - b)) := by
    by_cases h1 : W < a <;> by_cases h2 : 0 < b <;> simp [h1, h2] <;> split at hw <;> omega
  have key2 : (decide (W < a) == decide (0 < b)) = true → b ≠ 0 → Rg (a - b) := by
    intro h hb0
    by_cases h1 : W < a <;> by_cases h2 : 0 < b <;> simp [h1, h2] at h <;> split at hw <;> constructor <;> omega
  rw [alembicref17_Less.step]
  unfold alembicref17_Less.c
  rcases key with h | ⟨h, h1, h2⟩
  · have e : numB (a - b) = true := by
      by_cases hb0 : b = 0
      · subst hb0; exact decide_eq_true ⟨by omega, by omega⟩
      · exact decide_eq_true (key2 h hb0)
    rw [e]
    repeat first
      | refine oB (by first | (simp only [pu_val, nth_zero, nth_succ, gd_tt, gd_ff, gd_tf, gd_ft, gd_no, pickA_true, pickA_false, un_not, c1, c2, c3, eb, h]; first | done | (with_reducible exact rfl) | (with_reducible exact ⟨rfl, rfl⟩)) | (with_reducible exact rfl)) ?_
      | refine lB (by first | (simp only [pu_val, nth_zero, nth_succ, gd_tt, gd_ff, gd_tf, gd_ft, gd_no, pickA_true, pickA_false, un_not, c1, c2, c3, eb, h]; first | done | (with_reducible exact rfl) | (with_reducible exact ⟨rfl, rfl⟩)) | (with_reducible exact rfl)) ?_
      | refine oT ?_
      | refine oN ?_
      | refine oX ?_
      | refine oXn ?_
      | refine oXr ?_
      | exact oF (finV_bool ..)
      | apply oK
      | refine lT ?_
      | refine lN ?_
      | refine lX ?_
      | refine lXn ?_
      | refine lXr ?_
      | apply lK
      | refine oI ?_
      | refine oJ rfl ?_
      | refine lI ?_
      | refine lJ rfl ?_
      | (with_reducible exact rfl)
    exact oF (finV_pair ..)
  · have e : numB (a - b) = false := decide_eq_false h2
    rw [e]
    simp only [decide_eq_false h1] at c4
    repeat first
      | refine oB (by first | (simp only [pu_val, nth_zero, nth_succ, gd_tt, gd_ff, gd_tf, gd_ft, gd_no, pickA_true, pickA_false, un_not, c1, c2, c3, c4, eb, h]; first | done | (with_reducible exact rfl) | (with_reducible exact ⟨rfl, rfl⟩)) | (with_reducible exact rfl)) ?_
      | refine lB (by first | (simp only [pu_val, nth_zero, nth_succ, gd_tt, gd_ff, gd_tf, gd_ft, gd_no, pickA_true, pickA_false, un_not, c1, c2, c3, c4, eb, h]; first | done | (with_reducible exact rfl) | (with_reducible exact ⟨rfl, rfl⟩)) | (with_reducible exact rfl)) ?_
      | refine oT ?_
      | refine oN ?_
      | refine oX ?_
      | refine oXn ?_
      | refine oXr ?_
      | exact oF (finV_bool ..)
      | apply oK
      | refine lT ?_
      | refine lN ?_
      | refine lX ?_
      | refine lXn ?_
      | refine lXr ?_
      | apply lK
      | refine oI ?_
      | refine oJ rfl ?_
      | refine lI ?_
      | refine lJ rfl ?_
      | (with_reducible exact rfl)
    exact oF (finV_pair ..)

theorem numB_wrap {n : Int} (h : numB n = true) : IntKind.i64.wrap n = n := by
  simp only [numB, decide_eq_true_eq] at h; exact wrap_of_i64 h.1 h.2

theorem rcut_spec (G : Globs) (k : Nat) (n : Int) (p : Bool) : alembicref17_cut.f G (k + 1) [I n, .bool p] [] = some (.tup [I (if p then n else 0), .bool p], []) := by cases p <;> kernel_rfl

theorem abs_nat (a : Int) (ha : Rg a) : ∃ X : Nat, X ≤ 9223372036854775808 ∧ ((a < 0 ∧ a = -(X : Int) ∧ convInt .u64 (I a) = some (.int .u64 (a + 18446744073709551616)) ∧ un .neg (.int .u64 (a + 18446744073709551616)) = some (Un X)) ∨
    (0 ≤ a ∧ a = (X : Int) ∧ convInt .u64 (I a) = some (Un X))) := by
  refine ⟨a.natAbs, by omega, ?_⟩
  by_cases h : a < 0
  · left
    refine ⟨h, by omega, ?_, ?_⟩
    · rw [convInt_int, wrap_u64_eq]; congr 2; omega
    · have e : (a.natAbs : Int) = IntKind.u64.wrap (0 - (a + 18446744073709551616)) := by rw [wrap_u64_eq]; omega
      simp only [un, Un]; rw [e]
  · right
    refine ⟨by omega, by omega, ?_⟩
    rw [convInt_int, wrap_of_u64 (by omega) (by omega)]; congr 2; omega

set_option maxRecDepth 4000 in
theorem rprod_spec (G : Globs) (k : Nat) (a b : Int) (ha : Rg a) (hb : Rg b) : ∃ z : Int, alembicref17_Product.f G (k + 10) [I a, I b] [] = some (.tup [I z, .bool (numB (a * b))], []) ∧ (numB (a * b) = true → z = a * b) := by
  obtain ⟨X, hX, hXa⟩ := abs_nat a ha
  obtain ⟨Y, hY, hYb⟩ := abs_nat b hb
  obtain ⟨P, hP⟩ : ∃ P, P = X * Y := ⟨_, rfl⟩
  have m : ∀ H, pureCall (math_bits_Mul64.f G (k + 9)) [Un X, Un Y] H = _ := fun H => pureCall_of (H := H) (mul64_spec G (k + 8) X Y (by omega) (by omega)) rfl rfl
  rw [← hP] at m
  have hP62 : P ≤ 9223372036854775808 * 9223372036854775808 := by rw [hP]; exact Nat.mul_le_mul hX hY
  have c1 : bin Tryd.prog .neq 48 true (Un (P / 18446744073709551616)) (.int .u64 0) = some (.bool (decide (P / 18446744073709551616 ≠ 0))) := by
    rw [bin_neq]; congr 2; exact decide_eq_decide.2 (by omega)
  have hab : ∃ s : Bool, (s = true → a * b = -(P : Int)) ∧ (s = false → a * b = (P : Int)) ∧ (decide (a < 0) != decide (b < 0)) = s := by
    rcases hXa with ⟨h1, h2, _⟩ | ⟨h1, h2, _⟩ <;> rcases hYb with ⟨h3, h4, _⟩ | ⟨h3, h4, _⟩
    · refine ⟨false, by simp, fun _ => ?_, by rw [decide_eq_true h1, decide_eq_true h3]; rfl⟩
      rw [hP, h2, h4, Int.neg_mul_neg]; simp
    · refine ⟨true, fun _ => ?_, by simp, by rw [decide_eq_true h1, decide_eq_false (by omega)]; rfl⟩
      rw [hP, h2, h4, Int.neg_mul]; simp
    · refine ⟨true, fun _ => ?_, by simp, by rw [decide_eq_false (by omega), decide_eq_true h3]; rfl⟩
      rw [hP, h2, h4, Int.mul_neg]; simp
    · refine ⟨false, by simp, fun _ => ?_, by rw [decide_eq_false (by omega), decide_eq_false (by omega)]; rfl⟩
      rw [hP, h2, h4]; simp
  obtain ⟨s, hs1, hs2, hs3⟩ := hab
  have l1 : bin Tryd.prog .lss 2 true (I a) (.int .i64 0) = some (.bool (decide (a < 0))) := bin_lss ..
  have l2 : bin Tryd.prog .lss 2 true (I b) (.int .i64 0) = some (.bool (decide (b < 0))) := bin_lss ..
  -- the first part: the two numbers without their signs
  have go : ∀ r, outV (
      (bnd (pureCall (math_bits_Mul64.f G (k + 9)) [Un X, Un Y] []) fun v8 h8 =>
  bnd (pu h8 (extractA v8 0)) fun v9 h9 =>
  bnd (pu h9 (extractA v8 1)) fun v10 h10 =>
  bnd (pu h10 (bin Tryd.prog .neq 48 true v9 (.int .u64 0))) fun v11 h11 =>
  condA v11
  (finV [(.int .i64 0), (.bool false)] 0 h11)
  (bnd (pu h11 (bin Tryd.prog .lss 2 true (I a) (.int .i64 0))) fun v12 h12 =>
  bnd (pu h12 (bin Tryd.prog .lss 2 true (I b) (.int .i64 0))) fun v13 h13 =>
  bnd (pu h13 (bin Tryd.prog .neq 4 false v12 v13)) fun v14 h14 =>
  condA v14
  (bnd (pu h14 (bin Tryd.prog .eql 48 true v10 (.int .u64 9223372036854775808))) fun v15 h15 =>
  condA v15
  (finV [(.int .i64 (-9223372036854775808)), (.bool true)] 0 h15)
  (bnd (pu h15 (bin Tryd.prog .and 48 true v10 (.int .u64 9223372036854775807))) fun v16 h16 =>
  bnd (pu h16 (convInt .i64 v16)) fun v17 h17 =>
  bnd (pu h17 (un .neg v17)) fun v18 h18 =>
  bnd (pu h18 (bin Tryd.prog .lss 48 true v10 (.int .u64 9223372036854775808))) fun v19 h19 =>
  bnd (pureCall (alembicref17_cut.f G (k + 9)) [v18, v19] h19) fun v20 h20 =>
  bnd (pu h20 (extractA v20 0)) fun v21 h21 =>
  bnd (pu h21 (extractA v20 1)) fun v22 h22 =>
  finV [v21, v22] 0 h22))
  (bnd (pu h14 (convInt .i64 v10)) fun v23 h23 =>
  bnd (pu h23 (bin Tryd.prog .lss 48 true v10 (.int .u64 9223372036854775808))) fun v24 h24 =>
  finV [v23, v24] 0 h24)))) = r → alembicref17_Product.f G (k + 10) [I a, I b] [] = r := by
    intro r h
    rw [alembicref17_Product.step]
    unfold alembicref17_Product.c
    rcases hXa with ⟨h1, h2, h3, h4⟩ | ⟨h1, h2, h3⟩ <;> rcases hYb with ⟨g1, g2, g3, g4⟩ | ⟨g1, g2, g3⟩
    · simp only [decide_eq_true h1] at l1
      simp only [decide_eq_true g1] at l2
      repeat first
        | refine oB (by first | (simp only [pu_val, nth_zero, nth_succ, gd_tt, gd_ff, gd_tf, gd_ft, gd_no, pickA_true, pickA_false, un_not, l1, l2, h3, h4, g3, g4]; first | done | (with_reducible exact rfl) | (with_reducible exact ⟨rfl, rfl⟩)) | (with_reducible exact rfl)) ?_
        | refine lB (by first | (simp only [pu_val, nth_zero, nth_succ, gd_tt, gd_ff, gd_tf, gd_ft, gd_no, pickA_true, pickA_false, un_not, l1, l2, h3, h4, g3, g4]; first | done | (with_reducible exact rfl) | (with_reducible exact ⟨rfl, rfl⟩)) | (with_reducible exact rfl)) ?_
        | refine oT ?_
        | refine oN ?_
        | refine oX ?_
        | refine oXn ?_
        | refine oXr ?_
        | exact oF (finV_bool ..)
        | apply oK
        | refine lT ?_
        | refine lN ?_
        | refine lX ?_
        | refine lXn ?_
        | refine lXr ?_
        | apply lK
        | refine oI ?_
        | refine oJ rfl ?_
        | refine lI ?_
        | refine lJ rfl ?_
        | (with_reducible exact rfl)
      exact h
    · simp only [decide_eq_true h1] at l1
      simp only [decide_eq_false (Int.not_lt.2 g1)] at l2
      repeat first
        | refine oB (by first | (simp only [pu_val, nth_zero, nth_succ, gd_tt, gd_ff, gd_tf, gd_ft, gd_no, pickA_true, pickA_false, un_not, l1, l2, h3, h4, g3]; first | done | (with_reducible exact rfl) | (with_reducible exact ⟨rfl, rfl⟩)) | (with_reducible exact rfl)) ?_
        | refine lB (by first | (simp only [pu_val, nth_zero, nth_succ, gd_tt, gd_ff, gd_tf, gd_ft, gd_no, pickA_true, pickA_false, un_not, l1, l2, h3, h4, g3]; first | done | (with_reducible exact rfl) | (with_reducible exact ⟨rfl, rfl⟩)) | (with_reducible exact rfl)) ?_
        | refine oT ?_
        | refine oN ?_
        | refine oX ?_
        | refine oXn ?_
        | refine oXr ?_
        | exact oF (finV_bool ..)
        | apply oK
        | refine lT ?_
        | refine lN ?_
        | refine lX ?_
        | refine lXn ?_
        | refine lXr ?_
        | apply lK
        | refine oI ?_
        | refine oJ rfl ?_
        | refine lI ?_
        | refine lJ rfl ?_
        | (with_reducible exact rfl)
      exact h
    · simp only [decide_eq_false (Int.not_lt.2 h1)] at l1
      simp only [decide_eq_true g1] at l2
      repeat first
        | refine oB (by first | (simp only [pu_val, nth_zero, nth_succ, gd_tt, gd_ff, gd_tf, gd_ft, gd_no, pickA_true, pickA_false, un_not, l1, l2, h3, g3, g4]; first | done | (with_reducible exact rfl) | (with_reducible exact ⟨rfl, rfl⟩)) | (with_reducible exact rfl)) ?_
        | refine lB (by first | (simp only [pu_val, nth_zero, nth_succ, gd_tt, gd_ff, gd_tf, gd_ft, gd_no, pickA_true, pickA_false, un_not, l1, l2, h3, g3, g4]; first | done | (with_reducible exact rfl) | (with_reducible exact ⟨rfl, rfl⟩)) | (with_reducible exact rfl)) ?_
        | refine oT ?_
        | refine oN ?_
        | refine oX ?_
        | refine oXn ?_
        | refine oXr ?_
        | exact oF (finV_bool ..)
        | apply oK
        | refine lT ?_
        | refine lN ?_
        | refine lX ?_
        | refine lXn ?_
        | refine lXr ?_
        | apply lK
        | refine oI ?_
        | refine oJ rfl ?_
        | refine lI ?_
        | refine lJ rfl ?_
        | (with_reducible exact rfl)
      exact h
    · simp only [decide_eq_false (Int.not_lt.2 h1)] at l1
      simp only [decide_eq_false (Int.not_lt.2 g1)] at l2
      repeat first
        | refine oB (by first | (simp only [pu_val, nth_zero, nth_succ, gd_tt, gd_ff, gd_tf, gd_ft, gd_no, pickA_true, pickA_false, un_not, l1, l2, h3, g3]; first | done | (with_reducible exact rfl) | (with_reducible exact ⟨rfl, rfl⟩)) | (with_reducible exact rfl)) ?_
        | refine lB (by first | (simp only [pu_val, nth_zero, nth_succ, gd_tt, gd_ff, gd_tf, gd_ft, gd_no, pickA_true, pickA_false, un_not, l1, l2, h3, g3]; first | done | (with_reducible exact rfl) | (with_reducible exact ⟨rfl, rfl⟩)) | (with_reducible exact rfl)) ?_
        | refine oT ?_
        | refine oN ?_
        | refine oX ?_
        | refine oXn ?_
        | refine oXr ?_
        | exact oF (finV_bool ..)
        | apply oK
        | refine lT ?_
        | refine lN ?_
        | refine lX ?_
        | refine lXn ?_
        | refine lXr ?_
        | apply lK
        | refine oI ?_
        | refine oJ rfl ?_
        | refine lI ?_
        | refine lJ rfl ?_
        | (with_reducible exact rfl)
      exact h
  have ex0 : ∀ x y : AV, extractA (.tup [x, y]) 0 = some x := fun _ _ => rfl
  have ex1 : ∀ x y : AV, extractA (.tup [x, y]) 1 = some y := fun _ _ => rfl
  by_cases hhi : P / 18446744073709551616 ≠ 0
  · simp only [decide_eq_true hhi] at c1
    have e : numB (a * b) = false := by
      refine decide_eq_false ?_
      cases s
      · rw [hs2 rfl]; omega
      · rw [hs1 rfl]; omega
    rw [e]
    refine ⟨0, go _ ?_, by simp⟩
    repeat first
      | refine oB (by first | (simp only [pu_val, nth_zero, nth_succ, gd_tt, gd_ff, gd_tf, gd_ft, gd_no, pickA_true, pickA_false, un_not, m, ex0, ex1, c1]; first | done | (with_reducible exact rfl) | (with_reducible exact ⟨rfl, rfl⟩)) | (with_reducible exact rfl)) ?_
      | refine lB (by first | (simp only [pu_val, nth_zero, nth_succ, gd_tt, gd_ff, gd_tf, gd_ft, gd_no, pickA_true, pickA_false, un_not, m, ex0, ex1, c1]; first | done | (with_reducible exact rfl) | (with_reducible exact ⟨rfl, rfl⟩)) | (with_reducible exact rfl)) ?_
      | refine oT ?_
      | refine oN ?_
      | refine oX ?_
      | refine oXn ?_
      | refine oXr ?_
      | exact oF (finV_bool ..)
      | apply oK
      | refine lT ?_
      | refine lN ?_
      | refine lX ?_
      | refine lXn ?_
      | refine lXr ?_
      | apply lK
      | refine oI ?_
      | refine oJ rfl ?_
      | refine lI ?_
      | refine lJ rfl ?_
      | (with_reducible exact rfl)
    exact oF (finV_pair ..)
  · simp only [decide_eq_false hhi] at c1
    have hlo : P % 18446744073709551616 = P := Nat.mod_eq_of_lt (by omega)
    rw [hlo] at m
    have c3 := nb (decide (a < 0)) (decide (b < 0))
    rw [hs3] at c3
    have c5 : bin Tryd.prog .lss 48 true (Un P) (.int .u64 9223372036854775808) = some (.bool (decide (P < 9223372036854775808))) := by
      have hiff : ((P : Int) < 9223372036854775808) ↔ (P < 9223372036854775808) := by omega
      rw [bin_lss, decide_eq_decide.2 hiff]
    cases s
    · have e : numB (a * b) = decide (P < 9223372036854775808) := by
        rw [hs2 rfl]; exact decide_eq_decide.2 (by omega)
      rw [e]
      have c6 : convInt .i64 (Un P) = some (I (IntKind.i64.wrap (P : Int))) := convInt_int ..
      refine ⟨IntKind.i64.wrap (P : Int), go _ ?_, fun h => ?_⟩
      · repeat first
          | refine oB (by first | (simp only [pu_val, nth_zero, nth_succ, gd_tt, gd_ff, gd_tf, gd_ft, gd_no, pickA_true, pickA_false, un_not, m, ex0, ex1, c1, l1, l2, c3, c5, c6]; first | done | (with_reducible exact rfl) | (with_reducible exact ⟨rfl, rfl⟩)) | (with_reducible exact rfl)) ?_
          | refine lB (by first | (simp only [pu_val, nth_zero, nth_succ, gd_tt, gd_ff, gd_tf, gd_ft, gd_no, pickA_true, pickA_false, un_not, m, ex0, ex1, c1, l1, l2, c3, c5, c6]; first | done | (with_reducible exact rfl) | (with_reducible exact ⟨rfl, rfl⟩)) | (with_reducible exact rfl)) ?_
          | refine oT ?_
          | refine oN ?_
          | refine oX ?_
          | refine oXn ?_
          | refine oXr ?_
          | exact oF (finV_bool ..)
          | apply oK
          | refine lT ?_
          | refine lN ?_
          | refine lX ?_
          | refine lXn ?_
          | refine lXr ?_
          | apply lK
          | refine oI ?_
          | refine oJ rfl ?_
          | refine lI ?_
          | refine lJ rfl ?_
          | (with_reducible exact rfl)
        exact oF (finV_pair ..)
      · have := of_decide_eq_true h
        rw [hs2 rfl]; exact wrap_of_i64 (by omega) (by omega)
    · by_cases hmin : P = 9223372036854775808
      · have e : numB (a * b) = true := by rw [hs1 rfl, hmin]; rfl
        rw [e]
        have c7 : bin Tryd.prog .eql 48 true (Un P) (.int .u64 9223372036854775808) = some (.bool true) := by
          rw [bin_eql, hmin]; rfl
        refine ⟨-9223372036854775808, go _ ?_, fun _ => by rw [hs1 rfl, hmin]; rfl⟩
        repeat first
          | refine oB (by first | (simp only [pu_val, nth_zero, nth_succ, gd_tt, gd_ff, gd_tf, gd_ft, gd_no, pickA_true, pickA_false, un_not, m, ex0, ex1, c1, l1, l2, c3, c7]; first | done | (with_reducible exact rfl) | (with_reducible exact ⟨rfl, rfl⟩)) | (with_reducible exact rfl)) ?_
          | refine lB (by first | (simp only [pu_val, nth_zero, nth_succ, gd_tt, gd_ff, gd_tf, gd_ft, gd_no, pickA_true, pickA_false, un_not, m, ex0, ex1, c1, l1, l2, c3, c7]; first | done | (with_reducible exact rfl) | (with_reducible exact ⟨rfl, rfl⟩)) | (with_reducible exact rfl)) ?_
          | refine oT ?_
          | refine oN ?_
          | refine oX ?_
          | refine oXn ?_
          | refine oXr ?_
          | exact oF (finV_bool ..)
          | apply oK
          | refine lT ?_
          | refine lN ?_
          | refine lX ?_
          | refine lXn ?_
          | refine lXr ?_
          | apply lK
          | refine oI ?_
          | refine oJ rfl ?_
          | refine lI ?_
          | refine lJ rfl ?_
          | (with_reducible exact rfl)
        exact oF (finV_pair ..)
      · have e : numB (a * b) = decide (P < 9223372036854775808) := by
          rw [hs1 rfl]; exact decide_eq_decide.2 (by omega)
        rw [e]
        have c7 : bin Tryd.prog .eql 48 true (Un P) (.int .u64 9223372036854775808) = some (.bool false) := by
          rw [bin_eql, decide_eq_false (by omega)]
        have c8 : bin Tryd.prog .and 48 true (Un P) (.int .u64 9223372036854775807) = some (Un (P % 9223372036854775808)) := by
          have := u64_and P 9223372036854775807 (by omega) (by decide)
          rw [bin_and]; rw [show ((9223372036854775807 : Nat) : Int) = 9223372036854775807 from rfl] at this
          rw [this]; congr 3; exact Nat.and_two_pow_sub_one_eq_mod P 63
        have hml : P % 9223372036854775808 < 9223372036854775808 := Nat.mod_lt _ (by decide)
        have c9 : convInt .i64 (Un (P % 9223372036854775808)) = some (I ((P % 9223372036854775808 : Nat) : Int)) := by
          rw [convInt_int, wrap_of_i64 (by omega) (by omega)]
        obtain ⟨Z, hZ⟩ : ∃ Z : Int, Z = -((P % 9223372036854775808 : Nat) : Int) := ⟨_, rfl⟩
        have c10 : un .neg (I ((P % 9223372036854775808 : Nat) : Int)) = some (I Z) := by
          simp only [un]; rw [wrap_of_i64 (by omega) (by omega), hZ]; congr 2; omega
        obtain ⟨q, hq⟩ : ∃ q, q = decide (P < 9223372036854775808) := ⟨_, rfl⟩
        have hZ2' := hZ
        have hZ2 : q = true → Z = a * b := fun h => by
          rw [hq] at h
          have h' := of_decide_eq_true h
          rw [hs1 rfl, hZ, Nat.mod_eq_of_lt h']
        rw [← hq] at c5 ⊢
        obtain ⟨R, hR⟩ : ∃ R, R = P % 9223372036854775808 := ⟨_, rfl⟩
        rw [← hR] at c8 c9 c10
        clear hR hq hZ hZ2'
        have c11 : ∀ H, pureCall (alembicref17_cut.f G (k + 9)) [I Z, .bool q] H = _ := fun H => pureCall_of (H := H) (rcut_spec G (k + 8) _ _) rfl rfl
        refine ⟨if q = true then Z else 0, go _ ?_, fun h => by rw [if_pos h]; exact hZ2 h⟩
        refine oB (m _) ?_
        refine oB (by rw [ex0]; exact pu_val ..) ?_
        refine oB (by rw [ex1]; exact pu_val ..) ?_
        refine oB (by rw [c1]; exact pu_val ..) ?_
        refine oN ?_
        refine oB (by rw [l1]; exact pu_val ..) ?_
        refine oB (by rw [l2]; exact pu_val ..) ?_
        refine oB (by rw [c3]; exact pu_val ..) ?_
        refine oT ?_
        refine oB (by rw [c7]; exact pu_val ..) ?_
        refine oN ?_
        refine oB (by rw [c8]; exact pu_val ..) ?_
        refine oB (by rw [c9]; exact pu_val ..) ?_
        refine oB (by rw [c10]; exact pu_val ..) ?_
        refine oB (by rw [c5]; exact pu_val ..) ?_
        refine oB (c11 _) ?_
        refine oB (by rw [ex0]; exact pu_val ..) ?_
        refine oB (by rw [ex1]; exact pu_val ..) ?_
        exact oF (finV_pair ..)

/-- The exact number of an instruction. -/
def exF (op k : Int) (a b : Nat) : Int × Bool :=
  if op = 3 then (if Rg (s64 a + s64 b) then (s64 a + s64 b, true) else (0, false))
  else if op = 4 then (if Rg (s64 a - s64 b) then (s64 a - s64 b, true) else (0, false))
  else if op = 5 then (if Rg (s64 a * s64 b) then (s64 a * s64 b, true) else (0, false))
  else if op = 10 then (if k < 0 ∨ 63 < k then (0, false) else if Rg (s64 a * 2 ^ k.toNat) then (s64 a * 2 ^ k.toNat, true) else (0, false))
  else (0, false)
theorem numS_if (n : Int) : numS n = .tup [I6 (if Rg n then (n, true) else (0, false) : Int × Bool).1, .bool (if Rg n then (n, true) else (0, false) : Int × Bool).2] := by
  unfold numS
  by_cases h : Rg n
  · rw [if_pos h, if_pos ⟨h.1, h.2⟩]
  · rw [if_neg h, if_neg (fun h' => h ⟨h'.1, h'.2⟩)]
abbrev exV (p : Int × Bool) : AV := .tup [I6 p.1, .bool p.2]

theorem exact_gen (G : Globs) (k : Nat) (op d a b c n : Int) (x y : Nat) (hx : x < 18446744073709551616) (hy : y < 18446744073709551616) :
    bound_Exact.f G (k + 2) [instV op d a b c n, Un x, Un y] [] = some (exV (exF op n x y), []) := by
  by_cases ho : op = 3 ∨ op = 4 ∨ op = 5
  · rw [bound_Exact.step]
    unfold bound_Exact.c instV
    have hx' := s64_range x hx
    have hy' := s64_range y hy
    have c1 := conv_i64 x hx
    have c2 := conv_i64 y hy
    have r1 : ∀ H, pureCall (span_Sum.f G (k + 1)) [I6 (s64 x), I6 (s64 y)] H = _ := fun H => pureCall_of (H := H) (sum_spec G k (s64 x) (s64 y) hx' hy') rfl (numS_clean _)
    have r2 : ∀ H, pureCall (span_Less.f G (k + 1)) [I6 (s64 x), I6 (s64 y)] H = _ := fun H => pureCall_of (H := H) (less_spec G k (s64 x) (s64 y) hx' hy') rfl (numS_clean _)
    have r3 : ∀ H, pureCall (span_Product.f G (k + 1)) [I6 (s64 x), I6 (s64 y)] H = _ := fun H => pureCall_of (H := H) (prod_spec G k (s64 x) (s64 y) hx' hy') rfl (numS_clean _)
    simp only [numS_if] at r1 r2 r3
    refine e_in ?_
    rcases ho with rfl | rfl | rfl
    · repeat' first
        | (with_reducible first | refine eT ?_ | refine eN ?_ | refine eS ?_ | refine eXn ?_ | refine eXr ?_ | refine eX ?_ | refine eI ?_ | refine eK ?_ | refine eV0 ?_ | refine eGtt ?_ | refine eGff ?_ | refine eGtf ?_ | refine eGft ?_ | refine eGno ?_)
        | ((with_reducible apply eCn); (simp only [nth_zero, nth_succ]; first | done | (with_reducible exact rfl)))
        | ((with_reducible apply eJ); (rfl))
        | ((with_reducible apply eB); (first | (with_reducible exact rfl) | (simp (disch := omega) only [qf, c1, c2, r1, r2, r3]; first | done | (with_reducible exact rfl) | (with_reducible exact ⟨rfl, rfl⟩)) | (simp (disch := omega) only [qa, putC, AV.cells, storable, buildSt, fillA, buildRo, buildOwn, fillE, Nat.reduceLeDiff, Nat.reduceLT, Nat.reduceAdd, ↓reduceIte, c1, c2, r1, r2, r3]; first | done | (with_reducible exact rfl) | (with_reducible exact ⟨rfl, rfl⟩))))
        | ((with_reducible apply eR); (simp only [nth_zero, nth_succ]; (with_reducible exact rfl)))
        | ((with_reducible first | refine sEql ?_ ?_ | refine sNeq ?_ ?_ | refine sLss ?_ ?_ | refine sLeq ?_ ?_ | refine sGtr ?_ ?_ | refine sGeq ?_ ?_ | refine sNot ?_ ?_ | refine sPick ?_ ?_ | refine sGd ?_ ?_ | refine eBool ?_ ?_) <;> intro hq <;> try subst hq)
      exact w2 rfl rfl rfl
    · repeat' first
        | (with_reducible first | refine eT ?_ | refine eN ?_ | refine eS ?_ | refine eXn ?_ | refine eXr ?_ | refine eX ?_ | refine eI ?_ | refine eK ?_ | refine eV0 ?_ | refine eGtt ?_ | refine eGff ?_ | refine eGtf ?_ | refine eGft ?_ | refine eGno ?_)
        | ((with_reducible apply eCn); (simp only [nth_zero, nth_succ]; first | done | (with_reducible exact rfl)))
        | ((with_reducible apply eJ); (rfl))
        | ((with_reducible apply eB); (first | (with_reducible exact rfl) | (simp (disch := omega) only [qf, c1, c2, r1, r2, r3]; first | done | (with_reducible exact rfl) | (with_reducible exact ⟨rfl, rfl⟩)) | (simp (disch := omega) only [qa, putC, AV.cells, storable, buildSt, fillA, buildRo, buildOwn, fillE, Nat.reduceLeDiff, Nat.reduceLT, Nat.reduceAdd, ↓reduceIte, c1, c2, r1, r2, r3]; first | done | (with_reducible exact rfl) | (with_reducible exact ⟨rfl, rfl⟩))))
        | ((with_reducible apply eR); (simp only [nth_zero, nth_succ]; (with_reducible exact rfl)))
        | ((with_reducible first | refine sEql ?_ ?_ | refine sNeq ?_ ?_ | refine sLss ?_ ?_ | refine sLeq ?_ ?_ | refine sGtr ?_ ?_ | refine sGeq ?_ ?_ | refine sNot ?_ ?_ | refine sPick ?_ ?_ | refine sGd ?_ ?_ | refine eBool ?_ ?_) <;> intro hq <;> try subst hq)
      exact w2 rfl rfl rfl
    · repeat' first
        | (with_reducible first | refine eT ?_ | refine eN ?_ | refine eS ?_ | refine eXn ?_ | refine eXr ?_ | refine eX ?_ | refine eI ?_ | refine eK ?_ | refine eV0 ?_ | refine eGtt ?_ | refine eGff ?_ | refine eGtf ?_ | refine eGft ?_ | refine eGno ?_)
        | ((with_reducible apply eCn); (simp only [nth_zero, nth_succ]; first | done | (with_reducible exact rfl)))
        | ((with_reducible apply eJ); (rfl))
        | ((with_reducible apply eB); (first | (with_reducible exact rfl) | (simp (disch := omega) only [qf, c1, c2, r1, r2, r3]; first | done | (with_reducible exact rfl) | (with_reducible exact ⟨rfl, rfl⟩)) | (simp (disch := omega) only [qa, putC, AV.cells, storable, buildSt, fillA, buildRo, buildOwn, fillE, Nat.reduceLeDiff, Nat.reduceLT, Nat.reduceAdd, ↓reduceIte, c1, c2, r1, r2, r3]; first | done | (with_reducible exact rfl) | (with_reducible exact ⟨rfl, rfl⟩))))
        | ((with_reducible apply eR); (simp only [nth_zero, nth_succ]; (with_reducible exact rfl)))
        | ((with_reducible first | refine sEql ?_ ?_ | refine sNeq ?_ ?_ | refine sLss ?_ ?_ | refine sLeq ?_ ?_ | refine sGtr ?_ ?_ | refine sGeq ?_ ?_ | refine sNot ?_ ?_ | refine sPick ?_ ?_ | refine sGd ?_ ?_ | refine eBool ?_ ?_) <;> intro hq <;> try subst hq)
      exact w2 rfl rfl rfl
  by_cases h10 : op = 10
  · by_cases hn : 0 ≤ n ∧ n ≤ 63
    · have := exact_spec G k op d a b c n.toNat (by omega) x y hx hy (by omega)
      rw [Int.toNat_of_nonneg hn.1, numS_if] at this
      rw [this]
      subst h10
      have e1 : exactF 10 n.toNat (s64 x) (s64 y) = s64 x * 2 ^ n.toNat := rfl
      have e2 : exF 10 n x y = if n < 0 ∨ 63 < n then (0, false) else if Rg (s64 x * 2 ^ n.toNat) then (s64 x * 2 ^ n.toNat, true) else (0, false) := rfl
      have hnn : ¬ (n < 0 ∨ 63 < n) := by omega
      rw [e1, e2, if_neg hnn]
    · have e : exF op n x y = (0, false) := by
        subst h10
        unfold exF
        rw [if_neg (by omega), if_neg (by omega), if_neg (by omega), if_pos rfl, if_pos (by omega)]
      rw [e, bound_Exact.step]
      unfold bound_Exact.c instV
      have c1 := conv_i64 x hx
      have c2 := conv_i64 y hy
      have s1 : bound_shl.f G (k + 1) [I6 (s64 x), I6 n] [] = some (.tup [.int .i64 0, .bool false], []) := by
        rw [bound_shl.step]
        unfold bound_shl.c
        refine e_in ?_
        by_cases h0 : n < 0
        · repeat' first
            | (with_reducible first | refine eT ?_ | refine eN ?_ | refine eS ?_ | refine eXn ?_ | refine eXr ?_ | refine eX ?_ | refine eI ?_ | refine eK ?_ | refine eV0 ?_ | refine eGtt ?_ | refine eGff ?_ | refine eGtf ?_ | refine eGft ?_ | refine eGno ?_)
            | ((with_reducible apply eCn); (simp only [nth_zero, nth_succ]; first | done | (with_reducible exact rfl)))
            | ((with_reducible apply eJ); (rfl))
            | ((with_reducible apply eB); (first | (with_reducible exact rfl) | (simp (disch := omega) only [qa, putC, AV.cells, storable, buildSt, fillA, buildRo, buildOwn, fillE, Nat.reduceLeDiff, Nat.reduceLT, Nat.reduceAdd, ↓reduceIte]; first | done | (with_reducible exact rfl) | (with_reducible exact ⟨rfl, rfl⟩))))
            | ((with_reducible apply eR); (simp only [nth_zero, nth_succ]; (with_reducible exact rfl)))
            | ((with_reducible first | refine sEql ?_ ?_ | refine sNeq ?_ ?_ | refine sLss ?_ ?_ | refine sLeq ?_ ?_ | refine sGtr ?_ ?_ | refine sGeq ?_ ?_ | refine sNot ?_ ?_ | refine sPick ?_ ?_ | refine sGd ?_ ?_ | refine eBool ?_ ?_) <;> intro hq <;> try subst hq)
          exact w2 rfl rfl rfl
        · have h63 : 63 < n := by omega
          repeat' first
            | (with_reducible first | refine eT ?_ | refine eN ?_ | refine eS ?_ | refine eXn ?_ | refine eXr ?_ | refine eX ?_ | refine eI ?_ | refine eK ?_ | refine eV0 ?_ | refine eGtt ?_ | refine eGff ?_ | refine eGtf ?_ | refine eGft ?_ | refine eGno ?_)
            | ((with_reducible apply eCn); (simp only [nth_zero, nth_succ]; first | done | (with_reducible exact rfl)))
            | ((with_reducible apply eJ); (rfl))
            | ((with_reducible apply eB); (first | (with_reducible exact rfl) | (simp (disch := omega) only [qa, putC, AV.cells, storable, buildSt, fillA, buildRo, buildOwn, fillE, Nat.reduceLeDiff, Nat.reduceLT, Nat.reduceAdd, ↓reduceIte]; first | done | (with_reducible exact rfl) | (with_reducible exact ⟨rfl, rfl⟩))))
            | ((with_reducible apply eR); (simp only [nth_zero, nth_succ]; (with_reducible exact rfl)))
            | ((with_reducible first | refine sEql ?_ ?_ | refine sNeq ?_ ?_ | refine sLss ?_ ?_ | refine sLeq ?_ ?_ | refine sGtr ?_ ?_ | refine sGeq ?_ ?_ | refine sNot ?_ ?_ | refine sPick ?_ ?_ | refine sGd ?_ ?_ | refine eBool ?_ ?_) <;> intro hq <;> try subst hq)
          exact w2 rfl rfl rfl
      have r4 : ∀ H, pureCall (bound_shl.f G (k + 1)) [I6 (s64 x), I6 n] H = _ := fun H => pureCall_of (H := H) s1 rfl rfl
      refine e_in ?_
      repeat' first
        | (with_reducible first | refine eT ?_ | refine eN ?_ | refine eS ?_ | refine eXn ?_ | refine eXr ?_ | refine eX ?_ | refine eI ?_ | refine eK ?_ | refine eV0 ?_ | refine eGtt ?_ | refine eGff ?_ | refine eGtf ?_ | refine eGft ?_ | refine eGno ?_)
        | ((with_reducible apply eCn); (simp only [nth_zero, nth_succ]; first | done | (with_reducible exact rfl)))
        | ((with_reducible apply eJ); (rfl))
        | ((with_reducible apply eB); (first | (with_reducible exact rfl) | (simp (disch := omega) only [qf, c1, c2, r4]; first | done | (with_reducible exact rfl) | (with_reducible exact ⟨rfl, rfl⟩)) | (simp (disch := omega) only [qa, putC, AV.cells, storable, buildSt, fillA, buildRo, buildOwn, fillE, Nat.reduceLeDiff, Nat.reduceLT, Nat.reduceAdd, ↓reduceIte, c1, c2, r4]; first | done | (with_reducible exact rfl) | (with_reducible exact ⟨rfl, rfl⟩))))
        | ((with_reducible apply eR); (simp only [nth_zero, nth_succ]; (with_reducible exact rfl)))
        | ((with_reducible first | refine sEql ?_ ?_ | refine sNeq ?_ ?_ | refine sLss ?_ ?_ | refine sLeq ?_ ?_ | refine sGtr ?_ ?_ | refine sGeq ?_ ?_ | refine sNot ?_ ?_ | refine sPick ?_ ?_ | refine sGd ?_ ?_ | refine eBool ?_ ?_) <;> intro hq <;> try subst hq)
      exact w2 rfl rfl rfl
  · have e : exF op n x y = (0, false) := by
      unfold exF
      rw [if_neg (by omega), if_neg (by omega), if_neg (by omega), if_neg h10]
    rw [e, bound_Exact.step]
    unfold bound_Exact.c instV
    have c1 := conv_i64 x hx
    have c2 := conv_i64 y hy
    refine e_in ?_
    repeat' first
      | (with_reducible first | refine eT ?_ | refine eN ?_ | refine eS ?_ | refine eXn ?_ | refine eXr ?_ | refine eX ?_ | refine eI ?_ | refine eK ?_ | refine eV0 ?_ | refine eGtt ?_ | refine eGff ?_ | refine eGtf ?_ | refine eGft ?_ | refine eGno ?_)
      | ((with_reducible apply eCn); (simp only [nth_zero, nth_succ]; first | done | (with_reducible exact rfl)))
      | ((with_reducible apply eJ); (rfl))
      | ((with_reducible apply eB); (first | (with_reducible exact rfl) | (simp (disch := omega) only [qf, c1, c2]; first | done | (with_reducible exact rfl) | (with_reducible exact ⟨rfl, rfl⟩)) | (simp (disch := omega) only [qa, putC, AV.cells, storable, buildSt, fillA, buildRo, buildOwn, fillE, Nat.reduceLeDiff, Nat.reduceLT, Nat.reduceAdd, ↓reduceIte, c1, c2]; first | done | (with_reducible exact rfl) | (with_reducible exact ⟨rfl, rfl⟩))))
      | ((with_reducible apply eR); (simp only [nth_zero, nth_succ]; (with_reducible exact rfl)))
      | ((with_reducible first | refine sEql ?_ ?_ | refine sNeq ?_ ?_ | refine sLss ?_ ?_ | refine sLeq ?_ ?_ | refine sGtr ?_ ?_ | refine sGeq ?_ ?_ | refine sNot ?_ ?_ | refine sPick ?_ ?_ | refine sGd ?_ ?_ | refine eBool ?_ ?_) <;> intro hq <;> try subst hq)
    exact w2 rfl rfl rfl

theorem rexact_spec (G : Globs) (k : Nat) (op d a b c n : Int) (x y : Nat) (hx : x < 18446744073709551616) (hy : y < 18446744073709551616) :
    alembicref17_Exact.f G (k + 11) [instV op d a b c n, Un x, Un y] [] = some (exV (exF op n x y), []) := by
  rw [alembicref17_Exact.step]
  unfold alembicref17_Exact.c instV
  have hx' := s64_range x hx
  have hy' := s64_range y hy
  have c1 := conv_i64 x hx
  have c2 := conv_i64 y hy
  have rs : ∀ H, pureCall (alembicref17_Sum.f G (k + 10)) [I6 (s64 x), I6 (s64 y)] H = _ := fun H => pureCall_of (H := H) (rsum_spec G (k + 9) (s64 x) (s64 y) hx' hy') rfl rfl
  have rl : ∀ H, pureCall (alembicref17_Less.f G (k + 10)) [I6 (s64 x), I6 (s64 y)] H = _ := fun H => pureCall_of (H := H) (rless_spec G (k + 9) (s64 x) (s64 y) hx' hy') rfl rfl
  have rc : ∀ z p H, pureCall (alembicref17_cut.f G (k + 10)) [I6 z, .bool p] H = _ := fun z p H => pureCall_of (H := H) (rcut_spec G (k + 9) z p) rfl rfl
  obtain ⟨z, hz1, hz2⟩ := rprod_spec G k (s64 x) (s64 y) hx' hy'
  have rp : ∀ H, pureCall (alembicref17_Product.f G (k + 10)) [I6 (s64 x), I6 (s64 y)] H = _ := fun H => pureCall_of (H := H) hz1 rfl rfl
  have cut_eq : ∀ (m w : Int), (numB m = true → w = m) → (if numB m = true then w else 0 : Int) = (if Rg m then (m, true) else (0, false) : Int × Bool).1 ∧ numB m = (if Rg m then (m, true) else (0, false) : Int × Bool).2 := fun m w hw => by
    by_cases h : Rg m
    · have e : numB m = true := decide_eq_true h
      rw [e, if_pos rfl, if_pos h]; exact ⟨hw e, rfl⟩
    · have e : numB m = false := decide_eq_false h
      rw [e, if_neg (by simp), if_neg h]; exact ⟨rfl, rfl⟩
  refine e_in ?_
  by_cases h3 : op = 3
  · have e : exF op n x y = (if Rg (s64 x + s64 y) then (s64 x + s64 y, true) else (0, false)) := by unfold exF; rw [if_pos h3]
    rw [e]
    obtain ⟨q1, q2⟩ := cut_eq (s64 x + s64 y) _ numB_wrap
    repeat first
      | (with_reducible first | refine eT ?_ | refine eN ?_ | refine eS ?_ | refine eXn ?_ | refine eXr ?_ | refine eX ?_ | refine eI ?_ | refine eK ?_ | refine eV0 ?_ | refine eGtt ?_ | refine eGff ?_ | refine eGtf ?_ | refine eGft ?_ | refine eGno ?_)
      | ((with_reducible apply eCn); (simp only [nth_zero, nth_succ]; first | done | (with_reducible exact rfl)))
      | ((with_reducible apply eJ); (rfl))
      | ((with_reducible apply eB); (first | (with_reducible exact rfl) | (simp (disch := omega) only [qf, c1, c2, rs, rc]; first | done | (with_reducible exact rfl) | (with_reducible exact ⟨rfl, rfl⟩)) | (simp (disch := omega) only [qa, putC, AV.cells, storable, buildSt, fillA, buildRo, buildOwn, fillE, Nat.reduceLeDiff, Nat.reduceLT, Nat.reduceAdd, ↓reduceIte, c1, c2, rs, rc]; first | done | (with_reducible exact rfl) | (with_reducible exact ⟨rfl, rfl⟩))))
      | ((with_reducible apply eR); (simp only [nth_zero, nth_succ]; (with_reducible exact rfl)))
    refine w2 rfl rfl ?_
    show AV.tup [I6 _, .bool _] = AV.tup [I6 _, .bool _]
    rw [← q1, ← q2]
  by_cases h4 : op = 4
  · have e : exF op n x y = (if Rg (s64 x - s64 y) then (s64 x - s64 y, true) else (0, false)) := by unfold exF; rw [if_neg h3, if_pos h4]
    rw [e]
    obtain ⟨q1, q2⟩ := cut_eq (s64 x - s64 y) _ numB_wrap
    repeat first
      | (with_reducible first | refine eT ?_ | refine eN ?_ | refine eS ?_ | refine eXn ?_ | refine eXr ?_ | refine eX ?_ | refine eI ?_ | refine eK ?_ | refine eV0 ?_ | refine eGtt ?_ | refine eGff ?_ | refine eGtf ?_ | refine eGft ?_ | refine eGno ?_)
      | ((with_reducible apply eCn); (simp only [nth_zero, nth_succ]; first | done | (with_reducible exact rfl)))
      | ((with_reducible apply eJ); (rfl))
      | ((with_reducible apply eB); (first | (with_reducible exact rfl) | (simp (disch := omega) only [qf, c1, c2, rl, rc]; first | done | (with_reducible exact rfl) | (with_reducible exact ⟨rfl, rfl⟩)) | (simp (disch := omega) only [qa, putC, AV.cells, storable, buildSt, fillA, buildRo, buildOwn, fillE, Nat.reduceLeDiff, Nat.reduceLT, Nat.reduceAdd, ↓reduceIte, c1, c2, rl, rc]; first | done | (with_reducible exact rfl) | (with_reducible exact ⟨rfl, rfl⟩))))
      | ((with_reducible apply eR); (simp only [nth_zero, nth_succ]; (with_reducible exact rfl)))
    refine w2 rfl rfl ?_
    show AV.tup [I6 _, .bool _] = AV.tup [I6 _, .bool _]
    rw [← q1, ← q2]
  by_cases h5 : op = 5
  · have e : exF op n x y = (if Rg (s64 x * s64 y) then (s64 x * s64 y, true) else (0, false)) := by unfold exF; rw [if_neg h3, if_neg h4, if_pos h5]
    rw [e]
    obtain ⟨q1, q2⟩ := cut_eq (s64 x * s64 y) z hz2
    repeat first
      | (with_reducible first | refine eT ?_ | refine eN ?_ | refine eS ?_ | refine eXn ?_ | refine eXr ?_ | refine eX ?_ | refine eI ?_ | refine eK ?_ | refine eV0 ?_ | refine eGtt ?_ | refine eGff ?_ | refine eGtf ?_ | refine eGft ?_ | refine eGno ?_)
      | ((with_reducible apply eCn); (simp only [nth_zero, nth_succ]; first | done | (with_reducible exact rfl)))
      | ((with_reducible apply eJ); (rfl))
      | ((with_reducible apply eB); (first | (with_reducible exact rfl) | (simp (disch := omega) only [qf, c1, c2, rp, rc]; first | done | (with_reducible exact rfl) | (with_reducible exact ⟨rfl, rfl⟩)) | (simp (disch := omega) only [qa, putC, AV.cells, storable, buildSt, fillA, buildRo, buildOwn, fillE, Nat.reduceLeDiff, Nat.reduceLT, Nat.reduceAdd, ↓reduceIte, c1, c2, rp, rc]; first | done | (with_reducible exact rfl) | (with_reducible exact ⟨rfl, rfl⟩))))
      | ((with_reducible apply eR); (simp only [nth_zero, nth_succ]; (with_reducible exact rfl)))
    refine w2 rfl rfl ?_
    show AV.tup [I6 _, .bool _] = AV.tup [I6 _, .bool _]
    rw [← q1, ← q2]
  by_cases h10 : op = 10
  · have e : exF op n x y = (if n < 0 ∨ 63 < n then (0, false) else if Rg (s64 x * 2 ^ n.toNat) then (s64 x * 2 ^ n.toNat, true) else (0, false)) := by unfold exF; rw [if_neg h3, if_neg h4, if_neg h5, if_pos h10]
    rw [e]
    by_cases hn : n < 0 ∨ 63 < n
    · rw [if_pos hn]
      by_cases h0 : n < 0
      · repeat' first
          | (with_reducible first | refine eT ?_ | refine eN ?_ | refine eS ?_ | refine eXn ?_ | refine eXr ?_ | refine eX ?_ | refine eI ?_ | refine eK ?_ | refine eV0 ?_ | refine eGtt ?_ | refine eGff ?_ | refine eGtf ?_ | refine eGft ?_ | refine eGno ?_)
          | ((with_reducible apply eCn); (simp only [nth_zero, nth_succ]; first | done | (with_reducible exact rfl)))
          | ((with_reducible apply eJ); (rfl))
          | ((with_reducible apply eB); (first | (with_reducible exact rfl) | (simp (disch := omega) only [qf, c1, c2]; first | done | (with_reducible exact rfl) | (with_reducible exact ⟨rfl, rfl⟩)) | (simp (disch := omega) only [qa, putC, AV.cells, storable, buildSt, fillA, buildRo, buildOwn, fillE, Nat.reduceLeDiff, Nat.reduceLT, Nat.reduceAdd, ↓reduceIte, c1, c2]; first | done | (with_reducible exact rfl) | (with_reducible exact ⟨rfl, rfl⟩))))
          | ((with_reducible apply eR); (simp only [nth_zero, nth_succ]; (with_reducible exact rfl)))
          | ((with_reducible first | refine sEql ?_ ?_ | refine sNeq ?_ ?_ | refine sLss ?_ ?_ | refine sLeq ?_ ?_ | refine sGtr ?_ ?_ | refine sGeq ?_ ?_ | refine sNot ?_ ?_ | refine sPick ?_ ?_ | refine sGd ?_ ?_ | refine eBool ?_ ?_) <;> intro hq <;> try subst hq)
        exact w2 rfl rfl rfl
      · have h63 : 63 < n := by omega
        repeat' first
          | (with_reducible first | refine eT ?_ | refine eN ?_ | refine eS ?_ | refine eXn ?_ | refine eXr ?_ | refine eX ?_ | refine eI ?_ | refine eK ?_ | refine eV0 ?_ | refine eGtt ?_ | refine eGff ?_ | refine eGtf ?_ | refine eGft ?_ | refine eGno ?_)
          | ((with_reducible apply eCn); (simp only [nth_zero, nth_succ]; first | done | (with_reducible exact rfl)))
          | ((with_reducible apply eJ); (rfl))
          | ((with_reducible apply eB); (first | (with_reducible exact rfl) | (simp (disch := omega) only [qf, c1, c2]; first | done | (with_reducible exact rfl) | (with_reducible exact ⟨rfl, rfl⟩)) | (simp (disch := omega) only [qa, putC, AV.cells, storable, buildSt, fillA, buildRo, buildOwn, fillE, Nat.reduceLeDiff, Nat.reduceLT, Nat.reduceAdd, ↓reduceIte, c1, c2]; first | done | (with_reducible exact rfl) | (with_reducible exact ⟨rfl, rfl⟩))))
          | ((with_reducible apply eR); (simp only [nth_zero, nth_succ]; (with_reducible exact rfl)))
          | ((with_reducible first | refine sEql ?_ ?_ | refine sNeq ?_ ?_ | refine sLss ?_ ?_ | refine sLeq ?_ ?_ | refine sGtr ?_ ?_ | refine sGeq ?_ ?_ | refine sNot ?_ ?_ | refine sPick ?_ ?_ | refine sGd ?_ ?_ | refine eBool ?_ ?_) <;> intro hq <;> try subst hq)
        exact w2 rfl rfl rfl
    · rw [if_neg hn]
      obtain ⟨m, rfl⟩ : ∃ m : Nat, n = (m : Int) := ⟨n.toNat, by omega⟩
      have hm : m ≤ 63 := by omega
      rw [Int.toNat_natCast]
      have e2 : min ((m : Int)).toNat IntKind.i64.bits = m := by rw [Int.toNat_natCast]; exact Nat.min_eq_left (by have : IntKind.i64.bits = 64 := rfl; omega)
      have k1 : convInt .u64 (I6 (m : Int)) = some (Un m) := by rw [conv_u64, u64_nat _ (by omega)]
      obtain ⟨w, hw⟩ : ∃ w, w = IntKind.i64.wrap (s64 x * 2 ^ m) := ⟨_, rfl⟩
      have k2 : bin Tryd.prog .shl 2 false (I6 (s64 x)) (Un m) = some (I6 w) := by rw [bin_shl _ _ _ _ _ _ _ (Int.natCast_nonneg m), e2, hw]
      have k3 : bin Tryd.prog .shr 2 false (I6 w) (Un m) = some (I6 (w.fdiv (2 ^ m))) := by rw [bin_shr _ _ _ _ _ _ _ (Int.natCast_nonneg m), e2]
      have hr := wrap_i64_rg (s64 x * 2 ^ m)
      rw [← hw] at hr
      obtain ⟨mm, hmm⟩ := wrap_i64_mod (s64 x * 2 ^ m)
      rw [← hw] at hmm
      have hiff : w.fdiv (2 ^ m) = s64 x ↔ Rg (s64 x * 2 ^ m) := by
        constructor
        · intro hq
          have e64 : (18446744073709551616 : Int) = 2 ^ (64 - m) * 2 ^ m := by rw [← Int.pow_add, show 64 - m + m = 64 by omega]; rfl
          have hw2 : w = (s64 x + 2 ^ (64 - m) * mm) * 2 ^ m := by
            rw [hmm, e64, Int.add_mul, Int.mul_assoc, Int.mul_assoc, Int.mul_comm mm]
          rw [hw2, pow_tdiv] at hq
          have hz : 2 ^ (64 - m) * mm = 0 := by omega
          rw [hw2, hz, Int.add_zero] at hr
          exact hr
        · intro h
          have : w = s64 x * 2 ^ m := by rw [hw]; exact wrap_of_i64 h.1 h.2
          rw [this, pow_tdiv]
      by_cases h : Rg (s64 x * 2 ^ m)
      · rw [if_pos h]
        have e3 : w = s64 x * 2 ^ m := by rw [hw]; exact wrap_of_i64 h.1 h.2
        have k4 : bin Tryd.prog .eql 2 false (I6 (w.fdiv (2 ^ m))) (I6 (s64 x)) = some (.bool true) := by rw [bin_eql, decide_eq_true (hiff.2 h)]
        clear hw hmm hr hiff
        generalize w.fdiv (2 ^ m) = w3 at *
        repeat' first
          | (with_reducible first | refine eT ?_ | refine eN ?_ | refine eS ?_ | refine eXn ?_ | refine eXr ?_ | refine eX ?_ | refine eI ?_ | refine eK ?_ | refine eV0 ?_ | refine eGtt ?_ | refine eGff ?_ | refine eGtf ?_ | refine eGft ?_ | refine eGno ?_)
          | ((with_reducible apply eCn); (simp only [nth_zero, nth_succ]; first | done | (with_reducible exact rfl)))
          | ((with_reducible apply eJ); (rfl))
          | ((with_reducible apply eB); (first | (with_reducible exact rfl) | (simp (disch := omega) only [qf, k1, c1, k2, k3, k4, rc]; first | done | (with_reducible exact rfl) | (with_reducible exact ⟨rfl, rfl⟩)) | (simp (disch := omega) only [qa, putC, AV.cells, storable, buildSt, fillA, buildRo, buildOwn, fillE, Nat.reduceLeDiff, Nat.reduceLT, Nat.reduceAdd, ↓reduceIte, k1, c1, k2, k3, k4, rc]; first | done | (with_reducible exact rfl) | (with_reducible exact ⟨rfl, rfl⟩))))
          | ((with_reducible apply eR); (simp only [nth_zero, nth_succ]; (with_reducible exact rfl)))
          | ((with_reducible first | refine sEql ?_ ?_ | refine sNeq ?_ ?_ | refine sLss ?_ ?_ | refine sLeq ?_ ?_ | refine sGtr ?_ ?_ | refine sGeq ?_ ?_ | refine sNot ?_ ?_ | refine sPick ?_ ?_ | refine sGd ?_ ?_ | refine eBool ?_ ?_) <;> intro hq <;> try subst hq)
        refine w2 rfl rfl ?_
        rw [e3]
      · rw [if_neg h]
        have k4 : bin Tryd.prog .eql 2 false (I6 (w.fdiv (2 ^ m))) (I6 (s64 x)) = some (.bool false) := by rw [bin_eql, decide_eq_false (fun hq => h (hiff.1 hq))]
        clear hw hmm hr hiff
        generalize w.fdiv (2 ^ m) = w3 at *
        repeat' first
          | (with_reducible first | refine eT ?_ | refine eN ?_ | refine eS ?_ | refine eXn ?_ | refine eXr ?_ | refine eX ?_ | refine eI ?_ | refine eK ?_ | refine eV0 ?_ | refine eGtt ?_ | refine eGff ?_ | refine eGtf ?_ | refine eGft ?_ | refine eGno ?_)
          | ((with_reducible apply eCn); (simp only [nth_zero, nth_succ]; first | done | (with_reducible exact rfl)))
          | ((with_reducible apply eJ); (rfl))
          | ((with_reducible apply eB); (first | (with_reducible exact rfl) | (simp (disch := omega) only [qf, k1, c1, k2, k3, k4, rc]; first | done | (with_reducible exact rfl) | (with_reducible exact ⟨rfl, rfl⟩)) | (simp (disch := omega) only [qa, putC, AV.cells, storable, buildSt, fillA, buildRo, buildOwn, fillE, Nat.reduceLeDiff, Nat.reduceLT, Nat.reduceAdd, ↓reduceIte, k1, c1, k2, k3, k4, rc]; first | done | (with_reducible exact rfl) | (with_reducible exact ⟨rfl, rfl⟩))))
          | ((with_reducible apply eR); (simp only [nth_zero, nth_succ]; (with_reducible exact rfl)))
          | ((with_reducible first | refine sEql ?_ ?_ | refine sNeq ?_ ?_ | refine sLss ?_ ?_ | refine sLeq ?_ ?_ | refine sGtr ?_ ?_ | refine sGeq ?_ ?_ | refine sNot ?_ ?_ | refine sPick ?_ ?_ | refine sGd ?_ ?_ | refine eBool ?_ ?_) <;> intro hq <;> try subst hq)
        exact w2 rfl rfl rfl
  · have e : exF op n x y = (0, false) := by
      unfold exF
      rw [if_neg h3, if_neg h4, if_neg h5, if_neg h10]
    rw [e]
    repeat' first
      | (with_reducible first | refine eT ?_ | refine eN ?_ | refine eS ?_ | refine eXn ?_ | refine eXr ?_ | refine eX ?_ | refine eI ?_ | refine eK ?_ | refine eV0 ?_ | refine eGtt ?_ | refine eGff ?_ | refine eGtf ?_ | refine eGft ?_ | refine eGno ?_)
      | ((with_reducible apply eCn); (simp only [nth_zero, nth_succ]; first | done | (with_reducible exact rfl)))
      | ((with_reducible apply eJ); (rfl))
      | ((with_reducible apply eB); (first | (with_reducible exact rfl) | (simp (disch := omega) only [qf, c1, c2]; first | done | (with_reducible exact rfl) | (with_reducible exact ⟨rfl, rfl⟩)) | (simp (disch := omega) only [qa, putC, AV.cells, storable, buildSt, fillA, buildRo, buildOwn, fillE, Nat.reduceLeDiff, Nat.reduceLT, Nat.reduceAdd, ↓reduceIte, c1, c2]; first | done | (with_reducible exact rfl) | (with_reducible exact ⟨rfl, rfl⟩))))
      | ((with_reducible apply eR); (simp only [nth_zero, nth_succ]; (with_reducible exact rfl)))
      | ((with_reducible first | refine sEql ?_ ?_ | refine sNeq ?_ ?_ | refine sLss ?_ ?_ | refine sLeq ?_ ?_ | refine sGtr ?_ ?_ | refine sGeq ?_ ?_ | refine sNot ?_ ?_ | refine sPick ?_ ?_ | refine sGd ?_ ?_ | refine eBool ?_ ?_) <;> intro hq <;> try subst hq)
    exact w2 rfl rfl rfl
end Go.Proofs.YtcmblhedhgiofaaDoor.Mir
