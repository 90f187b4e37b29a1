/- What the document's spans give. -/
import Derived.Test.YtemkaggjbhpbbaaPc
namespace Go.Proofs.Ytemkaggjbhpbbaa.Mir
open Go
set_option linter.unusedVariables false
set_option linter.unusedSimpArgs false

abbrev Un (n : Nat) : AV := .int .u64 (n : Int)
theorem eb (x y : Bool) : bin Try.prog .eql 4 false (.bool x) (.bool y) = some (.bool (x == y)) := bin_eql_bool Try.underlying4 false x y
theorem nb (x y : Bool) : bin Try.prog .neq 4 false (.bool x) (.bool y) = some (.bool (x != y)) := bin_neq_bool Try.underlying4 false x y

theorem rsum_spec (G : Globs) (k : Nat) (a b : Int) (ha : Rg a) (hb : Rg b) : alembicref17_Sum.f G (k + 1) [I a, I b] [] = some (.tup [I (IntKind.i64.wrap (a + b)), .bool (numB (a + b))], []) := by
  have hw : IntKind.i64.wrap (a + b) = (if (a + b) % 18446744073709551616 ≥ 9223372036854775808 then (a + b) % 18446744073709551616 - 18446744073709551616 else (a + b) % 18446744073709551616) := wrap_i64_eq _
  have c1 : bin Try.prog .add 2 false (I a) (I b) = some (I (IntKind.i64.wrap (a + b))) := bin_add ..
  generalize hW : IntKind.i64.wrap (a + b) = W at hw c1
  have c2 : bin Try.prog .gtr 2 false (I W) (I a) = some (.bool (decide (a < W))) := bin_gtr ..
  have c3 : bin Try.prog .gtr 2 true (I b) (.int .i64 0) = some (.bool (decide (0 < b))) := bin_gtr ..
  have c4 : bin Try.prog .eql 2 true (I b) (.int .i64 0) = some (.bool (decide (b = 0))) := bin_eql ..
  have key : (decide (a < W) == decide (0 < b)) = true ∨ ((decide (a < W) == decide (0 < b)) = false ∧ b ≠ 0 ∧ ¬ Rg (a + b)) := by
    by_cases h1 : a < W <;> by_cases h2 : 0 < b <;> simp [h1, h2] <;> split at hw <;> omega
  have key2 : (decide (a < W) == decide (0 < b)) = true → b ≠ 0 → Rg (a + b) := by
    intro h hb0
    by_cases h1 : a < W <;> by_cases h2 : 0 < b <;> simp [h1, h2] at h <;> split at hw <;> constructor <;> omega
  rw [alembicref17_Sum.step]
  unfold alembicref17_Sum.c
  rcases key with h | ⟨h, h1, h2⟩
  · have e : numB (a + b) = true := by
      by_cases hb0 : b = 0
      · subst hb0; exact decide_eq_true ⟨by omega, by omega⟩
      · exact decide_eq_true (key2 h hb0)
    rw [e]
    repeat first
      | refine oB (by first | (with_reducible exact rfl) | (simp only [pu_val, nth_zero, nth_succ, gd_tt, gd_ff, gd_tf, gd_ft, gd_no, pickA_true, pickA_false, un_not, c1, c2, c3, eb, h]; first | done | (with_reducible exact rfl) | (with_reducible exact ⟨rfl, rfl⟩))) ?_
      | refine lB (by first | (with_reducible exact rfl) | (simp only [pu_val, nth_zero, nth_succ, gd_tt, gd_ff, gd_tf, gd_ft, gd_no, pickA_true, pickA_false, un_not, c1, c2, c3, eb, h]; first | done | (with_reducible exact rfl) | (with_reducible exact ⟨rfl, rfl⟩))) ?_
      | refine oT ?_
      | refine oN ?_
      | refine oX ?_
      | refine oXn ?_
      | refine oXr ?_
      | exact oF (finV_bool ..)
      | apply oK
      | refine lT ?_
      | refine lN ?_
      | refine lX ?_
      | refine lXn ?_
      | refine lXr ?_
      | apply lK
      | refine oI ?_
      | refine oJ rfl ?_
      | refine lI ?_
      | refine lJ rfl ?_
      | (with_reducible exact rfl)
    exact oF (finV_pair ..)
  · have e : numB (a + b) = false := decide_eq_false h2
    rw [e]
    simp only [decide_eq_false h1] at c4
    repeat first
      | refine oB (by first | (with_reducible exact rfl) | (simp only [pu_val, nth_zero, nth_succ, gd_tt, gd_ff, gd_tf, gd_ft, gd_no, pickA_true, pickA_false, un_not, c1, c2, c3, c4, eb, h]; first | done | (with_reducible exact rfl) | (with_reducible exact ⟨rfl, rfl⟩))) ?_
      | refine lB (by first | (with_reducible exact rfl) | (simp only [pu_val, nth_zero, nth_succ, gd_tt, gd_ff, gd_tf, gd_ft, gd_no, pickA_true, pickA_false, un_not, c1, c2, c3, c4, eb, h]; first | done | (with_reducible exact rfl) | (with_reducible exact ⟨rfl, rfl⟩))) ?_
      | refine oT ?_
      | refine oN ?_
      | refine oX ?_
      | refine oXn ?_
      | refine oXr ?_
      | exact oF (finV_bool ..)
      | apply oK
      | refine lT ?_
      | refine lN ?_
      | refine lX ?_
      | refine lXn ?_
      | refine lXr ?_
      | apply lK
      | refine oI ?_
      | refine oJ rfl ?_
      | refine lI ?_
      | refine lJ rfl ?_
      | (with_reducible exact rfl)
    exact oF (finV_pair ..)

theorem rless_spec (G : Globs) (k : Nat) (a b : Int) (ha : Rg a) (hb : Rg b) : alembicref17_Less.f G (k + 1) [I a, I b] [] = some (.tup [I (IntKind.i64.wrap (a - b)), .bool (numB (a - b))], []) := by
  have hw : IntKind.i64.wrap (a - b) = (if (a - b) % 18446744073709551616 ≥ 9223372036854775808 then (a - b) % 18446744073709551616 - 18446744073709551616 else (a - b) % 18446744073709551616) := wrap_i64_eq _
  have c1 : bin Try.prog .sub 2 false (I a) (I b) = some (I (IntKind.i64.wrap (a - b))) := bin_sub ..
  generalize hW : IntKind.i64.wrap (a - b) = W at hw c1
  have c2 : bin Try.prog .lss 2 false (I W) (I a) = some (.bool (decide (W < a))) := bin_lss ..
  have c3 : bin Try.prog .gtr 2 true (I b) (.int .i64 0) = some (.bool (decide (0 < b))) := bin_gtr ..
  have c4 : bin Try.prog .eql 2 true (I b) (.int .i64 0) = some (.bool (decide (b = 0))) := bin_eql ..
  have key : (decide (W < a) == decide (0 < b)) = true ∨ ((decide (W < a) == decide (0 < b)) = false ∧ b ≠ 0 ∧ ¬ Rg (a - b)) := by
    by_cases h1 : W < a <;> by_cases h2 : 0 < b <;> simp [h1, h2] <;> split at hw <;> omega
  have key2 : (decide (W < a) == decide (0 < b)) = true → b ≠ 0 → Rg (a - b) := by
    intro h hb0
    by_cases h1 : W < a <;> by_cases h2 : 0 < b <;> simp [h1, h2] at h <;> split at hw <;> constructor <;> omega
  rw [alembicref17_Less.step]
  unfold alembicref17_Less.c
  rcases key with h | ⟨h, h1, h2⟩
  · have e : numB (a - b) = true := by
      by_cases hb0 : b = 0
      · subst hb0; exact decide_eq_true ⟨by omega, by omega⟩
      · exact decide_eq_true (key2 h hb0)
    rw [e]
    repeat first
      | refine oB (by first | (with_reducible exact rfl) | (simp only [pu_val, nth_zero, nth_succ, gd_tt, gd_ff, gd_tf, gd_ft, gd_no, pickA_true, pickA_false, un_not, c1, c2, c3, eb, h]; first | done | (with_reducible exact rfl) | (with_reducible exact ⟨rfl, rfl⟩))) ?_
      | refine lB (by first | (with_reducible exact rfl) | (simp only [pu_val, nth_zero, nth_succ, gd_tt, gd_ff, gd_tf, gd_ft, gd_no, pickA_true, pickA_false, un_not, c1, c2, c3, eb, h]; first | done | (with_reducible exact rfl) | (with_reducible exact ⟨rfl, rfl⟩))) ?_
      | refine oT ?_
      | refine oN ?_
      | refine oX ?_
      | refine oXn ?_
      | refine oXr ?_
      | exact oF (finV_bool ..)
      | apply oK
      | refine lT ?_
      | refine lN ?_
      | refine lX ?_
      | refine lXn ?_
      | refine lXr ?_
      | apply lK
      | refine oI ?_
      | refine oJ rfl ?_
      | refine lI ?_
      | refine lJ rfl ?_
      | (with_reducible exact rfl)
    exact oF (finV_pair ..)
  · have e : numB (a - b) = false := decide_eq_false h2
    rw [e]
    simp only [decide_eq_false h1] at c4
    repeat first
      | refine oB (by first | (with_reducible exact rfl) | (simp only [pu_val, nth_zero, nth_succ, gd_tt, gd_ff, gd_tf, gd_ft, gd_no, pickA_true, pickA_false, un_not, c1, c2, c3, c4, eb, h]; first | done | (with_reducible exact rfl) | (with_reducible exact ⟨rfl, rfl⟩))) ?_
      | refine lB (by first | (with_reducible exact rfl) | (simp only [pu_val, nth_zero, nth_succ, gd_tt, gd_ff, gd_tf, gd_ft, gd_no, pickA_true, pickA_false, un_not, c1, c2, c3, c4, eb, h]; first | done | (with_reducible exact rfl) | (with_reducible exact ⟨rfl, rfl⟩))) ?_
      | refine oT ?_
      | refine oN ?_
      | refine oX ?_
      | refine oXn ?_
      | refine oXr ?_
      | exact oF (finV_bool ..)
      | apply oK
      | refine lT ?_
      | refine lN ?_
      | refine lX ?_
      | refine lXn ?_
      | refine lXr ?_
      | apply lK
      | refine oI ?_
      | refine oJ rfl ?_
      | refine lI ?_
      | refine lJ rfl ?_
      | (with_reducible exact rfl)
    exact oF (finV_pair ..)

theorem numB_wrap {n : Int} (h : numB n = true) : IntKind.i64.wrap n = n := by
  simp only [numB, decide_eq_true_eq] at h; exact wrap_of_i64 h.1 h.2

theorem ris_spec (G : Globs) (k : Nat) (a b : Int) : alembicref17_Is.f G (k + 1) [Sp a b] [] = some (.bool (decide (a ≤ b)), []) := by kernel_rfl
theorem rjoin_spec (G : Globs) (k : Nat) (a b c d : Int) : alembicref17_Join.f G (k + 1) [Sp a b, Sp c d] [] = some (Sp (min a c) (max b d), []) := by
  rw [alembicref17_Join.step]
  unfold alembicref17_Join.c
  repeat first
    | refine oB (by first | (with_reducible exact rfl) | (simp [pu_val, boxRoA, boxA, fieldAddrV, loadV, loadC, storable, AV.cells, extractA, buildRo, buildOwn, fillE, buildSt, fillA, stS, storeV, recell, putC, lenSl, lenStr, idxAddrSl, idxAddrArr, allSome, min2']; first | done | (with_reducible exact rfl) | (with_reducible exact ⟨rfl, rfl⟩))) ?_
    | refine lB (by first | (with_reducible exact rfl) | (simp [pu_val, boxRoA, boxA, fieldAddrV, loadV, loadC, storable, AV.cells, extractA, buildRo, buildOwn, fillE, buildSt, fillA, stS, storeV, recell, putC, lenSl, lenStr, idxAddrSl, idxAddrArr, allSome, min2']; first | done | (with_reducible exact rfl) | (with_reducible exact ⟨rfl, rfl⟩))) ?_
    | refine oT ?_
    | refine oN ?_
    | refine oX ?_
    | refine oXn ?_
    | refine oXr ?_
    | exact oF (finV_bool ..)
    | apply oK
    | refine lT ?_
    | refine lN ?_
    | refine lX ?_
    | refine lXn ?_
    | refine lXr ?_
    | apply lK
    | refine oI ?_
    | refine oJ rfl ?_
    | refine lI ?_
    | refine lJ rfl ?_
    | (with_reducible exact rfl)
  refine oF ?_
  simp [pu_val, boxRoA, boxA, fieldAddrV, loadV, loadC, storable, AV.cells, extractA, buildRo, buildOwn, fillE, buildSt, fillA, stS, storeV, recell, putC, lenSl, lenStr, idxAddrSl, idxAddrArr, allSome, finL, finV_sp]

theorem radd_spec (G : Globs) (k : Nat) (a b c d : Int) (ha : Rg a) (hb : Rg b) (hc : Rg c) (hd : Rg d) : alembicref17_Add.f G (k + 10) [Sp a b, Sp c d] [] = some (spanS (numB (a + c) && numB (b + d)) (a + c) (b + d), []) := by
  have r1 : ∀ H, pureCall (alembicref17_Sum.f G (k + 9)) [I a, I c] H = _ := fun H => pureCall_of (H := H) (rsum_spec G (k + 8) a c ha hc) rfl rfl
  have r2 : ∀ H, pureCall (alembicref17_Sum.f G (k + 9)) [I b, I d] H = _ := fun H => pureCall_of (H := H) (rsum_spec G (k + 8) b d hb hd) rfl rfl
  rw [alembicref17_Add.step]
  unfold alembicref17_Add.c
  cases h1 : numB (a + c)
  · simp only [h1] at r1
    repeat first
      | refine oB (by first | (with_reducible exact rfl) | ((first | (simp only [pu_val, nth_zero, nth_succ, gd_tt, gd_ff, gd_tf, gd_ft, gd_no, pickA_true, pickA_false, un_not, r1, r2]; first | done | (with_reducible exact rfl) | (with_reducible exact ⟨rfl, rfl⟩)) | simp [pu_val, boxRoA, boxA, fieldAddrV, loadV, loadC, storable, AV.cells, extractA, buildRo, buildOwn, fillE, buildSt, fillA, stS, storeV, recell, putC, lenSl, lenStr, idxAddrSl, idxAddrArr, allSome]); first | done | (with_reducible exact rfl) | (with_reducible exact ⟨rfl, rfl⟩))) ?_
      | refine lB (by first | (with_reducible exact rfl) | ((first | (simp only [pu_val, nth_zero, nth_succ, gd_tt, gd_ff, gd_tf, gd_ft, gd_no, pickA_true, pickA_false, un_not, r1, r2]; first | done | (with_reducible exact rfl) | (with_reducible exact ⟨rfl, rfl⟩)) | simp [pu_val, boxRoA, boxA, fieldAddrV, loadV, loadC, storable, AV.cells, extractA, buildRo, buildOwn, fillE, buildSt, fillA, stS, storeV, recell, putC, lenSl, lenStr, idxAddrSl, idxAddrArr, allSome]); first | done | (with_reducible exact rfl) | (with_reducible exact ⟨rfl, rfl⟩))) ?_
      | refine oT ?_
      | refine oN ?_
      | refine oX ?_
      | refine oXn ?_
      | refine oXr ?_
      | exact oF (finV_bool ..)
      | apply oK
      | refine lT ?_
      | refine lN ?_
      | refine lX ?_
      | refine lXn ?_
      | refine lXr ?_
      | apply lK
      | refine oI ?_
      | refine oJ rfl ?_
      | refine lI ?_
      | refine lJ rfl ?_
      | (with_reducible exact rfl)
    refine oF ?_
    simp [pu_val, boxRoA, boxA, fieldAddrV, loadV, loadC, storable, AV.cells, extractA, buildRo, buildOwn, fillE, buildSt, fillA, stS, storeV, recell, putC, lenSl, lenStr, idxAddrSl, idxAddrArr, allSome, finL, finV_span, spanS]
  · cases h2 : numB (b + d)
    · simp only [h1] at r1
      simp only [h2] at r2
      repeat first
        | refine oB (by first | (with_reducible exact rfl) | ((first | (simp only [pu_val, nth_zero, nth_succ, gd_tt, gd_ff, gd_tf, gd_ft, gd_no, pickA_true, pickA_false, un_not, r1, r2]; first | done | (with_reducible exact rfl) | (with_reducible exact ⟨rfl, rfl⟩)) | simp [pu_val, boxRoA, boxA, fieldAddrV, loadV, loadC, storable, AV.cells, extractA, buildRo, buildOwn, fillE, buildSt, fillA, stS, storeV, recell, putC, lenSl, lenStr, idxAddrSl, idxAddrArr, allSome]); first | done | (with_reducible exact rfl) | (with_reducible exact ⟨rfl, rfl⟩))) ?_
        | refine lB (by first | (with_reducible exact rfl) | ((first | (simp only [pu_val, nth_zero, nth_succ, gd_tt, gd_ff, gd_tf, gd_ft, gd_no, pickA_true, pickA_false, un_not, r1, r2]; first | done | (with_reducible exact rfl) | (with_reducible exact ⟨rfl, rfl⟩)) | simp [pu_val, boxRoA, boxA, fieldAddrV, loadV, loadC, storable, AV.cells, extractA, buildRo, buildOwn, fillE, buildSt, fillA, stS, storeV, recell, putC, lenSl, lenStr, idxAddrSl, idxAddrArr, allSome]); first | done | (with_reducible exact rfl) | (with_reducible exact ⟨rfl, rfl⟩))) ?_
        | refine oT ?_
        | refine oN ?_
        | refine oX ?_
        | refine oXn ?_
        | refine oXr ?_
        | exact oF (finV_bool ..)
        | apply oK
        | refine lT ?_
        | refine lN ?_
        | refine lX ?_
        | refine lXn ?_
        | refine lXr ?_
        | apply lK
        | refine oI ?_
        | refine oJ rfl ?_
        | refine lI ?_
        | refine lJ rfl ?_
        | (with_reducible exact rfl)
      refine oF ?_
      simp [pu_val, boxRoA, boxA, fieldAddrV, loadV, loadC, storable, AV.cells, extractA, buildRo, buildOwn, fillE, buildSt, fillA, stS, storeV, recell, putC, lenSl, lenStr, idxAddrSl, idxAddrArr, allSome, finL, finV_span, spanS]
    · simp only [h1, numB_wrap h1] at r1
      simp only [h2, numB_wrap h2] at r2
      repeat first
        | refine oB (by first | (with_reducible exact rfl) | ((first | (simp only [pu_val, nth_zero, nth_succ, gd_tt, gd_ff, gd_tf, gd_ft, gd_no, pickA_true, pickA_false, un_not, r1, r2]; first | done | (with_reducible exact rfl) | (with_reducible exact ⟨rfl, rfl⟩)) | simp [pu_val, boxRoA, boxA, fieldAddrV, loadV, loadC, storable, AV.cells, extractA, buildRo, buildOwn, fillE, buildSt, fillA, stS, storeV, recell, putC, lenSl, lenStr, idxAddrSl, idxAddrArr, allSome]); first | done | (with_reducible exact rfl) | (with_reducible exact ⟨rfl, rfl⟩))) ?_
        | refine lB (by first | (with_reducible exact rfl) | ((first | (simp only [pu_val, nth_zero, nth_succ, gd_tt, gd_ff, gd_tf, gd_ft, gd_no, pickA_true, pickA_false, un_not, r1, r2]; first | done | (with_reducible exact rfl) | (with_reducible exact ⟨rfl, rfl⟩)) | simp [pu_val, boxRoA, boxA, fieldAddrV, loadV, loadC, storable, AV.cells, extractA, buildRo, buildOwn, fillE, buildSt, fillA, stS, storeV, recell, putC, lenSl, lenStr, idxAddrSl, idxAddrArr, allSome]); first | done | (with_reducible exact rfl) | (with_reducible exact ⟨rfl, rfl⟩))) ?_
        | refine oT ?_
        | refine oN ?_
        | refine oX ?_
        | refine oXn ?_
        | refine oXr ?_
        | exact oF (finV_bool ..)
        | apply oK
        | refine lT ?_
        | refine lN ?_
        | refine lX ?_
        | refine lXn ?_
        | refine lXr ?_
        | apply lK
        | refine oI ?_
        | refine oJ rfl ?_
        | refine lI ?_
        | refine lJ rfl ?_
        | (with_reducible exact rfl)
      refine oF ?_
      simp [pu_val, boxRoA, boxA, fieldAddrV, loadV, loadC, storable, AV.cells, extractA, buildRo, buildOwn, fillE, buildSt, fillA, stS, storeV, recell, putC, lenSl, lenStr, idxAddrSl, idxAddrArr, allSome, finL, finV_span, spanS]

theorem rsub_spec (G : Globs) (k : Nat) (a b c d : Int) (ha : Rg a) (hb : Rg b) (hc : Rg c) (hd : Rg d) : alembicref17_Sub.f G (k + 10) [Sp a b, Sp c d] [] = some (spanS (numB (a - d) && numB (b - c)) (a - d) (b - c), []) := by
  have r1 : ∀ H, pureCall (alembicref17_Less.f G (k + 9)) [I a, I d] H = _ := fun H => pureCall_of (H := H) (rless_spec G (k + 8) a d ha hd) rfl rfl
  have r2 : ∀ H, pureCall (alembicref17_Less.f G (k + 9)) [I b, I c] H = _ := fun H => pureCall_of (H := H) (rless_spec G (k + 8) b c hb hc) rfl rfl
  rw [alembicref17_Sub.step]
  unfold alembicref17_Sub.c
  cases h1 : numB (a - d)
  · simp only [h1] at r1
    repeat first
      | refine oB (by first | (with_reducible exact rfl) | ((first | (simp only [pu_val, nth_zero, nth_succ, gd_tt, gd_ff, gd_tf, gd_ft, gd_no, pickA_true, pickA_false, un_not, r1, r2]; first | done | (with_reducible exact rfl) | (with_reducible exact ⟨rfl, rfl⟩)) | simp [pu_val, boxRoA, boxA, fieldAddrV, loadV, loadC, storable, AV.cells, extractA, buildRo, buildOwn, fillE, buildSt, fillA, stS, storeV, recell, putC, lenSl, lenStr, idxAddrSl, idxAddrArr, allSome]); first | done | (with_reducible exact rfl) | (with_reducible exact ⟨rfl, rfl⟩))) ?_
      | refine lB (by first | (with_reducible exact rfl) | ((first | (simp only [pu_val, nth_zero, nth_succ, gd_tt, gd_ff, gd_tf, gd_ft, gd_no, pickA_true, pickA_false, un_not, r1, r2]; first | done | (with_reducible exact rfl) | (with_reducible exact ⟨rfl, rfl⟩)) | simp [pu_val, boxRoA, boxA, fieldAddrV, loadV, loadC, storable, AV.cells, extractA, buildRo, buildOwn, fillE, buildSt, fillA, stS, storeV, recell, putC, lenSl, lenStr, idxAddrSl, idxAddrArr, allSome]); first | done | (with_reducible exact rfl) | (with_reducible exact ⟨rfl, rfl⟩))) ?_
      | refine oT ?_
      | refine oN ?_
      | refine oX ?_
      | refine oXn ?_
      | refine oXr ?_
      | exact oF (finV_bool ..)
      | apply oK
      | refine lT ?_
      | refine lN ?_
      | refine lX ?_
      | refine lXn ?_
      | refine lXr ?_
      | apply lK
      | refine oI ?_
      | refine oJ rfl ?_
      | refine lI ?_
      | refine lJ rfl ?_
      | (with_reducible exact rfl)
    refine oF ?_
    simp [pu_val, boxRoA, boxA, fieldAddrV, loadV, loadC, storable, AV.cells, extractA, buildRo, buildOwn, fillE, buildSt, fillA, stS, storeV, recell, putC, lenSl, lenStr, idxAddrSl, idxAddrArr, allSome, finL, finV_span, spanS]
  · cases h2 : numB (b - c)
    · simp only [h1] at r1
      simp only [h2] at r2
      repeat first
        | refine oB (by first | (with_reducible exact rfl) | ((first | (simp only [pu_val, nth_zero, nth_succ, gd_tt, gd_ff, gd_tf, gd_ft, gd_no, pickA_true, pickA_false, un_not, r1, r2]; first | done | (with_reducible exact rfl) | (with_reducible exact ⟨rfl, rfl⟩)) | simp [pu_val, boxRoA, boxA, fieldAddrV, loadV, loadC, storable, AV.cells, extractA, buildRo, buildOwn, fillE, buildSt, fillA, stS, storeV, recell, putC, lenSl, lenStr, idxAddrSl, idxAddrArr, allSome]); first | done | (with_reducible exact rfl) | (with_reducible exact ⟨rfl, rfl⟩))) ?_
        | refine lB (by first | (with_reducible exact rfl) | ((first | (simp only [pu_val, nth_zero, nth_succ, gd_tt, gd_ff, gd_tf, gd_ft, gd_no, pickA_true, pickA_false, un_not, r1, r2]; first | done | (with_reducible exact rfl) | (with_reducible exact ⟨rfl, rfl⟩)) | simp [pu_val, boxRoA, boxA, fieldAddrV, loadV, loadC, storable, AV.cells, extractA, buildRo, buildOwn, fillE, buildSt, fillA, stS, storeV, recell, putC, lenSl, lenStr, idxAddrSl, idxAddrArr, allSome]); first | done | (with_reducible exact rfl) | (with_reducible exact ⟨rfl, rfl⟩))) ?_
        | refine oT ?_
        | refine oN ?_
        | refine oX ?_
        | refine oXn ?_
        | refine oXr ?_
        | exact oF (finV_bool ..)
        | apply oK
        | refine lT ?_
        | refine lN ?_
        | refine lX ?_
        | refine lXn ?_
        | refine lXr ?_
        | apply lK
        | refine oI ?_
        | refine oJ rfl ?_
        | refine lI ?_
        | refine lJ rfl ?_
        | (with_reducible exact rfl)
      refine oF ?_
      simp [pu_val, boxRoA, boxA, fieldAddrV, loadV, loadC, storable, AV.cells, extractA, buildRo, buildOwn, fillE, buildSt, fillA, stS, storeV, recell, putC, lenSl, lenStr, idxAddrSl, idxAddrArr, allSome, finL, finV_span, spanS]
    · simp only [h1, numB_wrap h1] at r1
      simp only [h2, numB_wrap h2] at r2
      repeat first
        | refine oB (by first | (with_reducible exact rfl) | ((first | (simp only [pu_val, nth_zero, nth_succ, gd_tt, gd_ff, gd_tf, gd_ft, gd_no, pickA_true, pickA_false, un_not, r1, r2]; first | done | (with_reducible exact rfl) | (with_reducible exact ⟨rfl, rfl⟩)) | simp [pu_val, boxRoA, boxA, fieldAddrV, loadV, loadC, storable, AV.cells, extractA, buildRo, buildOwn, fillE, buildSt, fillA, stS, storeV, recell, putC, lenSl, lenStr, idxAddrSl, idxAddrArr, allSome]); first | done | (with_reducible exact rfl) | (with_reducible exact ⟨rfl, rfl⟩))) ?_
        | refine lB (by first | (with_reducible exact rfl) | ((first | (simp only [pu_val, nth_zero, nth_succ, gd_tt, gd_ff, gd_tf, gd_ft, gd_no, pickA_true, pickA_false, un_not, r1, r2]; first | done | (with_reducible exact rfl) | (with_reducible exact ⟨rfl, rfl⟩)) | simp [pu_val, boxRoA, boxA, fieldAddrV, loadV, loadC, storable, AV.cells, extractA, buildRo, buildOwn, fillE, buildSt, fillA, stS, storeV, recell, putC, lenSl, lenStr, idxAddrSl, idxAddrArr, allSome]); first | done | (with_reducible exact rfl) | (with_reducible exact ⟨rfl, rfl⟩))) ?_
        | refine oT ?_
        | refine oN ?_
        | refine oX ?_
        | refine oXn ?_
        | refine oXr ?_
        | exact oF (finV_bool ..)
        | apply oK
        | refine lT ?_
        | refine lN ?_
        | refine lX ?_
        | refine lXn ?_
        | refine lXr ?_
        | apply lK
        | refine oI ?_
        | refine oJ rfl ?_
        | refine lI ?_
        | refine lJ rfl ?_
        | (with_reducible exact rfl)
      refine oF ?_
      simp [pu_val, boxRoA, boxA, fieldAddrV, loadV, loadC, storable, AV.cells, extractA, buildRo, buildOwn, fillE, buildSt, fillA, stS, storeV, recell, putC, lenSl, lenStr, idxAddrSl, idxAddrArr, allSome, finL, finV_span, spanS]

/-! the product -/
theorem u64mul (c : Bool) (x y : Nat) (h : x * y < 18446744073709551616) : bin Try.prog .mul 46 c (Un x) (Un y) = some (Un (x * y)) := by
  rw [bin_mul, ← Int.natCast_mul, wrap_of_u64 (by omega) (by omega)]
theorem u64add (c : Bool) (x y : Nat) (h : x + y < 18446744073709551616) : bin Try.prog .add 46 c (Un x) (Un y) = some (Un (x + y)) := by
  rw [bin_add, ← Int.natCast_add, wrap_of_u64 (by omega) (by omega)]
theorem u64low (c : Bool) (x : Nat) (h : x < 18446744073709551616) : bin Try.prog .and 46 c (Un x) (.int .u64 4294967295) = some (Un (x % 4294967296)) := by
  have := u64_and_nat x 4294967295 h (by decide)
  rw [bin_and]; rw [show ((4294967295 : Nat) : Int) = 4294967295 from rfl] at this
  rw [this]; congr 3; exact Nat.and_two_pow_sub_one_eq_mod x 32
theorem u64high (c : Bool) (x : Nat) : bin Try.prog .shr 46 c (Un x) (.int .u64 32) = some (Un (x / 4294967296)) := bin_shr_lit _ _ _ _ _ x 32 (by decide)

theorem mul64_spec (G : Globs) (k : Nat) (x y : Nat) (hx : x < 18446744073709551616) (hy : y < 18446744073709551616) :
    math_bits_Mul64.f G (k + 1) [Un x, Un y] [] = some (.tup [Un (x * y / 18446744073709551616), Un (x * y % 18446744073709551616)], []) := by
  obtain ⟨x0, hx0⟩ : ∃ z, z = x % 4294967296 := ⟨_, rfl⟩
  obtain ⟨x1, hx1⟩ : ∃ z, z = x / 4294967296 := ⟨_, rfl⟩
  obtain ⟨y0, hy0⟩ : ∃ z, z = y % 4294967296 := ⟨_, rfl⟩
  obtain ⟨y1, hy1⟩ : ∃ z, z = y / 4294967296 := ⟨_, rfl⟩
  have bd : ∀ a b : Nat, a ≤ 4294967295 → b ≤ 4294967295 → a * b ≤ 18446744065119617025 := fun a b h1 h2 => Nat.mul_le_mul h1 h2
  obtain ⟨p00, e00⟩ : ∃ z, z = x0 * y0 := ⟨_, rfl⟩
  obtain ⟨p10, e10⟩ : ∃ z, z = x1 * y0 := ⟨_, rfl⟩
  obtain ⟨p01, e01⟩ : ∃ z, z = x0 * y1 := ⟨_, rfl⟩
  obtain ⟨p11, e11⟩ : ∃ z, z = x1 * y1 := ⟨_, rfl⟩
  have b00 : p00 ≤ 18446744065119617025 := by rw [e00]; exact bd _ _ (by omega) (by omega)
  have b10 : p10 ≤ 18446744065119617025 := by rw [e10]; exact bd _ _ (by omega) (by omega)
  have b01 : p01 ≤ 18446744065119617025 := by rw [e01]; exact bd _ _ (by omega) (by omega)
  have b11 : p11 ≤ 18446744065119617025 := by rw [e11]; exact bd _ _ (by omega) (by omega)
  have hxy : x * y = p11 * 18446744073709551616 + (p10 + p01) * 4294967296 + p00 := by
    have ex : x = x1 * 4294967296 + x0 := by omega
    have ey : y = y1 * 4294967296 + y0 := by omega
    rw [ex, ey, e00, e10, e01, e11]
    simp only [Nat.add_mul, Nat.mul_add]
    have r1 : x1 * 4294967296 * (y1 * 4294967296) = x1 * y1 * 18446744073709551616 := by
      rw [Nat.mul_mul_mul_comm]
    have r2 : x1 * 4294967296 * y0 = x1 * y0 * 4294967296 := by rw [Nat.mul_right_comm]
    have r3 : x0 * (y1 * 4294967296) = x0 * y1 * 4294967296 := by rw [Nat.mul_assoc]
    rw [r1, r2, r3]; omega
  obtain ⟨tt, ht⟩ : ∃ z, z = p10 + p00 / 4294967296 := ⟨_, rfl⟩
  obtain ⟨w1, hw1⟩ : ∃ z, z = tt % 4294967296 + p01 := ⟨_, rfl⟩
  have c1 := u64low true x hx
  have c2 := u64high true x
  have c3 := u64low true y hy
  have c4 := u64high true y
  rw [← hx0] at c1
  rw [← hx1] at c2
  rw [← hy0] at c3
  rw [← hy1] at c4
  have c5 := u64mul false x0 y0 (by omega)
  have c6 := u64mul false x1 y0 (by omega)
  rw [← e00] at c5
  rw [← e10] at c6
  have c7 := u64high true p00
  have c8 := u64add false p10 (p00 / 4294967296) (by omega)
  rw [← ht] at c8
  have c9 := u64low true tt (by omega)
  have c10 := u64high true tt
  have c11 := u64mul false x0 y1 (by omega)
  rw [← e01] at c11
  have c12 := u64add false (tt % 4294967296) p01 (by omega)
  rw [← hw1] at c12
  have c13 := u64mul false x1 y1 (by omega)
  rw [← e11] at c13
  have c14 := u64add false p11 (tt / 4294967296) (by omega)
  have c15 := u64high true w1
  have c16 := u64add false (p11 + tt / 4294967296) (w1 / 4294967296) (by omega)
  have c17 : bin Try.prog .mul 46 false (Un x) (Un y) = some (Un (x * y % 18446744073709551616)) := by
    rw [bin_mul, wrap_u64_eq, ← Int.natCast_mul]; rfl
  have e : x * y / 18446744073709551616 = p11 + tt / 4294967296 + w1 / 4294967296 := by rw [hxy]; omega
  rw [e]
  rw [math_bits_Mul64.step]
  unfold math_bits_Mul64.c
  repeat first
    | refine oB (by first | (with_reducible exact rfl) | (simp only [pu_val, nth_zero, nth_succ, gd_tt, gd_ff, gd_tf, gd_ft, gd_no, pickA_true, pickA_false, un_not, c1, c2, c3, c4, c5, c6, c7, c8, c9, c10, c11, c12, c13, c14, c15, c16, c17]; first | done | (with_reducible exact rfl) | (with_reducible exact ⟨rfl, rfl⟩))) ?_
    | refine lB (by first | (with_reducible exact rfl) | (simp only [pu_val, nth_zero, nth_succ, gd_tt, gd_ff, gd_tf, gd_ft, gd_no, pickA_true, pickA_false, un_not, c1, c2, c3, c4, c5, c6, c7, c8, c9, c10, c11, c12, c13, c14, c15, c16, c17]; first | done | (with_reducible exact rfl) | (with_reducible exact ⟨rfl, rfl⟩))) ?_
    | refine oT ?_
    | refine oN ?_
    | refine oX ?_
    | refine oXn ?_
    | refine oXr ?_
    | exact oF (finV_bool ..)
    | apply oK
    | refine lT ?_
    | refine lN ?_
    | refine lX ?_
    | refine lXn ?_
    | refine lXr ?_
    | apply lK
    | refine oI ?_
    | refine oJ rfl ?_
    | refine lI ?_
    | refine lJ rfl ?_
    | (with_reducible exact rfl)
  exact oF (finV_two rfl rfl _)

theorem rcut_spec (G : Globs) (k : Nat) (n : Int) (p : Bool) : alembicref17_cut.f G (k + 1) [I n, .bool p] [] = some (.tup [I (if p then n else 0), .bool p], []) := by cases p <;> kernel_rfl

theorem abs_nat (a : Int) (ha : Rg a) : ∃ X : Nat, X ≤ 9223372036854775808 ∧ ((a < 0 ∧ a = -(X : Int) ∧ convInt .u64 (I a) = some (.int .u64 (a + 18446744073709551616)) ∧ un .neg (.int .u64 (a + 18446744073709551616)) = some (Un X)) ∨
    (0 ≤ a ∧ a = (X : Int) ∧ convInt .u64 (I a) = some (Un X))) := by
  refine ⟨a.natAbs, by omega, ?_⟩
  by_cases h : a < 0
  · left
    refine ⟨h, by omega, ?_, ?_⟩
    · rw [convInt_int, wrap_u64_eq]; congr 2; omega
    · have e : (a.natAbs : Int) = IntKind.u64.wrap (0 - (a + 18446744073709551616)) := by rw [wrap_u64_eq]; omega
      simp only [un, Un]; rw [e]
  · right
    refine ⟨by omega, by omega, ?_⟩
    rw [convInt_int, wrap_of_u64 (by omega) (by omega)]; congr 2; omega

set_option maxRecDepth 4000 in
theorem rprod_spec (G : Globs) (k : Nat) (a b : Int) (ha : Rg a) (hb : Rg b) : ∃ z : Int, alembicref17_Product.f G (k + 10) [I a, I b] [] = some (.tup [I z, .bool (numB (a * b))], []) ∧ (numB (a * b) = true → z = a * b) := by
  obtain ⟨X, hX, hXa⟩ := abs_nat a ha
  obtain ⟨Y, hY, hYb⟩ := abs_nat b hb
  obtain ⟨P, hP⟩ : ∃ P, P = X * Y := ⟨_, rfl⟩
  have m : ∀ H, pureCall (math_bits_Mul64.f G (k + 9)) [Un X, Un Y] H = _ := fun H => pureCall_of (H := H) (mul64_spec G (k + 8) X Y (by omega) (by omega)) rfl rfl
  rw [← hP] at m
  have hP62 : P ≤ 9223372036854775808 * 9223372036854775808 := by rw [hP]; exact Nat.mul_le_mul hX hY
  have c1 : bin Try.prog .neq 46 true (Un (P / 18446744073709551616)) (.int .u64 0) = some (.bool (decide (P / 18446744073709551616 ≠ 0))) := by
    rw [bin_neq]; congr 2; exact decide_eq_decide.2 (by omega)
  have hab : ∃ s : Bool, (s = true → a * b = -(P : Int)) ∧ (s = false → a * b = (P : Int)) ∧ (decide (a < 0) != decide (b < 0)) = s := by
    rcases hXa with ⟨h1, h2, _⟩ | ⟨h1, h2, _⟩ <;> rcases hYb with ⟨h3, h4, _⟩ | ⟨h3, h4, _⟩
    · refine ⟨false, by simp, fun _ => ?_, by rw [decide_eq_true h1, decide_eq_true h3]; rfl⟩
      rw [hP, h2, h4, Int.neg_mul_neg]; simp
    · refine ⟨true, fun _ => ?_, by simp, by rw [decide_eq_true h1, decide_eq_false (by omega)]; rfl⟩
      rw [hP, h2, h4, Int.neg_mul]; simp
    · refine ⟨true, fun _ => ?_, by simp, by rw [decide_eq_false (by omega), decide_eq_true h3]; rfl⟩
      rw [hP, h2, h4, Int.mul_neg]; simp
    · refine ⟨false, by simp, fun _ => ?_, by rw [decide_eq_false (by omega), decide_eq_false (by omega)]; rfl⟩
      rw [hP, h2, h4]; simp
  obtain ⟨s, hs1, hs2, hs3⟩ := hab
  have l1 : bin Try.prog .lss 2 true (I a) (.int .i64 0) = some (.bool (decide (a < 0))) := bin_lss ..
  have l2 : bin Try.prog .lss 2 true (I b) (.int .i64 0) = some (.bool (decide (b < 0))) := bin_lss ..
  -- the first part: the two numbers without their signs
  have go : ∀ r, outV (
      (bnd (pureCall (math_bits_Mul64.f G (k + 9)) [Un X, Un Y] []) fun v8 h8 =>
  bnd (pu h8 (extractA v8 0)) fun v9 h9 =>
  bnd (pu h9 (extractA v8 1)) fun v10 h10 =>
  bnd (pu h10 (bin Try.prog .neq 46 true v9 (.int .u64 0))) fun v11 h11 =>
  condA v11
  (finV [(.int .i64 0), (.bool false)] 0 h11)
  (bnd (pu h11 (bin Try.prog .lss 2 true (I a) (.int .i64 0))) fun v12 h12 =>
  bnd (pu h12 (bin Try.prog .lss 2 true (I b) (.int .i64 0))) fun v13 h13 =>
  bnd (pu h13 (bin Try.prog .neq 4 false v12 v13)) fun v14 h14 =>
  condA v14
  (bnd (pu h14 (bin Try.prog .eql 46 true v10 (.int .u64 9223372036854775808))) fun v15 h15 =>
  condA v15
  (finV [(.int .i64 (-9223372036854775808)), (.bool true)] 0 h15)
  (bnd (pu h15 (bin Try.prog .and 46 true v10 (.int .u64 9223372036854775807))) fun v16 h16 =>
  bnd (pu h16 (convInt .i64 v16)) fun v17 h17 =>
  bnd (pu h17 (un .neg v17)) fun v18 h18 =>
  bnd (pu h18 (bin Try.prog .lss 46 true v10 (.int .u64 9223372036854775808))) fun v19 h19 =>
  bnd (pureCall (alembicref17_cut.f G (k + 9)) [v18, v19] h19) fun v20 h20 =>
  bnd (pu h20 (extractA v20 0)) fun v21 h21 =>
  bnd (pu h21 (extractA v20 1)) fun v22 h22 =>
  finV [v21, v22] 0 h22))
  (bnd (pu h14 (convInt .i64 v10)) fun v23 h23 =>
  bnd (pu h23 (bin Try.prog .lss 46 true v10 (.int .u64 9223372036854775808))) fun v24 h24 =>
  finV [v23, v24] 0 h24)))) = r → alembicref17_Product.f G (k + 10) [I a, I b] [] = r := by
    intro r h
    rw [alembicref17_Product.step]
    unfold alembicref17_Product.c
    rcases hXa with ⟨h1, h2, h3, h4⟩ | ⟨h1, h2, h3⟩ <;> rcases hYb with ⟨g1, g2, g3, g4⟩ | ⟨g1, g2, g3⟩
    · simp only [decide_eq_true h1] at l1
      simp only [decide_eq_true g1] at l2
      repeat first
        | refine oB (by first | (with_reducible exact rfl) | (simp only [pu_val, nth_zero, nth_succ, gd_tt, gd_ff, gd_tf, gd_ft, gd_no, pickA_true, pickA_false, un_not, l1, l2, h3, h4, g3, g4]; first | done | (with_reducible exact rfl) | (with_reducible exact ⟨rfl, rfl⟩))) ?_
        | refine lB (by first | (with_reducible exact rfl) | (simp only [pu_val, nth_zero, nth_succ, gd_tt, gd_ff, gd_tf, gd_ft, gd_no, pickA_true, pickA_false, un_not, l1, l2, h3, h4, g3, g4]; first | done | (with_reducible exact rfl) | (with_reducible exact ⟨rfl, rfl⟩))) ?_
        | refine oT ?_
        | refine oN ?_
        | refine oX ?_
        | refine oXn ?_
        | refine oXr ?_
        | exact oF (finV_bool ..)
        | apply oK
        | refine lT ?_
        | refine lN ?_
        | refine lX ?_
        | refine lXn ?_
        | refine lXr ?_
        | apply lK
        | refine oI ?_
        | refine oJ rfl ?_
        | refine lI ?_
        | refine lJ rfl ?_
        | (with_reducible exact rfl)
      exact h
    · simp only [decide_eq_true h1] at l1
      simp only [decide_eq_false (Int.not_lt.2 g1)] at l2
      repeat first
        | refine oB (by first | (with_reducible exact rfl) | (simp only [pu_val, nth_zero, nth_succ, gd_tt, gd_ff, gd_tf, gd_ft, gd_no, pickA_true, pickA_false, un_not, l1, l2, h3, h4, g3]; first | done | (with_reducible exact rfl) | (with_reducible exact ⟨rfl, rfl⟩))) ?_
        | refine lB (by first | (with_reducible exact rfl) | (simp only [pu_val, nth_zero, nth_succ, gd_tt, gd_ff, gd_tf, gd_ft, gd_no, pickA_true, pickA_false, un_not, l1, l2, h3, h4, g3]; first | done | (with_reducible exact rfl) | (with_reducible exact ⟨rfl, rfl⟩))) ?_
        | refine oT ?_
        | refine oN ?_
        | refine oX ?_
        | refine oXn ?_
        | refine oXr ?_
        | exact oF (finV_bool ..)
        | apply oK
        | refine lT ?_
        | refine lN ?_
        | refine lX ?_
        | refine lXn ?_
        | refine lXr ?_
        | apply lK
        | refine oI ?_
        | refine oJ rfl ?_
        | refine lI ?_
        | refine lJ rfl ?_
        | (with_reducible exact rfl)
      exact h
    · simp only [decide_eq_false (Int.not_lt.2 h1)] at l1
      simp only [decide_eq_true g1] at l2
      repeat first
        | refine oB (by first | (with_reducible exact rfl) | (simp only [pu_val, nth_zero, nth_succ, gd_tt, gd_ff, gd_tf, gd_ft, gd_no, pickA_true, pickA_false, un_not, l1, l2, h3, g3, g4]; first | done | (with_reducible exact rfl) | (with_reducible exact ⟨rfl, rfl⟩))) ?_
        | refine lB (by first | (with_reducible exact rfl) | (simp only [pu_val, nth_zero, nth_succ, gd_tt, gd_ff, gd_tf, gd_ft, gd_no, pickA_true, pickA_false, un_not, l1, l2, h3, g3, g4]; first | done | (with_reducible exact rfl) | (with_reducible exact ⟨rfl, rfl⟩))) ?_
        | refine oT ?_
        | refine oN ?_
        | refine oX ?_
        | refine oXn ?_
        | refine oXr ?_
        | exact oF (finV_bool ..)
        | apply oK
        | refine lT ?_
        | refine lN ?_
        | refine lX ?_
        | refine lXn ?_
        | refine lXr ?_
        | apply lK
        | refine oI ?_
        | refine oJ rfl ?_
        | refine lI ?_
        | refine lJ rfl ?_
        | (with_reducible exact rfl)
      exact h
    · simp only [decide_eq_false (Int.not_lt.2 h1)] at l1
      simp only [decide_eq_false (Int.not_lt.2 g1)] at l2
      repeat first
        | refine oB (by first | (with_reducible exact rfl) | (simp only [pu_val, nth_zero, nth_succ, gd_tt, gd_ff, gd_tf, gd_ft, gd_no, pickA_true, pickA_false, un_not, l1, l2, h3, g3]; first | done | (with_reducible exact rfl) | (with_reducible exact ⟨rfl, rfl⟩))) ?_
        | refine lB (by first | (with_reducible exact rfl) | (simp only [pu_val, nth_zero, nth_succ, gd_tt, gd_ff, gd_tf, gd_ft, gd_no, pickA_true, pickA_false, un_not, l1, l2, h3, g3]; first | done | (with_reducible exact rfl) | (with_reducible exact ⟨rfl, rfl⟩))) ?_
        | refine oT ?_
        | refine oN ?_
        | refine oX ?_
        | refine oXn ?_
        | refine oXr ?_
        | exact oF (finV_bool ..)
        | apply oK
        | refine lT ?_
        | refine lN ?_
        | refine lX ?_
        | refine lXn ?_
        | refine lXr ?_
        | apply lK
        | refine oI ?_
        | refine oJ rfl ?_
        | refine lI ?_
        | refine lJ rfl ?_
        | (with_reducible exact rfl)
      exact h
  have ex0 : ∀ x y : AV, extractA (.tup [x, y]) 0 = some x := fun _ _ => rfl
  have ex1 : ∀ x y : AV, extractA (.tup [x, y]) 1 = some y := fun _ _ => rfl
  by_cases hhi : P / 18446744073709551616 ≠ 0
  · simp only [decide_eq_true hhi] at c1
    have e : numB (a * b) = false := by
      refine decide_eq_false ?_
      cases s
      · rw [hs2 rfl]; omega
      · rw [hs1 rfl]; omega
    rw [e]
    refine ⟨0, go _ ?_, by simp⟩
    repeat first
      | refine oB (by first | (with_reducible exact rfl) | (simp only [pu_val, nth_zero, nth_succ, gd_tt, gd_ff, gd_tf, gd_ft, gd_no, pickA_true, pickA_false, un_not, m, ex0, ex1, c1]; first | done | (with_reducible exact rfl) | (with_reducible exact ⟨rfl, rfl⟩))) ?_
      | refine lB (by first | (with_reducible exact rfl) | (simp only [pu_val, nth_zero, nth_succ, gd_tt, gd_ff, gd_tf, gd_ft, gd_no, pickA_true, pickA_false, un_not, m, ex0, ex1, c1]; first | done | (with_reducible exact rfl) | (with_reducible exact ⟨rfl, rfl⟩))) ?_
      | refine oT ?_
      | refine oN ?_
      | refine oX ?_
      | refine oXn ?_
      | refine oXr ?_
      | exact oF (finV_bool ..)
      | apply oK
      | refine lT ?_
      | refine lN ?_
      | refine lX ?_
      | refine lXn ?_
      | refine lXr ?_
      | apply lK
      | refine oI ?_
      | refine oJ rfl ?_
      | refine lI ?_
      | refine lJ rfl ?_
      | (with_reducible exact rfl)
    exact oF (finV_pair ..)
  · simp only [decide_eq_false hhi] at c1
    have hlo : P % 18446744073709551616 = P := Nat.mod_eq_of_lt (by omega)
    rw [hlo] at m
    have c3 := nb (decide (a < 0)) (decide (b < 0))
    rw [hs3] at c3
    have c5 : bin Try.prog .lss 46 true (Un P) (.int .u64 9223372036854775808) = some (.bool (decide (P < 9223372036854775808))) := by
      have hiff : ((P : Int) < 9223372036854775808) ↔ (P < 9223372036854775808) := by omega
      rw [bin_lss, decide_eq_decide.2 hiff]
    cases s
    · have e : numB (a * b) = decide (P < 9223372036854775808) := by
        rw [hs2 rfl]; exact decide_eq_decide.2 (by omega)
      rw [e]
      have c6 : convInt .i64 (Un P) = some (I (IntKind.i64.wrap (P : Int))) := convInt_int ..
      refine ⟨IntKind.i64.wrap (P : Int), go _ ?_, fun h => ?_⟩
      · repeat first
          | refine oB (by first | (with_reducible exact rfl) | (simp only [pu_val, nth_zero, nth_succ, gd_tt, gd_ff, gd_tf, gd_ft, gd_no, pickA_true, pickA_false, un_not, m, ex0, ex1, c1, l1, l2, c3, c5, c6]; first | done | (with_reducible exact rfl) | (with_reducible exact ⟨rfl, rfl⟩))) ?_
          | refine lB (by first | (with_reducible exact rfl) | (simp only [pu_val, nth_zero, nth_succ, gd_tt, gd_ff, gd_tf, gd_ft, gd_no, pickA_true, pickA_false, un_not, m, ex0, ex1, c1, l1, l2, c3, c5, c6]; first | done | (with_reducible exact rfl) | (with_reducible exact ⟨rfl, rfl⟩))) ?_
          | refine oT ?_
          | refine oN ?_
          | refine oX ?_
          | refine oXn ?_
          | refine oXr ?_
          | exact oF (finV_bool ..)
          | apply oK
          | refine lT ?_
          | refine lN ?_
          | refine lX ?_
          | refine lXn ?_
          | refine lXr ?_
          | apply lK
          | refine oI ?_
          | refine oJ rfl ?_
          | refine lI ?_
          | refine lJ rfl ?_
          | (with_reducible exact rfl)
        exact oF (finV_pair ..)
      · have := of_decide_eq_true h
        rw [hs2 rfl]; exact wrap_of_i64 (by omega) (by omega)
    · by_cases hmin : P = 9223372036854775808
      · have e : numB (a * b) = true := by rw [hs1 rfl, hmin]; rfl
        rw [e]
        have c7 : bin Try.prog .eql 46 true (Un P) (.int .u64 9223372036854775808) = some (.bool true) := by
          rw [bin_eql, hmin]; rfl
        refine ⟨-9223372036854775808, go _ ?_, fun _ => by rw [hs1 rfl, hmin]; rfl⟩
        repeat first
          | refine oB (by first | (with_reducible exact rfl) | (simp only [pu_val, nth_zero, nth_succ, gd_tt, gd_ff, gd_tf, gd_ft, gd_no, pickA_true, pickA_false, un_not, m, ex0, ex1, c1, l1, l2, c3, c7]; first | done | (with_reducible exact rfl) | (with_reducible exact ⟨rfl, rfl⟩))) ?_
          | refine lB (by first | (with_reducible exact rfl) | (simp only [pu_val, nth_zero, nth_succ, gd_tt, gd_ff, gd_tf, gd_ft, gd_no, pickA_true, pickA_false, un_not, m, ex0, ex1, c1, l1, l2, c3, c7]; first | done | (with_reducible exact rfl) | (with_reducible exact ⟨rfl, rfl⟩))) ?_
          | refine oT ?_
          | refine oN ?_
          | refine oX ?_
          | refine oXn ?_
          | refine oXr ?_
          | exact oF (finV_bool ..)
          | apply oK
          | refine lT ?_
          | refine lN ?_
          | refine lX ?_
          | refine lXn ?_
          | refine lXr ?_
          | apply lK
          | refine oI ?_
          | refine oJ rfl ?_
          | refine lI ?_
          | refine lJ rfl ?_
          | (with_reducible exact rfl)
        exact oF (finV_pair ..)
      · have e : numB (a * b) = decide (P < 9223372036854775808) := by
          rw [hs1 rfl]; exact decide_eq_decide.2 (by omega)
        rw [e]
        have c7 : bin Try.prog .eql 46 true (Un P) (.int .u64 9223372036854775808) = some (.bool false) := by
          rw [bin_eql, decide_eq_false (by omega)]
        have c8 : bin Try.prog .and 46 true (Un P) (.int .u64 9223372036854775807) = some (Un (P % 9223372036854775808)) := by
          have := u64_and_nat P 9223372036854775807 (by omega) (by decide)
          rw [bin_and]; rw [show ((9223372036854775807 : Nat) : Int) = 9223372036854775807 from rfl] at this
          rw [this]; congr 3; exact Nat.and_two_pow_sub_one_eq_mod P 63
        have hml : P % 9223372036854775808 < 9223372036854775808 := Nat.mod_lt _ (by decide)
        have c9 : convInt .i64 (Un (P % 9223372036854775808)) = some (I ((P % 9223372036854775808 : Nat) : Int)) := by
          rw [convInt_int, wrap_of_i64 (by omega) (by omega)]
        obtain ⟨Z, hZ⟩ : ∃ Z : Int, Z = -((P % 9223372036854775808 : Nat) : Int) := ⟨_, rfl⟩
        have c10 : un .neg (I ((P % 9223372036854775808 : Nat) : Int)) = some (I Z) := by
          simp only [un]; rw [wrap_of_i64 (by omega) (by omega), hZ]; congr 2; omega
        obtain ⟨q, hq⟩ : ∃ q, q = decide (P < 9223372036854775808) := ⟨_, rfl⟩
        have hZ2' := hZ
        have hZ2 : q = true → Z = a * b := fun h => by
          rw [hq] at h
          have h' := of_decide_eq_true h
          rw [hs1 rfl, hZ, Nat.mod_eq_of_lt h']
        rw [← hq] at c5 ⊢
        obtain ⟨R, hR⟩ : ∃ R, R = P % 9223372036854775808 := ⟨_, rfl⟩
        rw [← hR] at c8 c9 c10
        clear hR hq hZ hZ2'
        have c11 : ∀ H, pureCall (alembicref17_cut.f G (k + 9)) [I Z, .bool q] H = _ := fun H => pureCall_of (H := H) (rcut_spec G (k + 8) _ _) rfl rfl
        refine ⟨if q = true then Z else 0, go _ ?_, fun h => by rw [if_pos h]; exact hZ2 h⟩
        refine oB (m _) ?_
        refine oB (by rw [ex0]; exact pu_val ..) ?_
        refine oB (by rw [ex1]; exact pu_val ..) ?_
        refine oB (by rw [c1]; exact pu_val ..) ?_
        refine oN ?_
        refine oB (by rw [l1]; exact pu_val ..) ?_
        refine oB (by rw [l2]; exact pu_val ..) ?_
        refine oB (by rw [c3]; exact pu_val ..) ?_
        refine oT ?_
        refine oB (by rw [c7]; exact pu_val ..) ?_
        refine oN ?_
        refine oB (by rw [c8]; exact pu_val ..) ?_
        refine oB (by rw [c9]; exact pu_val ..) ?_
        refine oB (by rw [c10]; exact pu_val ..) ?_
        refine oB (by rw [c5]; exact pu_val ..) ?_
        refine oB (c11 _) ?_
        refine oB (by rw [ex0]; exact pu_val ..) ?_
        refine oB (by rw [ex1]; exact pu_val ..) ?_
        exact oF (finV_pair ..)
end Go.Proofs.Ytemkaggjbhpbbaa.Mir
