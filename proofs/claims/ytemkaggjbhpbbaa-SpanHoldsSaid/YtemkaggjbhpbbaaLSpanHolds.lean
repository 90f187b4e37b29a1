/- The law of SpanHolds, in plain Lean. -/
import Derived.Test.YtemkaggjbhpbbaaMirY
import Derived.Test.YtemkaggjbhpbbaaPc
namespace Go.Proofs.Ytemkaggjbhpbbaa
open Go Mir
set_option linter.unusedVariables false
set_option linter.unusedSimpArgs false

theorem mul_between {a b x : Int} (h1 : a ≤ x) (h2 : x ≤ b) (y : Int) : min (a * y) (b * y) ≤ x * y ∧ x * y ≤ max (a * y) (b * y) := by
  rcases Int.le_total 0 y with h | h
  · have e1 := Int.mul_le_mul_of_nonneg_right h1 h
    have e2 := Int.mul_le_mul_of_nonneg_right h2 h
    omega
  · have e1 := Int.mul_le_mul_of_nonpos_right h1 h
    have e2 := Int.mul_le_mul_of_nonpos_right h2 h
    omega
theorem mul_corners {a b x c d y : Int} (h1 : a ≤ x) (h2 : x ≤ b) (h3 : c ≤ y) (h4 : y ≤ d) :
    min (a * c) (min (a * d) (min (b * c) (b * d))) ≤ x * y ∧ x * y ≤ max (a * c) (max (a * d) (max (b * c) (b * d))) := by
  have e1 := mul_between h1 h2 y
  have e2 := mul_between h3 h4 a
  have e3 := mul_between h3 h4 b
  rw [Int.mul_comm c a, Int.mul_comm d a, Int.mul_comm y a] at e2
  rw [Int.mul_comm c b, Int.mul_comm d b, Int.mul_comm y b] at e3
  omega
theorem mul_small {a b : Int} (h1 : -1073741824 ≤ a) (h2 : a ≤ 1073741824) (h3 : -1073741824 ≤ b) (h4 : b ≤ 1073741824) : -1152921504606846976 ≤ a * b ∧ a * b ≤ 1152921504606846976 := by
  have := mul_corners h1 h2 h3 h4
  omega
theorem and_left {x y : Int} (h0 : 0 ≤ x) (h1 : x < 9223372036854775808) : 0 ≤ bits .and .i64 x y ∧ bits .and .i64 x y ≤ x := by
  obtain ⟨X, rfl⟩ := Int.eq_ofNat_of_zero_le h0
  have hle : (BitVec.ofInt 64 (X : Int) &&& BitVec.ofInt 64 y).toNat ≤ X := by
    rw [BitVec.toNat_and, ofInt_u64 X (by omega)]; exact Nat.and_le_left
  have e : bits .and .i64 (X : Int) y = ((BitVec.ofInt 64 (X : Int) &&& BitVec.ofInt 64 y).toNat : Int) := by
    show IntKind.i64.wrap ((BitVec.ofInt 64 (X : Int) &&& BitVec.ofInt 64 y).toNat : Int) = _
    rw [wrap_of_i64 (by omega) (by omega)]
  rw [e]; omega
theorem and_right {x y : Int} (h0 : 0 ≤ y) (h1 : y < 9223372036854775808) : 0 ≤ bits .and .i64 x y ∧ bits .and .i64 x y ≤ y := by
  obtain ⟨Y, rfl⟩ := Int.eq_ofNat_of_zero_le h0
  have hle : (BitVec.ofInt 64 x &&& BitVec.ofInt 64 (Y : Int)).toNat ≤ Y := by
    rw [BitVec.toNat_and, ofInt_u64 Y (by omega)]; exact Nat.and_le_right
  have e : bits .and .i64 x (Y : Int) = ((BitVec.ofInt 64 x &&& BitVec.ofInt 64 (Y : Int)).toNat : Int) := by
    show IntKind.i64.wrap ((BitVec.ofInt 64 x &&& BitVec.ofInt 64 (Y : Int)).toNat : Int) = _
    rw [wrap_of_i64 (by omega) (by omega)]
  rw [e]; omega
theorem and_any (x y : Int) : -9223372036854775808 ≤ bits .and .i64 x y ∧ bits .and .i64 x y < 9223372036854775808 := wrap_i64_rg _

theorem numB_of {n : Int} (h1 : -9223372036854775808 ≤ n) (h2 : n < 9223372036854775808) : numB n = true := decide_eq_true ⟨h1, h2⟩

theorem min2'' {a b r : Int} (h : r = min a b) : foldA min2A (I a) [I b] = some (I r) := by rw [h]; exact min2' a b
theorem max2'' {a b r : Int} (h : r = max a b) : foldA max2A (I a) [I b] = some (I r) := by rw [h]; exact max_two _ a b

theorem hasC (G : Globs) {a b n : Int} (h : a ≤ n ∧ n ≤ b) (H : AHeap) : pureCall (span_Has.f G 60) [Sp a b, I n] H = some (.bool true, H) := by
  refine pureCall_of ((has_spec G 59 a b n).trans ?_) rfl rfl
  rw [decide_eq_true h.1, decide_eq_true h.2]; rfl
theorem hasN (G : Globs) {a b n : Int} (h : n < a ∨ b < n) (H : AHeap) : pureCall (span_Has.f G 60) [Sp a b, I n] H = some (.bool false, H) := by
  refine pureCall_of ((has_spec G 59 a b n).trans ?_) rfl rfl
  rcases h with h | h
  · rw [decide_eq_false (by omega)]; rfl
  · rw [decide_eq_false (show ¬ n ≤ b by omega), Bool.and_false]

set_option maxRecDepth 100000 in
set_option maxHeartbeats 4000000 in
theorem LSpanHolds.law (xs : List AV) (h : IsTs Try.prog [2, 2, 2, 2, 3, 3, 3] xs) : ∃ k, alembiclaw16_SpanHolds.f (sentG 0 []) k xs [] = some (.bool true, []) := by
  obtain ⟨x1, _, rfl, hx1, h⟩ := h.uncons
  obtain ⟨x2, _, rfl, hx2, h⟩ := h.uncons
  obtain ⟨x3, _, rfl, hx3, h⟩ := h.uncons
  obtain ⟨x4, _, rfl, hx4, h⟩ := h.uncons
  obtain ⟨x5, _, rfl, hx5, h⟩ := h.uncons
  obtain ⟨x6, _, rfl, hx6, h⟩ := h.uncons
  obtain ⟨x7, _, rfl, hx7, h⟩ := h.uncons
  obtain rfl := h.unnil
  obtain ⟨a, rfl, ha⟩ := hx1.of_int Try.underlying2
  obtain ⟨b, rfl, hb⟩ := hx2.of_int Try.underlying2
  obtain ⟨c, rfl, hc⟩ := hx3.of_int Try.underlying2
  obtain ⟨d, rfl, hd⟩ := hx4.of_int Try.underlying2
  obtain ⟨i, rfl, hi⟩ := hx5.of_int Try.underlying3
  obtain ⟨j, rfl, hj⟩ := hx6.of_int Try.underlying3
  obtain ⟨k, rfl, hk⟩ := hx7.of_int Try.underlying3
  replace ha := wf_i64 ha
  replace hb := wf_i64 hb
  replace hc := wf_i64 hc
  replace hd := wf_i64 hd
  replace hi := wf_i64 hi
  replace hj := wf_i64 hj
  replace hk := wf_i64 hk
  clear h hx1 hx2 hx3 hx4 hx5 hx6 hx7
  refine ⟨61, ?_⟩
  generalize sentG 0 [] = G
  have hf : ∀ H, pureCall (alembiclaw16_first.f G 60) [] H = _ := fun H => pureCall_of (H := H) (first_ok G 30) rfl rfl
  obtain ⟨p, hp⟩ : ∃ p, p = min a b := ⟨_, rfl⟩
  obtain ⟨q, hq⟩ : ∃ q, q = max a b := ⟨_, rfl⟩
  obtain ⟨s, hs⟩ : ∃ s, s = min c d := ⟨_, rfl⟩
  obtain ⟨t, ht⟩ : ∃ t, t = max c d := ⟨_, rfl⟩
  have m1 := min2'' hp
  have m2 := max2'' hq
  have m3 := min2'' hs
  have m4 := max2'' ht
  have g1 : bin Try.prog .lss 2 true (I p) (.int .i64 (-1073741824)) = some (.bool (decide (p < -1073741824))) := bin_lss ..
  have g2 : bin Try.prog .gtr 2 true (I q) (.int .i64 1073741824) = some (.bool (decide (1073741824 < q))) := bin_gtr ..
  have g3 : bin Try.prog .lss 2 true (I s) (.int .i64 (-1073741824)) = some (.bool (decide (s < -1073741824))) := bin_lss ..
  have g4 : bin Try.prog .gtr 2 true (I t) (.int .i64 1073741824) = some (.bool (decide (1073741824 < t))) := bin_gtr ..
  rw [alembiclaw16_SpanHolds.step]
  unfold alembiclaw16_SpanHolds.c
  by_cases h1 : p < -1073741824
  · simp only [decide_eq_true h1] at g1
    repeat first
      | refine oB (by first | (with_reducible exact rfl) | ((first | (simp only [pu_val, nth_zero, nth_succ, gd_tt, gd_ff, gd_tf, gd_ft, gd_no, pickA_true, pickA_false, un_not, hf, m1, m2, m3, m4, g1, Bool.not_true]; first | done | (with_reducible exact rfl) | (with_reducible exact ⟨rfl, rfl⟩)) | simp [pu_val, boxRoA, boxA, fieldAddrV, loadV, loadC, storable, AV.cells, extractA, buildRo, buildOwn, fillE, buildSt, fillA, stS, storeV, recell, putC, lenSl, lenStr, idxAddrSl, idxAddrArr, allSome]); first | done | (with_reducible exact rfl) | (with_reducible exact ⟨rfl, rfl⟩))) ?_
      | refine lB (by first | (with_reducible exact rfl) | ((first | (simp only [pu_val, nth_zero, nth_succ, gd_tt, gd_ff, gd_tf, gd_ft, gd_no, pickA_true, pickA_false, un_not, hf, m1, m2, m3, m4, g1, Bool.not_true]; first | done | (with_reducible exact rfl) | (with_reducible exact ⟨rfl, rfl⟩)) | simp [pu_val, boxRoA, boxA, fieldAddrV, loadV, loadC, storable, AV.cells, extractA, buildRo, buildOwn, fillE, buildSt, fillA, stS, storeV, recell, putC, lenSl, lenStr, idxAddrSl, idxAddrArr, allSome]); first | done | (with_reducible exact rfl) | (with_reducible exact ⟨rfl, rfl⟩))) ?_
      | refine oT ?_
      | refine oN ?_
      | refine oX ?_
      | refine oXn ?_
      | refine oXr ?_
      | exact oF (finV_bool ..)
      | apply oK
      | refine lT ?_
      | refine lN ?_
      | refine lX ?_
      | refine lXn ?_
      | refine lXr ?_
      | apply lK
      | refine oI ?_
      | refine oJ rfl ?_
      | refine lI ?_
      | refine lJ rfl ?_
      | (with_reducible exact rfl)
  simp only [decide_eq_false h1] at g1
  by_cases h2 : 1073741824 < q
  · simp only [decide_eq_true h2] at g2
    repeat first
      | refine oB (by first | (with_reducible exact rfl) | ((first | (simp only [pu_val, nth_zero, nth_succ, gd_tt, gd_ff, gd_tf, gd_ft, gd_no, pickA_true, pickA_false, un_not, hf, m1, m2, m3, m4, g1, g2, Bool.not_true]; first | done | (with_reducible exact rfl) | (with_reducible exact ⟨rfl, rfl⟩)) | simp [pu_val, boxRoA, boxA, fieldAddrV, loadV, loadC, storable, AV.cells, extractA, buildRo, buildOwn, fillE, buildSt, fillA, stS, storeV, recell, putC, lenSl, lenStr, idxAddrSl, idxAddrArr, allSome]); first | done | (with_reducible exact rfl) | (with_reducible exact ⟨rfl, rfl⟩))) ?_
      | refine lB (by first | (with_reducible exact rfl) | ((first | (simp only [pu_val, nth_zero, nth_succ, gd_tt, gd_ff, gd_tf, gd_ft, gd_no, pickA_true, pickA_false, un_not, hf, m1, m2, m3, m4, g1, g2, Bool.not_true]; first | done | (with_reducible exact rfl) | (with_reducible exact ⟨rfl, rfl⟩)) | simp [pu_val, boxRoA, boxA, fieldAddrV, loadV, loadC, storable, AV.cells, extractA, buildRo, buildOwn, fillE, buildSt, fillA, stS, storeV, recell, putC, lenSl, lenStr, idxAddrSl, idxAddrArr, allSome]); first | done | (with_reducible exact rfl) | (with_reducible exact ⟨rfl, rfl⟩))) ?_
      | refine oT ?_
      | refine oN ?_
      | refine oX ?_
      | refine oXn ?_
      | refine oXr ?_
      | exact oF (finV_bool ..)
      | apply oK
      | refine lT ?_
      | refine lN ?_
      | refine lX ?_
      | refine lXn ?_
      | refine lXr ?_
      | apply lK
      | refine oI ?_
      | refine oJ rfl ?_
      | refine lI ?_
      | refine lJ rfl ?_
      | (with_reducible exact rfl)
  simp only [decide_eq_false h2] at g2
  by_cases h3 : s < -1073741824
  · simp only [decide_eq_true h3] at g3
    repeat first
      | refine oB (by first | (with_reducible exact rfl) | ((first | (simp only [pu_val, nth_zero, nth_succ, gd_tt, gd_ff, gd_tf, gd_ft, gd_no, pickA_true, pickA_false, un_not, hf, m1, m2, m3, m4, g1, g2, g3, Bool.not_true]; first | done | (with_reducible exact rfl) | (with_reducible exact ⟨rfl, rfl⟩)) | simp [pu_val, boxRoA, boxA, fieldAddrV, loadV, loadC, storable, AV.cells, extractA, buildRo, buildOwn, fillE, buildSt, fillA, stS, storeV, recell, putC, lenSl, lenStr, idxAddrSl, idxAddrArr, allSome]); first | done | (with_reducible exact rfl) | (with_reducible exact ⟨rfl, rfl⟩))) ?_
      | refine lB (by first | (with_reducible exact rfl) | ((first | (simp only [pu_val, nth_zero, nth_succ, gd_tt, gd_ff, gd_tf, gd_ft, gd_no, pickA_true, pickA_false, un_not, hf, m1, m2, m3, m4, g1, g2, g3, Bool.not_true]; first | done | (with_reducible exact rfl) | (with_reducible exact ⟨rfl, rfl⟩)) | simp [pu_val, boxRoA, boxA, fieldAddrV, loadV, loadC, storable, AV.cells, extractA, buildRo, buildOwn, fillE, buildSt, fillA, stS, storeV, recell, putC, lenSl, lenStr, idxAddrSl, idxAddrArr, allSome]); first | done | (with_reducible exact rfl) | (with_reducible exact ⟨rfl, rfl⟩))) ?_
      | refine oT ?_
      | refine oN ?_
      | refine oX ?_
      | refine oXn ?_
      | refine oXr ?_
      | exact oF (finV_bool ..)
      | apply oK
      | refine lT ?_
      | refine lN ?_
      | refine lX ?_
      | refine lXn ?_
      | refine lXr ?_
      | apply lK
      | refine oI ?_
      | refine oJ rfl ?_
      | refine lI ?_
      | refine lJ rfl ?_
      | (with_reducible exact rfl)
  simp only [decide_eq_false h3] at g3
  by_cases h4 : 1073741824 < t
  · simp only [decide_eq_true h4] at g4
    repeat first
      | refine oB (by first | (with_reducible exact rfl) | ((first | (simp only [pu_val, nth_zero, nth_succ, gd_tt, gd_ff, gd_tf, gd_ft, gd_no, pickA_true, pickA_false, un_not, hf, m1, m2, m3, m4, g1, g2, g3, g4, Bool.not_true]; first | done | (with_reducible exact rfl) | (with_reducible exact ⟨rfl, rfl⟩)) | simp [pu_val, boxRoA, boxA, fieldAddrV, loadV, loadC, storable, AV.cells, extractA, buildRo, buildOwn, fillE, buildSt, fillA, stS, storeV, recell, putC, lenSl, lenStr, idxAddrSl, idxAddrArr, allSome]); first | done | (with_reducible exact rfl) | (with_reducible exact ⟨rfl, rfl⟩))) ?_
      | refine lB (by first | (with_reducible exact rfl) | ((first | (simp only [pu_val, nth_zero, nth_succ, gd_tt, gd_ff, gd_tf, gd_ft, gd_no, pickA_true, pickA_false, un_not, hf, m1, m2, m3, m4, g1, g2, g3, g4, Bool.not_true]; first | done | (with_reducible exact rfl) | (with_reducible exact ⟨rfl, rfl⟩)) | simp [pu_val, boxRoA, boxA, fieldAddrV, loadV, loadC, storable, AV.cells, extractA, buildRo, buildOwn, fillE, buildSt, fillA, stS, storeV, recell, putC, lenSl, lenStr, idxAddrSl, idxAddrArr, allSome]); first | done | (with_reducible exact rfl) | (with_reducible exact ⟨rfl, rfl⟩))) ?_
      | refine oT ?_
      | refine oN ?_
      | refine oX ?_
      | refine oXn ?_
      | refine oXr ?_
      | exact oF (finV_bool ..)
      | apply oK
      | refine lT ?_
      | refine lN ?_
      | refine lX ?_
      | refine lXn ?_
      | refine lXr ?_
      | apply lK
      | refine oI ?_
      | refine oJ rfl ?_
      | refine lI ?_
      | refine lJ rfl ?_
      | (with_reducible exact rfl)
  simp only [decide_eq_false h4] at g4
  have hpq : p ≤ q := by omega
  have hst : s ≤ t := by omega
  clear hp hq hs ht ha hb hc hd
  -- the numbers
  have n1 : bin Try.prog .sub 2 false (I q) (I p) = some (I (q - p)) := by rw [bin_sub, wrap_of_i64 (by omega) (by omega)]
  have n2 : bin Try.prog .add 3 true (I (q - p)) (.int .i64 1) = some (I (q - p + 1)) := by rw [bin_add, wrap_of_i64 (by omega) (by omega)]
  have n3 : ∀ H, pureCall (alembicworld_Number.f G 60) [.int .i64 i, I (q - p + 1)] H = some (.int .i64 (i % (q - p + 1)), H) := fun H =>
    pureCall_of (number G 59 i (q - p + 1) (by omega) (by omega) hi.1 hi.2) rfl rfl
  have b1 := Int.emod_lt_of_pos i (show (0 : Int) < q - p + 1 by omega)
  have b2 := Int.emod_nonneg i (show (q - p + 1) ≠ 0 by omega)
  obtain ⟨x, hx⟩ : ∃ x, x = p + i % (q - p + 1) := ⟨_, rfl⟩
  have n4 : bin Try.prog .add 2 false (I p) (.int .i64 (i % (q - p + 1))) = some (I x) := by rw [bin_add, wrap_of_i64 (by omega) (by omega), hx]
  have hx1 : p ≤ x := by omega
  have hx2 : x ≤ q := by omega
  have n5 : bin Try.prog .sub 2 false (I t) (I s) = some (I (t - s)) := by rw [bin_sub, wrap_of_i64 (by omega) (by omega)]
  have n6 : bin Try.prog .add 3 true (I (t - s)) (.int .i64 1) = some (I (t - s + 1)) := by rw [bin_add, wrap_of_i64 (by omega) (by omega)]
  have n7 : ∀ H, pureCall (alembicworld_Number.f G 60) [.int .i64 j, I (t - s + 1)] H = some (.int .i64 (j % (t - s + 1)), H) := fun H =>
    pureCall_of (number G 59 j (t - s + 1) (by omega) (by omega) hj.1 hj.2) rfl rfl
  have b3 := Int.emod_lt_of_pos j (show (0 : Int) < t - s + 1 by omega)
  have b4 := Int.emod_nonneg j (show (t - s + 1) ≠ 0 by omega)
  obtain ⟨y, hy⟩ : ∃ y, y = s + j % (t - s + 1) := ⟨_, rfl⟩
  have n8 : bin Try.prog .add 2 false (I s) (.int .i64 (j % (t - s + 1))) = some (I y) := by rw [bin_add, wrap_of_i64 (by omega) (by omega), hy]
  have hy1 : s ≤ y := by omega
  have hy2 : y ≤ t := by omega
  obtain ⟨n, hn⟩ : ∃ n : Nat, k % 30 = (n : Int) := ⟨(k % 30).toNat, by omega⟩
  have hn30 : n < 30 := by omega
  have n9 : ∀ H, pureCall (alembicworld_Number.f G 60) [.int .i64 k, .int .i64 30] H = some (.int .i64 (n : Int), H) := fun H => by
    rw [← hn]; exact pureCall_of (number G 59 k 30 (by decide) (by decide) hk.1 hk.2) rfl rfl
  clear hx hy hi hj hk b1 b2 b3 b4
  -- what the spans are
  have rp : Rg p := ⟨by omega, by omega⟩
  have rq : Rg q := ⟨by omega, by omega⟩
  have rs : Rg s := ⟨by omega, by omega⟩
  have rt : Rg t := ⟨by omega, by omega⟩
  have dpq := decide_eq_true hpq
  have dst := decide_eq_true hst
  have spt : ∀ lo hi, spanS true lo hi = .tup [Sp lo hi, .bool true] := fun _ _ => rfl
  have a1 : ∀ H, pureCall (span_Add.f G 60) [Sp p q, Sp s t] H = some (.tup [Sp (p + s) (q + t), .bool true], H) := fun H => by
    have := add_spec G 40 p q s t rp rq rs rt
    rw [dpq, dst, numB_of (n := p + s) (by omega) (by omega), numB_of (n := q + t) (by omega) (by omega)] at this
    exact pureCall_of this rfl rfl
  have a2 : ∀ H, pureCall (span_Sub.f G 60) [Sp p q, Sp s t] H = some (.tup [Sp (p - t) (q - s), .bool true], H) := fun H => by
    have := sub_spec G 40 p q s t rp rq rs rt
    rw [dpq, dst, numB_of (n := p - t) (by omega) (by omega), numB_of (n := q - s) (by omega) (by omega)] at this
    exact pureCall_of this rfl rfl
  have z1 := mul_small (a := p) (b := s) (by omega) (by omega) (by omega) (by omega)
  have z2 := mul_small (a := p) (b := t) (by omega) (by omega) (by omega) (by omega)
  have z3 := mul_small (a := q) (b := s) (by omega) (by omega) (by omega) (by omega)
  have z4 := mul_small (a := q) (b := t) (by omega) (by omega) (by omega) (by omega)
  have z5 := mul_small (a := x) (b := y) (by omega) (by omega) (by omega) (by omega)
  have z6 := mul_corners hx1 hx2 hy1 hy2
  obtain ⟨lo, hlo⟩ : ∃ z, z = min (p * s) (min (p * t) (min (q * s) (q * t))) := ⟨_, rfl⟩
  obtain ⟨hi, hhi⟩ : ∃ z, z = max (p * s) (max (p * t) (max (q * s) (q * t))) := ⟨_, rfl⟩
  have a3 : ∀ H, pureCall (span_Mul.f G 60) [Sp p q, Sp s t] H = some (.tup [Sp lo hi, .bool true], H) := fun H => by
    have := mul_spec G 40 p q s t rp rq rs rt
    rw [dpq, dst, numB_of (n := p * s) (by omega) (by omega), numB_of (n := p * t) (by omega) (by omega), numB_of (n := q * s) (by omega) (by omega), numB_of (n := q * t) (by omega) (by omega), ← hlo, ← hhi] at this
    exact pureCall_of this rfl rfl
  rw [← hlo, ← hhi] at z6
  obtain ⟨e1, e2, e3⟩ := pow62 n (by omega)
  have e30 : (2 : Int) ^ n ≤ 536870912 := by
    have : 2 ^ n ≤ 2 ^ 29 := Nat.pow_le_pow_right (by decide) (by omega)
    rw [e1]; omega
  obtain ⟨w, hw⟩ : ∃ w : Int, w = 2 ^ n := ⟨_, rfl⟩
  rw [← hw] at e1 e2 e3 e30
  have y1 := mul_small (a := p) (b := w) (by omega) (by omega) (by omega) (by omega)
  have y2 := mul_small (a := q) (b := w) (by omega) (by omega) (by omega) (by omega)
  have y3 : p * w ≤ x * w := Int.mul_le_mul_of_nonneg_right hx1 (by omega)
  have y4 : x * w ≤ q * w := Int.mul_le_mul_of_nonneg_right hx2 (by omega)
  have a4 : ∀ H, pureCall (span_Shl.f G 60) [Sp p q, .int .i64 (n : Int)] H = some (.tup [Sp (p * w) (q * w), .bool true], H) := fun H => by
    have := shl_spec G 30 p q (n : Int) rp rq
    unfold shlV at this
    rw [if_neg (by omega), Int.toNat_natCast, ← hw, dpq, numB_of (n := p * w) (by omega) (by omega), numB_of (n := q * w) (by omega) (by omega)] at this
    exact pureCall_of this rfl rfl
  have a5 : ∀ H, pureCall (span_Sar.f G 60) [Sp p q, .int .i64 (n : Int)] H = some (Sp (p.fdiv w) (q.fdiv w), H) := fun H => by
    have := sar_spec G 30 p q (n : Int)
    unfold sarV at this
    rw [if_neg (by omega), Int.toNat_natCast, ← hw] at this
    exact pureCall_of this rfl rfl
  have a6 : ∀ H, pureCall (span_And.f G 60) [Sp p q, Sp s t] H = some (andV p q s t, H) := fun H =>
    pureCall_of (and_spec G 30 p q s t) rfl (by unfold andV; split <;> (try split) <;> (try split) <;> (try split) <;> rfl)
  obtain ⟨u, v, huv, hand⟩ : ∃ u v, andV p q s t = Sp u v ∧ (u ≤ bits .and .i64 x y ∧ bits .and .i64 x y ≤ v) := by
    unfold andV
    rw [dpq, dst]
    simp only [Bool.and_self, if_true]
    have w1 := and_any x y
    by_cases h5 : 0 ≤ p ∧ 0 ≤ s
    · have w2 := and_left (x := x) (y := y) (by omega) (by omega)
      have w3 := and_right (x := x) (y := y) (by omega) (by omega)
      exact ⟨0, min q t, by rw [if_pos h5], by omega, by omega⟩
    · by_cases h6 : 0 ≤ p
      · have w2 := and_left (x := x) (y := y) (by omega) (by omega)
        exact ⟨0, q, by rw [if_neg h5, if_pos h6], by omega, by omega⟩
      · by_cases h7 : 0 ≤ s
        · have w3 := and_right (x := x) (y := y) (by omega) (by omega)
          exact ⟨0, t, by rw [if_neg h5, if_neg h6, if_pos h7], by omega, by omega⟩
        · exact ⟨_, _, by rw [if_neg h5, if_neg h6, if_neg h7], by omega, by omega⟩
  rw [huv] at a6
  -- what is asked of them
  have o1 : bin Try.prog .add 2 false (I x) (I y) = some (I (x + y)) := by rw [bin_add, wrap_of_i64 (by omega) (by omega)]
  have o2 : bin Try.prog .sub 2 false (I x) (I y) = some (I (x - y)) := by rw [bin_sub, wrap_of_i64 (by omega) (by omega)]
  have o3 : bin Try.prog .mul 2 false (I x) (I y) = some (I (x * y)) := by rw [bin_mul, wrap_of_i64 (by omega) (by omega)]
  have o4 : convInt .u64 (.int .i64 (n : Int)) = some (.int .u64 (n : Int)) := by rw [convInt_int, wrap_of_u64 (by omega) (by omega)]
  have e : min ((n : Int)).toNat IntKind.i64.bits = n := by rw [Int.toNat_natCast]; exact Nat.min_eq_left (by have : IntKind.i64.bits = 64 := rfl; omega)
  have o5 : bin Try.prog .shl 2 false (I x) (.int .u64 (n : Int)) = some (I (x * w)) := by
    rw [bin_shl _ _ _ _ _ _ _ (Int.natCast_nonneg n), e, ← hw, wrap_of_i64 (by omega) (by omega)]
  have o6 : bin Try.prog .shr 2 false (I x) (.int .u64 (n : Int)) = some (I (x.fdiv w)) := by
    rw [bin_shr _ _ _ _ _ _ _ (Int.natCast_nonneg n), e, ← hw]
  have o7 : bin Try.prog .and 2 false (I x) (I y) = some (I (bits .and .i64 x y)) := bin_and ..
  have k1 := hasC G (a := p + s) (b := q + t) (n := x + y) ⟨by omega, by omega⟩
  have k2 := hasC G (a := p - t) (b := q - s) (n := x - y) ⟨by omega, by omega⟩
  have k3 := hasC G (a := lo) (b := hi) (n := x * y) z6
  have k4 := hasC G (a := p * w) (b := q * w) (n := x * w) ⟨y3, y4⟩
  have k5 := hasC G (a := p.fdiv w) (b := q.fdiv w) (n := x.fdiv w) (by
    rw [Int.fdiv_eq_ediv_of_nonneg _ (by omega), Int.fdiv_eq_ediv_of_nonneg _ (by omega), Int.fdiv_eq_ediv_of_nonneg _ (by omega)]
    exact ⟨Int.ediv_le_ediv (by omega) hx1, Int.ediv_le_ediv (by omega) hx2⟩)
  have k6 := hasC G (a := u) (b := v) (n := bits .and .i64 x y) hand
  obtain ⟨jl, hjl⟩ : ∃ z, z = min p s := ⟨_, rfl⟩
  obtain ⟨jh, hjh⟩ : ∃ z, z = max q t := ⟨_, rfl⟩
  have a7 : ∀ H, pureCall (span_Join.f G 60) [Sp p q, Sp s t] H = some (Sp jl jh, H) := fun H => by
    have := join_spec G 40 p q s t
    unfold joinV at this
    rw [dpq, dst, ← hjl, ← hjh] at this
    exact pureCall_of this rfl rfl
  have k7 := hasC G (a := jl) (b := jh) (n := x) ⟨by omega, by omega⟩
  have k8 := hasC G (a := jl) (b := jh) (n := y) ⟨by omega, by omega⟩
  have within : ∀ a b : Int, a ≤ b → jl ≤ a → b ≤ jh → ∀ H, pureCall (span_Within.f G 60) [Sp a b, Sp jl jh] H = some (.bool true, H) := fun a b h1 h2 h3 H => by
    have := within_spec G 40 a b jl jh
    rw [decide_eq_true h1, decide_eq_true h2, decide_eq_true h3, decide_eq_true (show jl ≤ jh by omega)] at this
    exact pureCall_of this rfl rfl
  have k9 := within p q hpq (by omega) (by omega)
  have k10 := within s t hst (by omega) (by omega)
  have q1 : bin Try.prog .add 2 false (I p) (I s) = some (I (p + s)) := by rw [bin_add, wrap_of_i64 (by omega) (by omega)]
  have q2 : bin Try.prog .add 2 false (I q) (I t) = some (I (q + t)) := by rw [bin_add, wrap_of_i64 (by omega) (by omega)]
  have q3 : bin Try.prog .sub 2 false (I p) (I t) = some (I (p - t)) := by rw [bin_sub, wrap_of_i64 (by omega) (by omega)]
  have q4 : bin Try.prog .sub 2 false (I q) (I s) = some (I (q - s)) := by rw [bin_sub, wrap_of_i64 (by omega) (by omega)]
  have q5 : ∀ z : Int, bin Try.prog .eql 2 false (I z) (I z) = some (.bool true) := fun z => by rw [bin_eql]; simp
  have q6 : bin Try.prog .add 2 true (I (q + t)) (.int .i64 1) = some (I (q + t + 1)) := by rw [bin_add, wrap_of_i64 (by omega) (by omega)]
  have q7 : bin Try.prog .sub 2 true (I (p + s)) (.int .i64 1) = some (I (p + s - 1)) := by rw [bin_sub, wrap_of_i64 (by omega) (by omega)]
  have k11 := hasN G (a := p + s) (b := q + t) (n := q + t + 1) (.inr (by omega))
  have k12 := hasN G (a := p + s) (b := q + t) (n := p + s - 1) (.inl (by omega))
  repeat first
    | refine oB (by first | (with_reducible exact rfl) | ((first | (simp only [pu_val, nth_zero, nth_succ, gd_tt, gd_ff, gd_tf, gd_ft, gd_no, pickA_true, pickA_false, un_not, hf, m1, m2, m3, m4, g1, g2, g3, g4, n1, n2, n3, n4, n5, n6, n7, n8, n9, a1, a2, a3, a4, a5, a6, a7, o1, o2, o3, o4, o5, o6, o7, k1, k2, k3, k4, k5, k6, k7, k8, k9, k10, k11, k12, q1, q2, q3, q4, q5, q6, q7, Bool.not_true, Bool.not_false]; first | done | (with_reducible exact rfl) | (with_reducible exact ⟨rfl, rfl⟩)) | simp [pu_val, boxRoA, boxA, fieldAddrV, loadV, loadC, storable, AV.cells, extractA, buildRo, buildOwn, fillE, buildSt, fillA, stS, storeV, recell, putC, lenSl, lenStr, idxAddrSl, idxAddrArr, allSome]); first | done | (with_reducible exact rfl) | (with_reducible exact ⟨rfl, rfl⟩))) ?_
    | refine lB (by first | (with_reducible exact rfl) | ((first | (simp only [pu_val, nth_zero, nth_succ, gd_tt, gd_ff, gd_tf, gd_ft, gd_no, pickA_true, pickA_false, un_not, hf, m1, m2, m3, m4, g1, g2, g3, g4, n1, n2, n3, n4, n5, n6, n7, n8, n9, a1, a2, a3, a4, a5, a6, a7, o1, o2, o3, o4, o5, o6, o7, k1, k2, k3, k4, k5, k6, k7, k8, k9, k10, k11, k12, q1, q2, q3, q4, q5, q6, q7, Bool.not_true, Bool.not_false]; first | done | (with_reducible exact rfl) | (with_reducible exact ⟨rfl, rfl⟩)) | simp [pu_val, boxRoA, boxA, fieldAddrV, loadV, loadC, storable, AV.cells, extractA, buildRo, buildOwn, fillE, buildSt, fillA, stS, storeV, recell, putC, lenSl, lenStr, idxAddrSl, idxAddrArr, allSome]); first | done | (with_reducible exact rfl) | (with_reducible exact ⟨rfl, rfl⟩))) ?_
    | refine oT ?_
    | refine oN ?_
    | refine oX ?_
    | refine oXn ?_
    | refine oXr ?_
    | exact oF (finV_bool ..)
    | apply oK
    | refine lT ?_
    | refine lN ?_
    | refine lX ?_
    | refine lXn ?_
    | refine lXr ?_
    | apply lK
    | refine oI ?_
    | refine oJ rfl ?_
    | refine lI ?_
    | refine lJ rfl ?_
    | (with_reducible exact rfl)
end Go.Proofs.Ytemkaggjbhpbbaa
