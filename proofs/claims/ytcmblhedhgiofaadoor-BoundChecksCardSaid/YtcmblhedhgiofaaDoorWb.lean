/- Sums, differences, products, shifts that are exact. -/
import Derived.Test.YtcmblhedhgiofaaDoorWa
namespace Go.Proofs.YtcmblhedhgiofaaDoor.Mir
open Go
set_option linter.unusedVariables false
set_option linter.unusedSimpArgs false

abbrev I (n : Int) : AV := .int .i64 n
abbrev Rg (n : Int) : Prop := -9223372036854775808 ≤ n ∧ n < 9223372036854775808

/-- A number, if it is an int64. -/
def numS (n : Int) : AV := if -9223372036854775808 ≤ n ∧ n < 9223372036854775808 then .tup [I n, .bool true] else .tup [I 0, .bool false]

theorem finV_pair (n : Int) (b : Bool) (H : AHeap) : finV [I n, .bool b] 0 H = some (.ret, [.tup [I n, .bool b]], []) := finV_two rfl rfl H

theorem sum_spec (G : Globs) (k : Nat) (a b : Int) (ha : Rg a) (hb : Rg b) : span_Sum.f G (k + 1) [I a, I b] [] = some (numS (a + b), []) := by
  rw [span_Sum.step]
  unfold span_Sum.c numS
  simp only [bin_add, pu_val, bnd_some, bin_gtr, bin_neq_bool Tryd.underlying4, List.length_nil]
  by_cases h : -9223372036854775808 ≤ a + b ∧ a + b < 9223372036854775808
  · rw [if_pos h, wrap_of_i64 h.1 h.2]
    by_cases h1 : 0 < b
    · have h2 : a < a + b := by omega
      simp [h1, h2, finV_pair]
    · have h2 : ¬ a < a + b := by omega
      simp [h1, h2, finV_pair]
  · rw [if_neg h, wrap_i64_eq]
    by_cases h1 : 0 < b
    · have h2 : ¬ a < (if (a + b) % 18446744073709551616 ≥ 9223372036854775808 then (a + b) % 18446744073709551616 - 18446744073709551616 else (a + b) % 18446744073709551616) := by split <;> omega
      have h3 : b ≠ 0 := by omega
      simp [h1, h2, h3, finV_pair]
    · have h2 : a < (if (a + b) % 18446744073709551616 ≥ 9223372036854775808 then (a + b) % 18446744073709551616 - 18446744073709551616 else (a + b) % 18446744073709551616) := by split <;> omega
      have h3 : b ≠ 0 := by omega
      simp [h1, h2, h3, finV_pair]

theorem less_spec (G : Globs) (k : Nat) (a b : Int) (ha : Rg a) (hb : Rg b) : span_Less.f G (k + 1) [I a, I b] [] = some (numS (a - b), []) := by
  rw [span_Less.step]
  unfold span_Less.c numS
  simp only [bin_sub, pu_val, bnd_some, bin_gtr, bin_lss, bin_neq_bool Tryd.underlying4, List.length_nil]
  by_cases h : -9223372036854775808 ≤ a - b ∧ a - b < 9223372036854775808
  · rw [if_pos h, wrap_of_i64 h.1 h.2]
    by_cases h1 : 0 < b
    · have h2 : a - b < a := by omega
      simp [h1, h2, finV_pair]
    · have h2 : ¬ a - b < a := by omega
      simp [h1, h2, finV_pair]
  · rw [if_neg h, wrap_i64_eq]
    by_cases h1 : 0 < b
    · have h2 : ¬ (if (a - b) % 18446744073709551616 ≥ 9223372036854775808 then (a - b) % 18446744073709551616 - 18446744073709551616 else (a - b) % 18446744073709551616) < a := by split <;> omega
      have h3 : b ≠ 0 := by omega
      simp [h1, h2, h3, finV_pair]
    · have h2 : (if (a - b) % 18446744073709551616 ≥ 9223372036854775808 then (a - b) % 18446744073709551616 - 18446744073709551616 else (a - b) % 18446744073709551616) < a := by split <;> omega
      have h3 : b ≠ 0 := by omega
      simp [h1, h2, h3, finV_pair]

theorem wrap_i64_rg (n : Int) : -9223372036854775808 ≤ IntKind.i64.wrap n ∧ IntKind.i64.wrap n < 9223372036854775808 := by
  rw [wrap_i64_eq]; split <;> omega

theorem wrap_i64_mod (n : Int) : ∃ m, IntKind.i64.wrap n = n + 18446744073709551616 * m := by
  rw [wrap_i64_eq]
  have := Int.mul_ediv_add_emod n 18446744073709551616
  split
  · exact ⟨-(n / 18446744073709551616) - 1, by omega⟩
  · exact ⟨-(n / 18446744073709551616), by omega⟩

theorem tmod_small (n b : Int) (hb : b ≠ 0) : (n.tmod b).natAbs < b.natAbs := by
  rw [Int.natAbs_tmod]
  exact Nat.mod_lt _ (by omega)

theorem quo_back (a b : Int) (hb : b ≠ 0) (hr : Rg b) (h : (IntKind.i64.wrap (a * b)).tdiv b = a) : IntKind.i64.wrap (a * b) = a * b := by
  obtain ⟨m, hm⟩ := wrap_i64_mod (a * b)
  have h1 := Int.mul_tdiv_add_tmod (IntKind.i64.wrap (a * b)) b
  rw [h] at h1
  have h2 := tmod_small (IntKind.i64.wrap (a * b)) b hb
  have h3 : b * a = a * b := Int.mul_comm _ _
  generalize (IntKind.i64.wrap (a * b)).tmod b = r at h1 h2
  omega

theorem prod_spec (G : Globs) (k : Nat) (a b : Int) (ha : Rg a) (hb : Rg b) : span_Product.f G (k + 1) [I a, I b] [] = some (numS (a * b), []) := by
  rw [span_Product.step]
  unfold span_Product.c
  simp only [List.length_nil]
  have z : numS 0 = .tup [I 0, .bool true] := rfl
  by_cases a0 : a = 0
  · subst a0; simp [finV_pair, z]
  by_cases b0 : b = 0
  · subst b0; simp [a0, finV_pair, z]
  by_cases h1 : a = -1 ∧ b = -9223372036854775808
  · obtain ⟨rfl, rfl⟩ := h1
    simp [finV_pair]; rfl
  by_cases h2 : b = -1 ∧ a = -9223372036854775808
  · obtain ⟨rfl, rfl⟩ := h2
    simp [finV_pair]; rfl
  have q : ∀ n : Int, Rg n → ¬ (b = -1 ∧ n = -9223372036854775808) → Rg (n.tdiv b) := by
    intro n hn hx
    have e := Int.mul_tdiv_add_tmod n b
    have := Int.natAbs_tdiv_le_natAbs n b
    by_cases hb1 : b = -1
    · subst hb1
      rw [show (-1 : Int) = -(1) from rfl, Int.tdiv_neg, Int.tdiv_one]
      omega
    · by_cases hn' : n = -9223372036854775808
      · subst hn'
        have hle : (Int.tdiv (-9223372036854775808) b) ≠ 9223372036854775808 := by
          intro hh
          rw [hh] at e
          have h3 := tmod_small (-9223372036854775808) b b0
          omega
        omega
      · omega
  have hw := wrap_i64_rg (a * b)
  have step : bin Tryd.prog .quo 2 false (.int .i64 (IntKind.i64.wrap (a * b))) (.int .i64 b) = some (.int .i64 (IntKind.i64.wrap ((IntKind.i64.wrap (a * b)).tdiv b))) := bin_quo _ _ _ _ _ _ b0
  have dec : (IntKind.i64.wrap ((IntKind.i64.wrap (a * b)).tdiv b) = a) ↔ Rg (a * b) := by
    constructor
    · intro h
      by_cases hx : b = -1 ∧ IntKind.i64.wrap (a * b) = -9223372036854775808
      · exfalso
        obtain ⟨rfl, hx⟩ := hx
        rw [hx] at h
        have : a = -9223372036854775808 := by rw [← h]; rfl
        exact h2 ⟨rfl, this⟩
      · rw [wrap_of_i64 (q _ hw hx).1 (q _ hw hx).2] at h
        rw [← quo_back a b b0 hb h]; exact hw
    · intro h
      rw [wrap_of_i64 h.1 h.2, Int.mul_tdiv_cancel _ b0]
      exact wrap_of_i64 ha.1 ha.2
  have fin : (bnd (pu [] (bin Tryd.prog .mul 2 false (I a) (I b))) fun v15 h15 =>
      bnd (pu h15 (bin Tryd.prog .quo 2 false v15 (I b))) fun v16 h16 =>
      bnd (pu h16 (bin Tryd.prog .eql 2 false v16 (I a))) fun v17 h17 =>
      condA v17 (finV [v15, (.bool true)] 0 h17) (finV [(.int .i64 0), (.bool false)] 0 h17)) = some (.ret, [numS (a * b)], []) := by
    simp only [bin_mul, pu_val, bnd_some, step, bin_eql]
    unfold numS
    by_cases h : Rg (a * b)
    · rw [decide_eq_true (dec.2 h), condA_true, finV_pair, wrap_of_i64 h.1 h.2]
      rw [if_pos h]
    · rw [decide_eq_false (fun x => h (dec.1 x)), condA_false, finV_pair, if_neg h]
  have key : ∀ (p q r t : Bool), p = decide (a = -1) → q = decide (b = -9223372036854775808) → r = decide (b = -1) → t = decide (a = -9223372036854775808) → (p && q) = false ∧ (r && t) = false := by
    rintro p q r t rfl rfl rfl rfl
    simp only [Bool.and_eq_false_iff, decide_eq_false_iff_not]
    constructor
    · by_cases h : a = -1
      · exact .inr fun hb => h1 ⟨h, hb⟩
      · exact .inl h
    · by_cases h : b = -1
      · exact .inr fun hb => h2 ⟨h, hb⟩
      · exact .inl h
  have d0 : decide (a = 0) = false := decide_eq_false a0
  have d1 : decide (b = 0) = false := decide_eq_false b0
  simp only [bin_eql, pu_val, bnd_some, d0, d1, gd_ff, pickA_false, condA_false]
  have key' := key _ _ _ _ rfl rfl rfl rfl
  generalize hp : decide (a = -1) = p at key'
  generalize hq : decide (b = -9223372036854775808) = q at key'
  generalize hr : decide (b = -1) = r at key'
  generalize ht : decide (a = -9223372036854775808) = t at key'
  cases p <;> cases q <;> cases r <;> cases t <;> first
    | (simp at key'; done)
    | (simp only [bin_eql, hp, hq, hr, ht, gd_tt, gd_ff, gd_tf, gd_ft, gd_no, bnd_some, pu_val, pickA_true, pickA_false, condA_false]
       rw [fin, outV_ret])
theorem pow_tdiv (x : Int) (n : Nat) : (x * 2 ^ n).fdiv (2 ^ n) = x := by
  have h : (2 : Int) ^ n ≠ 0 := by have := Int.pow_pos (n := 2) (m := n) (by decide); omega
  rw [Int.fdiv_eq_ediv_of_nonneg _ (Int.le_of_lt (Int.pow_pos (by decide)))]
  exact Int.mul_ediv_cancel _ h

theorem shl_spec (G : Globs) (k : Nat) (a : Int) (n : Nat) (ha : Rg a) (hn : n ≤ 63) : bound_shl.f G (k + 1) [I a, I (n : Int)] [] = some (numS (a * 2 ^ n), []) := by
  rw [bound_shl.step]
  unfold bound_shl.c
  have c0 : bin Tryd.prog .lss 2 true (I (n : Int)) (.int .i64 0) = some (.bool false) := by rw [bin_lss, decide_eq_false (by omega)]
  have c1 : bin Tryd.prog .gtr 2 true (I (n : Int)) (.int .i64 63) = some (.bool false) := by rw [bin_gtr, decide_eq_false (by omega)]
  have e : min ((n : Int)).toNat IntKind.i64.bits = n := by rw [Int.toNat_natCast]; exact Nat.min_eq_left (by have : IntKind.i64.bits = 64 := rfl; omega)
  obtain ⟨w, hw⟩ : ∃ w, w = IntKind.i64.wrap (a * 2 ^ n) := ⟨_, rfl⟩
  have c4 : bin Tryd.prog .shl 2 false (I a) (I (n : Int)) = some (I w) := by rw [bin_shl _ _ _ _ _ _ _ (Int.natCast_nonneg n), e, hw]
  have c5 : bin Tryd.prog .shr 2 false (I w) (I (n : Int)) = some (I (w.fdiv (2 ^ n))) := by rw [bin_shr _ _ _ _ _ _ _ (Int.natCast_nonneg n), e]
  have pp : (0 : Int) < 2 ^ n := Int.pow_pos (by decide)
  have fin : ∀ (z : Int) (t : Bool) (H : AHeap), finV [I z, .bool t] ([] : AHeap).length H = some (.ret, [.tup [I z, .bool t]], []) := fun z t H => finV_two rfl rfl H
  by_cases h : Rg (a * 2 ^ n)
  · have hw' : w = a * 2 ^ n := by rw [hw]; exact wrap_of_i64 h.1 h.2
    have hq : w.fdiv (2 ^ n) = a := by rw [hw', pow_tdiv]
    rw [hq] at c5
    have c6 : bin Tryd.prog .neq 2 false (I a) (I a) = some (.bool false) := by rw [bin_neq]; simp
    have r : numS (a * 2 ^ n) = .tup [I w, .bool true] := by unfold numS; rw [if_pos h, hw']
    rw [r]
    clear hw hw' hq
    repeat first
      | refine oB (by first | (simp only [pu_val, nth_zero, nth_succ, gd_tt, gd_ff, gd_tf, gd_ft, gd_no, pickA_true, pickA_false, un_not, c0, c1, c4, c5, c6]; first | done | (with_reducible exact rfl) | (with_reducible exact ⟨rfl, rfl⟩)) | (with_reducible exact rfl)) ?_
      | refine lB (by first | (simp only [pu_val, nth_zero, nth_succ, gd_tt, gd_ff, gd_tf, gd_ft, gd_no, pickA_true, pickA_false, un_not, c0, c1, c4, c5, c6]; first | done | (with_reducible exact rfl) | (with_reducible exact ⟨rfl, rfl⟩)) | (with_reducible exact rfl)) ?_
      | refine oT ?_
      | refine oN ?_
      | refine oX ?_
      | refine oXn ?_
      | refine oXr ?_
      | exact oF (finV_bool ..)
      | apply oK
      | refine lT ?_
      | refine lN ?_
      | refine lX ?_
      | refine lXn ?_
      | refine lXr ?_
      | apply lK
      | refine oI ?_
      | refine oJ rfl ?_
      | refine lI ?_
      | refine lJ rfl ?_
      | (with_reducible exact rfl)
    exact oF (fin ..)
  · have hq : w.fdiv (2 ^ n) ≠ a := by
      intro hq
      apply h
      have hr := wrap_i64_rg (a * 2 ^ n)
      rw [← hw] at hr
      obtain ⟨m, hm⟩ := wrap_i64_mod (a * 2 ^ n)
      rw [← hw] at hm
      -- 2^n divides w as it divides 2^64
      have e64 : (18446744073709551616 : Int) = 2 ^ (64 - n) * 2 ^ n := by rw [← Int.pow_add, show 64 - n + n = 64 by omega]; rfl
      have hw2 : w = (a + 2 ^ (64 - n) * m) * 2 ^ n := by
        rw [hm, e64, Int.add_mul, Int.mul_assoc, Int.mul_assoc, Int.mul_comm m]
      rw [hw2, pow_tdiv] at hq
      have hz : 2 ^ (64 - n) * m = 0 := by omega
      rw [hw2, hz, Int.add_zero] at hr
      exact hr
    have c6 : bin Tryd.prog .neq 2 false (I (w.fdiv (2 ^ n))) (I a) = some (.bool true) := by rw [bin_neq]; simp [hq]
    have r : numS (a * 2 ^ n) = .tup [I 0, .bool false] := by unfold numS; rw [if_neg h]
    rw [r]
    generalize w.fdiv (2 ^ n) = q at *
    clear hw hq
    repeat first
      | refine oB (by first | (simp only [pu_val, nth_zero, nth_succ, gd_tt, gd_ff, gd_tf, gd_ft, gd_no, pickA_true, pickA_false, un_not, c0, c1, c4, c5, c6]; first | done | (with_reducible exact rfl) | (with_reducible exact ⟨rfl, rfl⟩)) | (with_reducible exact rfl)) ?_
      | refine lB (by first | (simp only [pu_val, nth_zero, nth_succ, gd_tt, gd_ff, gd_tf, gd_ft, gd_no, pickA_true, pickA_false, un_not, c0, c1, c4, c5, c6]; first | done | (with_reducible exact rfl) | (with_reducible exact ⟨rfl, rfl⟩)) | (with_reducible exact rfl)) ?_
      | refine oT ?_
      | refine oN ?_
      | refine oX ?_
      | refine oXn ?_
      | refine oXr ?_
      | exact oF (finV_bool ..)
      | apply oK
      | refine lT ?_
      | refine lN ?_
      | refine lX ?_
      | refine lXn ?_
      | refine lXr ?_
      | apply lK
      | refine oI ?_
      | refine oJ rfl ?_
      | refine lI ?_
      | refine lJ rfl ?_
      | (with_reducible exact rfl)
    exact oF (fin ..)

/-- The exact number. -/
def exactF (op : Int) (n : Nat) (a b : Int) : Int := if op = 3 then a + b else if op = 4 then a - b else if op = 5 then a * b else a * 2 ^ n

theorem numS_clean (n : Int) : cleanB (numS n) = true := by unfold numS; split <;> rfl

set_option maxRecDepth 20000 in
theorem exact_spec (G : Globs) (k : Nat) (op d a b c : Int) (n : Nat) (hn : n ≤ 63) (x y : Nat) (hx : x < 18446744073709551616) (hy : y < 18446744073709551616) (ho : op = 3 ∨ op = 4 ∨ op = 5 ∨ op = 10) :
    bound_Exact.f G (k + 2) [instV op d a b c (n : Int), Un x, Un y] [] = some (numS (exactF op n (s64 x) (s64 y)), []) := by
  rw [bound_Exact.step]
  unfold bound_Exact.c
  have hx' := s64_range x hx
  have hy' := s64_range y hy
  have c1 := conv_i64 x hx
  have c2 := conv_i64 y hy
  have r1 : ∀ H, pureCall (span_Sum.f G (k + 1)) [I6 (s64 x), I6 (s64 y)] H = _ := fun H => pureCall_of (H := H) (sum_spec G k (s64 x) (s64 y) hx' hy') rfl (numS_clean _)
  have r2 : ∀ H, pureCall (span_Less.f G (k + 1)) [I6 (s64 x), I6 (s64 y)] H = _ := fun H => pureCall_of (H := H) (less_spec G k (s64 x) (s64 y) hx' hy') rfl (numS_clean _)
  have r3 : ∀ H, pureCall (span_Product.f G (k + 1)) [I6 (s64 x), I6 (s64 y)] H = _ := fun H => pureCall_of (H := H) (prod_spec G k (s64 x) (s64 y) hx' hy') rfl (numS_clean _)
  have r4 : ∀ H, pureCall (bound_shl.f G (k + 1)) [I6 (s64 x), I6 (n : Int)] H = _ := fun H => pureCall_of (H := H) (shl_spec G k (s64 x) n hx' hn) rfl (numS_clean _)
  have nt : ∀ z, ∃ (u : Int) (t : Bool), numS z = .tup [I u, .bool t] := fun z => by unfold numS; split <;> exact ⟨_, _, rfl⟩
  have fin : ∀ (z : Int) (t : Bool) (H : AHeap), finV [I z, .bool t] ([] : AHeap).length H = some (.ret, [.tup [I z, .bool t]], []) := fun z t H => finV_two rfl rfl H
  have b0 : ∀ H, boxRoA (instV op d a b c (n : Int)) H = some (.rp false (instV op d a b c (n : Int)) 0, H) := fun H => rfl
  have g0 : fieldAddrV 0 (.rp false (instV op d a b c (n : Int)) 0) = some (.rp false (instV op d a b c (n : Int)) 0) := rfl
  have g5 : fieldAddrV 5 (.rp false (instV op d a b c (n : Int)) 0) = some (.rp false (instV op d a b c (n : Int)) 5) := rfl
  have l0 : ∀ H, loadV G false 1 (.rp false (instV op d a b c (n : Int)) 0) H = some (I6 op) := fun H => rfl
  have l5 : ∀ H, loadV G false 1 (.rp false (instV op d a b c (n : Int)) 5) H = some (I6 (n : Int)) := fun H => rfl
  have x0 : ∀ u v : AV, extractA (.tup [u, v]) 0 = some u := fun _ _ => rfl
  have x1 : ∀ u v : AV, extractA (.tup [u, v]) 1 = some v := fun _ _ => rfl
  have ef : exactF op n (s64 x) (s64 y) = exactF op n (s64 x) (s64 y) := rfl
  generalize s64 x = p at *
  generalize s64 y = q at *
  obtain ⟨X, hX⟩ : ∃ X, X = instV op d a b c (n : Int) := ⟨_, rfl⟩
  rw [← hX] at b0 g0 g5 l0 l5 ⊢
  clear hX
  rcases ho with rfl | rfl | rfl | rfl
  · show _ = some (numS (p + q), [])
    obtain ⟨u, t, e⟩ := nt (p + q)
    rw [e] at r1 ⊢
    clear e
    have q3 : bin Tryd.prog .eql 3 true (I6 3) (.int .i64 3) = some (.bool true) := rfl
    repeat first
      | refine oB (by first | (simp only [pu_val, nth_zero, nth_succ, gd_tt, gd_ff, gd_tf, gd_ft, gd_no, pickA_true, pickA_false, un_not, b0, g0, g5, l0, l5, x0, x1, c1, c2, r1, q3]; first | done | (with_reducible exact rfl) | (with_reducible exact ⟨rfl, rfl⟩)) | (with_reducible exact rfl)) ?_
      | refine lB (by first | (simp only [pu_val, nth_zero, nth_succ, gd_tt, gd_ff, gd_tf, gd_ft, gd_no, pickA_true, pickA_false, un_not, b0, g0, g5, l0, l5, x0, x1, c1, c2, r1, q3]; first | done | (with_reducible exact rfl) | (with_reducible exact ⟨rfl, rfl⟩)) | (with_reducible exact rfl)) ?_
      | refine oT ?_
      | refine oN ?_
      | refine oX ?_
      | refine oXn ?_
      | refine oXr ?_
      | exact oF (finV_bool ..)
      | apply oK
      | refine lT ?_
      | refine lN ?_
      | refine lX ?_
      | refine lXn ?_
      | refine lXr ?_
      | apply lK
      | refine oI ?_
      | refine oJ rfl ?_
      | refine lI ?_
      | refine lJ rfl ?_
      | (with_reducible exact rfl)
    exact oF (fin ..)
  · show _ = some (numS (p - q), [])
    obtain ⟨u, t, e⟩ := nt (p - q)
    rw [e] at r2 ⊢
    clear e
    have q3 : bin Tryd.prog .eql 3 true (I6 4) (.int .i64 3) = some (.bool false) := rfl
    have q4 : bin Tryd.prog .eql 3 true (I6 4) (.int .i64 4) = some (.bool true) := rfl
    repeat first
      | refine oB (by first | (simp only [pu_val, nth_zero, nth_succ, gd_tt, gd_ff, gd_tf, gd_ft, gd_no, pickA_true, pickA_false, un_not, b0, g0, g5, l0, l5, x0, x1, c1, c2, r2, q3, q4]; first | done | (with_reducible exact rfl) | (with_reducible exact ⟨rfl, rfl⟩)) | (with_reducible exact rfl)) ?_
      | refine lB (by first | (simp only [pu_val, nth_zero, nth_succ, gd_tt, gd_ff, gd_tf, gd_ft, gd_no, pickA_true, pickA_false, un_not, b0, g0, g5, l0, l5, x0, x1, c1, c2, r2, q3, q4]; first | done | (with_reducible exact rfl) | (with_reducible exact ⟨rfl, rfl⟩)) | (with_reducible exact rfl)) ?_
      | refine oT ?_
      | refine oN ?_
      | refine oX ?_
      | refine oXn ?_
      | refine oXr ?_
      | exact oF (finV_bool ..)
      | apply oK
      | refine lT ?_
      | refine lN ?_
      | refine lX ?_
      | refine lXn ?_
      | refine lXr ?_
      | apply lK
      | refine oI ?_
      | refine oJ rfl ?_
      | refine lI ?_
      | refine lJ rfl ?_
      | (with_reducible exact rfl)
    exact oF (fin ..)
  · show _ = some (numS (p * q), [])
    obtain ⟨u, t, e⟩ := nt (p * q)
    rw [e] at r3 ⊢
    clear e
    have q3 : bin Tryd.prog .eql 3 true (I6 5) (.int .i64 3) = some (.bool false) := rfl
    have q4 : bin Tryd.prog .eql 3 true (I6 5) (.int .i64 4) = some (.bool false) := rfl
    have q5 : bin Tryd.prog .eql 3 true (I6 5) (.int .i64 5) = some (.bool true) := rfl
    repeat first
      | refine oB (by first | (simp only [pu_val, nth_zero, nth_succ, gd_tt, gd_ff, gd_tf, gd_ft, gd_no, pickA_true, pickA_false, un_not, b0, g0, g5, l0, l5, x0, x1, c1, c2, r3, q3, q4, q5]; first | done | (with_reducible exact rfl) | (with_reducible exact ⟨rfl, rfl⟩)) | (with_reducible exact rfl)) ?_
      | refine lB (by first | (simp only [pu_val, nth_zero, nth_succ, gd_tt, gd_ff, gd_tf, gd_ft, gd_no, pickA_true, pickA_false, un_not, b0, g0, g5, l0, l5, x0, x1, c1, c2, r3, q3, q4, q5]; first | done | (with_reducible exact rfl) | (with_reducible exact ⟨rfl, rfl⟩)) | (with_reducible exact rfl)) ?_
      | refine oT ?_
      | refine oN ?_
      | refine oX ?_
      | refine oXn ?_
      | refine oXr ?_
      | exact oF (finV_bool ..)
      | apply oK
      | refine lT ?_
      | refine lN ?_
      | refine lX ?_
      | refine lXn ?_
      | refine lXr ?_
      | apply lK
      | refine oI ?_
      | refine oJ rfl ?_
      | refine lI ?_
      | refine lJ rfl ?_
      | (with_reducible exact rfl)
    exact oF (fin ..)
  · show _ = some (numS (p * 2 ^ n), [])
    obtain ⟨u, t, e⟩ := nt (p * 2 ^ n)
    rw [e] at r4 ⊢
    clear e
    have q3 : bin Tryd.prog .eql 3 true (I6 10) (.int .i64 3) = some (.bool false) := rfl
    have q4 : bin Tryd.prog .eql 3 true (I6 10) (.int .i64 4) = some (.bool false) := rfl
    have q5 : bin Tryd.prog .eql 3 true (I6 10) (.int .i64 5) = some (.bool false) := rfl
    have q10 : bin Tryd.prog .eql 3 true (I6 10) (.int .i64 10) = some (.bool true) := rfl
    repeat first
      | refine oB (by first | (simp only [pu_val, nth_zero, nth_succ, gd_tt, gd_ff, gd_tf, gd_ft, gd_no, pickA_true, pickA_false, un_not, b0, g0, g5, l0, l5, x0, x1, c1, c2, r4, q3, q4, q5, q10]; first | done | (with_reducible exact rfl) | (with_reducible exact ⟨rfl, rfl⟩)) | (with_reducible exact rfl)) ?_
      | refine lB (by first | (simp only [pu_val, nth_zero, nth_succ, gd_tt, gd_ff, gd_tf, gd_ft, gd_no, pickA_true, pickA_false, un_not, b0, g0, g5, l0, l5, x0, x1, c1, c2, r4, q3, q4, q5, q10]; first | done | (with_reducible exact rfl) | (with_reducible exact ⟨rfl, rfl⟩)) | (with_reducible exact rfl)) ?_
      | refine oT ?_
      | refine oN ?_
      | refine oX ?_
      | refine oXn ?_
      | refine oXr ?_
      | exact oF (finV_bool ..)
      | apply oK
      | refine lT ?_
      | refine lN ?_
      | refine lX ?_
      | refine lXn ?_
      | refine lXr ?_
      | apply lK
      | refine oI ?_
      | refine oJ rfl ?_
      | refine lI ?_
      | refine lJ rfl ?_
      | (with_reducible exact rfl)
    exact oF (fin ..)
end Go.Proofs.YtcmblhedhgiofaaDoor.Mir
