/- What the functions of chapter 16 give. -/
import Derived.Test.YtemkaggjbhpbbaaMirZ
import Derived.Test.YtemkaggjbhpbbaaSpFun
import Derived.KernelRfl
namespace Go.Proofs.Ytemkaggjbhpbbaa.Mir
open Go
set_option linter.unusedVariables false
set_option linter.unusedSimpArgs false

abbrev I (n : Int) : AV := .int .i64 n
abbrev Sp (a b : Int) : AV := .agg [.int .i64 a, .int .i64 b]
abbrev Rg (n : Int) : Prop := -9223372036854775808 ≤ n ∧ n < 9223372036854775808

theorem first_ok (G : Globs) (k : Nat) : alembiclaw16_first.f G (k + 30) [] [] = some (.bool true, []) := by kernel_rfl

theorem is_spec (G : Globs) (k : Nat) (a b : Int) : span_Is.f G (k + 1) [Sp a b] [] = some (.bool (decide (a ≤ b)), []) := by kernel_rfl
theorem one_spec (G : Globs) (k : Nat) (a : Int) : alembiclaw16_SpanEdges_1.f G (k + 1) [I a] [] = some (Sp a a, []) := by kernel_rfl

theorem of4 (G : Globs) (k : Nat) (bor : Bool) (lo hi : Int) (a b c d : Bool) : span_of.f G (k + 10) [I lo, I hi, .ro bor [.bool a, .bool b, .bool c, .bool d]] [] =
    some (if a && b && c && d then .tup [Sp lo hi, .bool true] else .tup [Sp 0 0, .bool false], []) := by
  cases a <;> cases b <;> cases c <;> cases d <;> kernel_rfl
theorem of6 (G : Globs) (k : Nat) (bor : Bool) (lo hi : Int) (a b c d e f : Bool) : span_of.f G (k + 10) [I lo, I hi, .ro bor [.bool a, .bool b, .bool c, .bool d, .bool e, .bool f]] [] =
    some (if a && b && c && d && e && f then .tup [Sp lo hi, .bool true] else .tup [Sp 0 0, .bool false], []) := by
  cases a <;> cases b <;> cases c <;> cases d <;> cases e <;> cases f <;> kernel_rfl

/-- A number, if it is an int64. -/
def numS (n : Int) : AV := if -9223372036854775808 ≤ n ∧ n < 9223372036854775808 then .tup [I n, .bool true] else .tup [I 0, .bool false]

theorem finV_pair (n : Int) (b : Bool) (H : AHeap) : finV [I n, .bool b] 0 H = some (.ret, [.tup [I n, .bool b]], []) := finV_two rfl rfl H

theorem sum_spec (G : Globs) (k : Nat) (a b : Int) (ha : Rg a) (hb : Rg b) : span_Sum.f G (k + 1) [I a, I b] [] = some (numS (a + b), []) := by
  rw [span_Sum.step]
  unfold span_Sum.c numS
  simp only [bin_add, pu_val, bnd_some, bin_gtr, bin_neq_bool Try.underlying4, List.length_nil]
  by_cases h : -9223372036854775808 ≤ a + b ∧ a + b < 9223372036854775808
  · rw [if_pos h, wrap_of_i64 h.1 h.2]
    by_cases h1 : 0 < b
    · have h2 : a < a + b := by omega
      simp [h1, h2, finV_pair]
    · have h2 : ¬ a < a + b := by omega
      simp [h1, h2, finV_pair]
  · rw [if_neg h, wrap_i64_eq]
    by_cases h1 : 0 < b
    · have h2 : ¬ a < (if (a + b) % 18446744073709551616 ≥ 9223372036854775808 then (a + b) % 18446744073709551616 - 18446744073709551616 else (a + b) % 18446744073709551616) := by split <;> omega
      have h3 : b ≠ 0 := by omega
      simp [h1, h2, h3, finV_pair]
    · have h2 : a < (if (a + b) % 18446744073709551616 ≥ 9223372036854775808 then (a + b) % 18446744073709551616 - 18446744073709551616 else (a + b) % 18446744073709551616) := by split <;> omega
      have h3 : b ≠ 0 := by omega
      simp [h1, h2, h3, finV_pair]

theorem less_spec (G : Globs) (k : Nat) (a b : Int) (ha : Rg a) (hb : Rg b) : span_Less.f G (k + 1) [I a, I b] [] = some (numS (a - b), []) := by
  rw [span_Less.step]
  unfold span_Less.c numS
  simp only [bin_sub, pu_val, bnd_some, bin_gtr, bin_lss, bin_neq_bool Try.underlying4, List.length_nil]
  by_cases h : -9223372036854775808 ≤ a - b ∧ a - b < 9223372036854775808
  · rw [if_pos h, wrap_of_i64 h.1 h.2]
    by_cases h1 : 0 < b
    · have h2 : a - b < a := by omega
      simp [h1, h2, finV_pair]
    · have h2 : ¬ a - b < a := by omega
      simp [h1, h2, finV_pair]
  · rw [if_neg h, wrap_i64_eq]
    by_cases h1 : 0 < b
    · have h2 : ¬ (if (a - b) % 18446744073709551616 ≥ 9223372036854775808 then (a - b) % 18446744073709551616 - 18446744073709551616 else (a - b) % 18446744073709551616) < a := by split <;> omega
      have h3 : b ≠ 0 := by omega
      simp [h1, h2, h3, finV_pair]
    · have h2 : (if (a - b) % 18446744073709551616 ≥ 9223372036854775808 then (a - b) % 18446744073709551616 - 18446744073709551616 else (a - b) % 18446744073709551616) < a := by split <;> omega
      have h3 : b ≠ 0 := by omega
      simp [h1, h2, h3, finV_pair]

theorem wrap_i64_rg (n : Int) : -9223372036854775808 ≤ IntKind.i64.wrap n ∧ IntKind.i64.wrap n < 9223372036854775808 := by
  rw [wrap_i64_eq]; split <;> omega

theorem wrap_i64_mod (n : Int) : ∃ m, IntKind.i64.wrap n = n + 18446744073709551616 * m := by
  rw [wrap_i64_eq]
  have := Int.mul_ediv_add_emod n 18446744073709551616
  split
  · exact ⟨-(n / 18446744073709551616) - 1, by omega⟩
  · exact ⟨-(n / 18446744073709551616), by omega⟩

theorem tmod_small (n b : Int) (hb : b ≠ 0) : (n.tmod b).natAbs < b.natAbs := by
  rw [Int.natAbs_tmod]
  exact Nat.mod_lt _ (by omega)

theorem quo_back (a b : Int) (hb : b ≠ 0) (hr : Rg b) (h : (IntKind.i64.wrap (a * b)).tdiv b = a) : IntKind.i64.wrap (a * b) = a * b := by
  obtain ⟨m, hm⟩ := wrap_i64_mod (a * b)
  have h1 := Int.mul_tdiv_add_tmod (IntKind.i64.wrap (a * b)) b
  rw [h] at h1
  have h2 := tmod_small (IntKind.i64.wrap (a * b)) b hb
  have h3 : b * a = a * b := Int.mul_comm _ _
  generalize (IntKind.i64.wrap (a * b)).tmod b = r at h1 h2
  omega

theorem prod_spec (G : Globs) (k : Nat) (a b : Int) (ha : Rg a) (hb : Rg b) : span_Product.f G (k + 1) [I a, I b] [] = some (numS (a * b), []) := by
  rw [span_Product.step]
  unfold span_Product.c
  simp only [List.length_nil]
  have z : numS 0 = .tup [I 0, .bool true] := rfl
  by_cases a0 : a = 0
  · subst a0; simp [finV_pair, z]
  by_cases b0 : b = 0
  · subst b0; simp [a0, finV_pair, z]
  by_cases h1 : a = -1 ∧ b = -9223372036854775808
  · obtain ⟨rfl, rfl⟩ := h1
    simp [finV_pair]; rfl
  by_cases h2 : b = -1 ∧ a = -9223372036854775808
  · obtain ⟨rfl, rfl⟩ := h2
    simp [finV_pair]; rfl
  have q : ∀ n : Int, Rg n → ¬ (b = -1 ∧ n = -9223372036854775808) → Rg (n.tdiv b) := by
    intro n hn hx
    have e := Int.mul_tdiv_add_tmod n b
    have := Int.natAbs_tdiv_le_natAbs n b
    by_cases hb1 : b = -1
    · subst hb1
      rw [show (-1 : Int) = -(1) from rfl, Int.tdiv_neg, Int.tdiv_one]
      omega
    · by_cases hn' : n = -9223372036854775808
      · subst hn'
        have hle : (Int.tdiv (-9223372036854775808) b) ≠ 9223372036854775808 := by
          intro hh
          rw [hh] at e
          have h3 := tmod_small (-9223372036854775808) b b0
          omega
        omega
      · omega
  have hw := wrap_i64_rg (a * b)
  have step : bin Try.prog .quo 2 false (.int .i64 (IntKind.i64.wrap (a * b))) (.int .i64 b) = some (.int .i64 (IntKind.i64.wrap ((IntKind.i64.wrap (a * b)).tdiv b))) := bin_quo _ _ _ _ _ _ b0
  have dec : (IntKind.i64.wrap ((IntKind.i64.wrap (a * b)).tdiv b) = a) ↔ Rg (a * b) := by
    constructor
    · intro h
      by_cases hx : b = -1 ∧ IntKind.i64.wrap (a * b) = -9223372036854775808
      · exfalso
        obtain ⟨rfl, hx⟩ := hx
        rw [hx] at h
        have : a = -9223372036854775808 := by rw [← h]; rfl
        exact h2 ⟨rfl, this⟩
      · rw [wrap_of_i64 (q _ hw hx).1 (q _ hw hx).2] at h
        rw [← quo_back a b b0 hb h]; exact hw
    · intro h
      rw [wrap_of_i64 h.1 h.2, Int.mul_tdiv_cancel _ b0]
      exact wrap_of_i64 ha.1 ha.2
  have fin : (bnd (pu [] (bin Try.prog .mul 2 false (I a) (I b))) fun v15 h15 =>
      bnd (pu h15 (bin Try.prog .quo 2 false v15 (I b))) fun v16 h16 =>
      bnd (pu h16 (bin Try.prog .eql 2 false v16 (I a))) fun v17 h17 =>
      condA v17 (finV [v15, (.bool true)] 0 h17) (finV [(.int .i64 0), (.bool false)] 0 h17)) = some (.ret, [numS (a * b)], []) := by
    simp only [bin_mul, pu_val, bnd_some, step, bin_eql]
    unfold numS
    by_cases h : Rg (a * b)
    · rw [decide_eq_true (dec.2 h), condA_true, finV_pair, wrap_of_i64 h.1 h.2]
      rw [if_pos h]
    · rw [decide_eq_false (fun x => h (dec.1 x)), condA_false, finV_pair, if_neg h]
  have key : ∀ (p q r t : Bool), p = decide (a = -1) → q = decide (b = -9223372036854775808) → r = decide (b = -1) → t = decide (a = -9223372036854775808) → (p && q) = false ∧ (r && t) = false := by
    rintro p q r t rfl rfl rfl rfl
    simp only [Bool.and_eq_false_iff, decide_eq_false_iff_not]
    constructor
    · by_cases h : a = -1
      · exact .inr fun hb => h1 ⟨h, hb⟩
      · exact .inl h
    · by_cases h : b = -1
      · exact .inr fun hb => h2 ⟨h, hb⟩
      · exact .inl h
  have d0 : decide (a = 0) = false := decide_eq_false a0
  have d1 : decide (b = 0) = false := decide_eq_false b0
  simp only [bin_eql, pu_val, bnd_some, d0, d1, gd_ff, pickA_false, condA_false]
  have key' := key _ _ _ _ rfl rfl rfl rfl
  generalize hp : decide (a = -1) = p at key'
  generalize hq : decide (b = -9223372036854775808) = q at key'
  generalize hr : decide (b = -1) = r at key'
  generalize ht : decide (a = -9223372036854775808) = t at key'
  cases p <;> cases q <;> cases r <;> cases t <;> first
    | (simp at key'; done)
    | (simp only [bin_eql, hp, hq, hr, ht, gd_tt, gd_ff, gd_tf, gd_ft, gd_no, bnd_some, pu_val, pickA_true, pickA_false, condA_false]
       rw [fin, outV_ret])
def numI (n : Int) : Int := if -9223372036854775808 ≤ n ∧ n < 9223372036854775808 then n else 0
def numB (n : Int) : Bool := decide (-9223372036854775808 ≤ n ∧ n < 9223372036854775808)
theorem numS_eq (n : Int) : numS n = .tup [I (numI n), .bool (numB n)] := by
  unfold numS numI numB; split <;> rename_i h <;> simp [h]
def spanS (p : Bool) (lo hi : Int) : AV := if p then .tup [Sp lo hi, .bool true] else .tup [Sp 0 0, .bool false]


/-- What simp unfolds to reckon with structs, boxes. -/
theorem of4_call (G : Globs) (k : Nat) (lo hi : Int) (a b c d : Bool) (H : AHeap) : pureCall (span_of.f G (k + 10)) [I lo, I hi, .ro false [.bool a, .bool b, .bool c, .bool d]] H =
    some (spanS (a && b && c && d) lo hi, H) := by
  refine pureCall_of (of4 G k false lo hi a b c d) rfl ?_
  unfold spanS; split <;> rfl
theorem of6_call (G : Globs) (k : Nat) (lo hi : Int) (a b c d e f : Bool) (H : AHeap) : pureCall (span_of.f G (k + 10)) [I lo, I hi, .ro false [.bool a, .bool b, .bool c, .bool d, .bool e, .bool f]] H =
    some (spanS (a && b && c && d && e && f) lo hi, H) := by
  refine pureCall_of (of6 G k false lo hi a b c d e f) rfl ?_
  unfold spanS; split <;> rfl

theorem numI_of {n : Int} (h : numB n = true) : numI n = n := by
  unfold numB at h; unfold numI; simp at h; rw [if_pos h]

theorem finV_span (a b : Int) (p : Bool) (H : AHeap) : finV [Sp a b, .bool p] 0 H = some (.ret, [.tup [Sp a b, .bool p]], []) := finV_two rfl rfl H
theorem finV_sp (a b : Int) (H : AHeap) : finV [Sp a b] 0 H = some (.ret, [Sp a b], []) := finV_zero rfl H

theorem add_spec (G : Globs) (k : Nat) (a b c d : Int) (ha : Rg a) (hb : Rg b) (hc : Rg c) (hd : Rg d) : span_Add.f G (k + 20) [Sp a b, Sp c d] [] =
    some (spanS (decide (a ≤ b) && decide (c ≤ d) && numB (a + c) && numB (b + d)) (a + c) (b + d), []) := by
  have s1 := sum_spec G (k + 18) a c ha hc
  have s2 := sum_spec G (k + 18) b d hb hd
  have i1 := is_spec G (k + 18) a b
  have i2 := is_spec G (k + 18) c d
  have o := of4_call G (k + 9) (numI (a + c)) (numI (b + d)) (decide (a ≤ b)) (decide (c ≤ d)) (numB (a + c)) (numB (b + d))
  rw [numS_eq] at s1 s2
  rw [span_Add.step]
  unfold span_Add.c
  have r1 : ∀ H, pureCall (span_Sum.f G (k + 19)) [I a, I c] H = _ := fun H => pureCall_of (H := H) s1 rfl rfl
  have r2 : ∀ H, pureCall (span_Sum.f G (k + 19)) [I b, I d] H = _ := fun H => pureCall_of (H := H) s2 rfl rfl
  have r3 : ∀ H, pureCall (span_Is.f G (k + 19)) [Sp a b] H = _ := fun H => pureCall_of (H := H) i1 rfl rfl
  have r4 : ∀ H, pureCall (span_Is.f G (k + 19)) [Sp c d] H = _ := fun H => pureCall_of (H := H) i2 rfl rfl
  have r5 : ∀ H, pureCall (span_of.f G (k + 19)) [I (numI (a + c)), I (numI (b + d)), .ro false [.bool (decide (a ≤ b)), .bool (decide (c ≤ d)), .bool (numB (a + c)), .bool (numB (b + d))]] H = _ := o
  simp [boxRoA, boxA, fieldAddrV, loadV, loadC, storable, AV.cells, extractA, r1, r2, r3, r4, r5, buildRo, fillE]
  cases hp : (decide (a ≤ b) && decide (c ≤ d) && numB (a + c) && numB (b + d))
  · simp [spanS, stS, storeV, storable, AV.cells, recell, putC, finL, allSome, finV_span]
  · have h1 : numB (a + c) = true := by simp only [Bool.and_eq_true] at hp; exact hp.1.2
    have h2 : numB (b + d) = true := by simp only [Bool.and_eq_true] at hp; exact hp.2
    simp [spanS, stS, storeV, storable, AV.cells, recell, putC, finL, allSome, finV_span, numI_of h1, numI_of h2]

theorem sub_spec (G : Globs) (k : Nat) (a b c d : Int) (ha : Rg a) (hb : Rg b) (hc : Rg c) (hd : Rg d) : span_Sub.f G (k + 20) [Sp a b, Sp c d] [] =
    some (spanS (decide (a ≤ b) && decide (c ≤ d) && numB (a - d) && numB (b - c)) (a - d) (b - c), []) := by
  have s1 := less_spec G (k + 18) a d ha hd
  have s2 := less_spec G (k + 18) b c hb hc
  have i1 := is_spec G (k + 18) a b
  have i2 := is_spec G (k + 18) c d
  have o := of4_call G (k + 9) (numI (a - d)) (numI (b - c)) (decide (a ≤ b)) (decide (c ≤ d)) (numB (a - d)) (numB (b - c))
  rw [numS_eq] at s1 s2
  rw [span_Sub.step]
  unfold span_Sub.c
  have r1 : ∀ H, pureCall (span_Less.f G (k + 19)) [I a, I d] H = _ := fun H => pureCall_of (H := H) s1 rfl rfl
  have r2 : ∀ H, pureCall (span_Less.f G (k + 19)) [I b, I c] H = _ := fun H => pureCall_of (H := H) s2 rfl rfl
  have r3 : ∀ H, pureCall (span_Is.f G (k + 19)) [Sp a b] H = _ := fun H => pureCall_of (H := H) i1 rfl rfl
  have r4 : ∀ H, pureCall (span_Is.f G (k + 19)) [Sp c d] H = _ := fun H => pureCall_of (H := H) i2 rfl rfl
  have r5 : ∀ H, pureCall (span_of.f G (k + 19)) [I (numI (a - d)), I (numI (b - c)), .ro false [.bool (decide (a ≤ b)), .bool (decide (c ≤ d)), .bool (numB (a - d)), .bool (numB (b - c))]] H = _ := o
  simp [boxRoA, boxA, fieldAddrV, loadV, loadC, storable, AV.cells, extractA, r1, r2, r3, r4, r5, buildRo, fillE]
  cases hp : (decide (a ≤ b) && decide (c ≤ d) && numB (a - d) && numB (b - c))
  · simp [spanS, stS, storeV, storable, AV.cells, recell, putC, finL, allSome, finV_span]
  · have h1 : numB (a - d) = true := by simp only [Bool.and_eq_true] at hp; exact hp.1.2
    have h2 : numB (b - c) = true := by simp only [Bool.and_eq_true] at hp; exact hp.2
    simp [spanS, stS, storeV, storable, AV.cells, recell, putC, finL, allSome, finV_span, numI_of h1, numI_of h2]
theorem min4 (a b c d : Int) : foldA min2A (I a) [I b, I c, I d] = some (I (min a (min b (min c d)))) := by
  have h : ∀ x y : Int, (if y < x then y else x) = min x y := fun x y => by split <;> omega
  simp only [foldA, min2A, Option.bind_some, h, Int.min_assoc]
theorem max4 (a b c d : Int) : foldA max2A (I a) [I b, I c, I d] = some (I (max a (max b (max c d)))) := by
  have h : ∀ x y : Int, (if y > x then y else x) = max x y := fun x y => by split <;> omega
  simp only [foldA, max2A, Option.bind_some, h, Int.max_assoc]

theorem mul_spec (G : Globs) (k : Nat) (a b c d : Int) (ha : Rg a) (hb : Rg b) (hc : Rg c) (hd : Rg d) : span_Mul.f G (k + 20) [Sp a b, Sp c d] [] =
    some (spanS (decide (a ≤ b) && decide (c ≤ d) && numB (a * c) && numB (a * d) && numB (b * c) && numB (b * d)) (min (a * c) (min (a * d) (min (b * c) (b * d)))) (max (a * c) (max (a * d) (max (b * c) (b * d)))), []) := by
  have s1 := prod_spec G (k + 18) a c ha hc
  have s2 := prod_spec G (k + 18) a d ha hd
  have s3 := prod_spec G (k + 18) b c hb hc
  have s4 := prod_spec G (k + 18) b d hb hd
  have i1 := is_spec G (k + 18) a b
  have i2 := is_spec G (k + 18) c d
  have o := of6_call G (k + 9) (min (numI (a * c)) (min (numI (a * d)) (min (numI (b * c)) (numI (b * d))))) (max (numI (a * c)) (max (numI (a * d)) (max (numI (b * c)) (numI (b * d))))) (decide (a ≤ b)) (decide (c ≤ d)) (numB (a * c)) (numB (a * d)) (numB (b * c)) (numB (b * d))
  rw [numS_eq] at s1 s2 s3 s4
  rw [span_Mul.step]
  unfold span_Mul.c
  have r1 : ∀ H, pureCall (span_Product.f G (k + 19)) [I a, I c] H = _ := fun H => pureCall_of (H := H) s1 rfl rfl
  have r2 : ∀ H, pureCall (span_Product.f G (k + 19)) [I a, I d] H = _ := fun H => pureCall_of (H := H) s2 rfl rfl
  have r3 : ∀ H, pureCall (span_Product.f G (k + 19)) [I b, I c] H = _ := fun H => pureCall_of (H := H) s3 rfl rfl
  have r4 : ∀ H, pureCall (span_Product.f G (k + 19)) [I b, I d] H = _ := fun H => pureCall_of (H := H) s4 rfl rfl
  have r5 : ∀ H, pureCall (span_Is.f G (k + 19)) [Sp a b] H = _ := fun H => pureCall_of (H := H) i1 rfl rfl
  have r6 : ∀ H, pureCall (span_Is.f G (k + 19)) [Sp c d] H = _ := fun H => pureCall_of (H := H) i2 rfl rfl
  have r7 : ∀ H, pureCall (span_of.f G (k + 19)) [I (min (numI (a * c)) (min (numI (a * d)) (min (numI (b * c)) (numI (b * d))))), I (max (numI (a * c)) (max (numI (a * d)) (max (numI (b * c)) (numI (b * d))))), .ro false [.bool (decide (a ≤ b)), .bool (decide (c ≤ d)), .bool (numB (a * c)), .bool (numB (a * d)), .bool (numB (b * c)), .bool (numB (b * d))]] H = _ := o
  clear o s1 s2 s3 s4 i1 i2
  simp [boxRoA, boxA, fieldAddrV, loadV, loadC, storable, AV.cells, extractA, r1, r2, r3, r4, r5, r6, min4, max4]
  simp [buildRo, fillE, storable, AV.cells, r7]
  cases hp : (decide (a ≤ b) && decide (c ≤ d) && numB (a * c) && numB (a * d) && numB (b * c) && numB (b * d))
  · simp [spanS, stS, storeV, storable, AV.cells, recell, putC, finL, allSome, finV_span, extractA, loadV, loadC]
  · simp only [Bool.and_eq_true] at hp
    simp [spanS, stS, storeV, storable, AV.cells, recell, putC, finL, allSome, finV_span, extractA, loadV, loadC, numI_of hp.1.1.1.2, numI_of hp.1.1.2, numI_of hp.1.2, numI_of hp.2]
end Go.Proofs.Ytemkaggjbhpbbaa.Mir
