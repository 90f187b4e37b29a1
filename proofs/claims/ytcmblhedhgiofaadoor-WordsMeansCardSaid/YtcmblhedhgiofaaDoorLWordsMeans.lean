/- The law of WordsMeans, in plain Lean. -/
import Derived.Test.YtcmblhedhgiofaaDoorWa
namespace Go.Proofs.YtcmblhedhgiofaaDoor
open Go Mir
set_option linter.unusedVariables false
set_option linter.unusedSimpArgs false

theorem first17 (G : Globs) (k : Nat) : alembiclaw17_first.f G (k + 60) [] [] = some (.bool true, []) := by kernel_rfl

theorem pureCall_as {g : Den} {args bs : List AV} {r : AV} {H : AHeap} (ha : snapL H args = some bs) (hg : g bs [] = some (r, [])) (hr : cleanB r = true) : pureCall g args H = some (r, H) := by
  simp [pureCall, ha, hg, hr]

theorem number (G : Globs) (k : Nat) (n m : Int) (h0 : 0 < m) (h1 : m < 9223372036854775808) (hn : -9223372036854775808 ≤ n) (hn' : n < 9223372036854775808) :
    alembicworld_Number.f G (k + 1) [.int .i64 n, .int .i64 m] [] = some (.int .i64 (n % m), []) := by
  rw [alembicworld_Number.step]
  unfold alembicworld_Number.c
  rw [bin_rem _ _ _ _ _ _ (by omega)]
  have hlt := Int.tmod_lt_of_pos n h0
  have hgt : -m < n.tmod m := by have := Int.tmod_lt_of_pos (-n) h0; rw [Int.neg_tmod] at this; omega
  have hm : n.tmod m % m = n % m := by
    rw [Int.tmod_eq_emod]; split
    · simp
    · have e : (m.natAbs : Int) = m := by omega
      simp [e]
  by_cases h : n.tmod m < 0
  · simp only [pu_val, bnd_some, bin_lss, h, decide_true, condA_true, bin_add, List.length_nil, finV_int, outV_ret]
    rw [wrap_of_i64 (by omega) (by omega)]
    congr 3
    rw [← hm, ← Int.add_emod_right]
    exact (Int.emod_eq_of_lt (by omega) (by omega)).symm
  · simp only [pu_val, bnd_some, bin_lss, h, decide_false, condA_false, List.length_nil, finV_int, outV_ret]
    congr 3
    rw [← hm]
    exact (Int.emod_eq_of_lt (by omega) (by omega)).symm

/-- The closure. -/
theorem do_spec (G : Globs) (k : Nat) (self : Den) (op K : Int) (x y c r : Nat) (hx : x < 18446744073709551616) (hy : y < 18446744073709551616) (hc : c < 18446744073709551616) (hr : valF op K x y c = (r, true)) :
    callPV (envL (alembiclaw17_WordsMeans.env G (k + 3) self)) (.fn 23 [.ptr 0 1 0 0]) [I6 op, Un x, Un y, I6 K] [⟨48, 1, [Un c]⟩] = some (Un r, [⟨48, 1, [Un c]⟩]) := by
  rw [callPV_fn (g := alembiclaw17_WordsMeans_1.f G (k + 3)) rfl]
  refine pureCall_as (bs := [I6 op, Un x, Un y, I6 K, .rp true (Un c) 0]) rfl ?_ rfl
  rw [alembiclaw17_WordsMeans_1.step]
  unfold alembiclaw17_WordsMeans_1.c
  have c1 := fun H => pureCall_of (H := H) (value_spec G k op 0 0 0 0 K x y c hx hy hc) rfl rfl
  rw [hr] at c1
  have e0 : instV op 0 0 0 0 K = .agg [I6 op, .int .i64 0, .int .i64 0, .int .i64 0, .int .i64 0, I6 K] := rfl
  rw [e0] at c1
  repeat first
    | refine oB (by first | (with_reducible exact rfl) | (simp [pu_val, boxRoA, boxA, fieldAddrV, loadV, loadC, storable, AV.cells, extractA, buildRo, buildOwn, fillE, buildSt, fillA, stS, storeV, recell, putC, lenSl, lenStr, idxAddrSl, idxAddrArr, allSome, c1]; first | done | (with_reducible exact rfl) | (with_reducible exact ⟨rfl, rfl⟩))) ?_
    | refine lB (by first | (with_reducible exact rfl) | (simp [pu_val, boxRoA, boxA, fieldAddrV, loadV, loadC, storable, AV.cells, extractA, buildRo, buildOwn, fillE, buildSt, fillA, stS, storeV, recell, putC, lenSl, lenStr, idxAddrSl, idxAddrArr, allSome, c1]; first | done | (with_reducible exact rfl) | (with_reducible exact ⟨rfl, rfl⟩))) ?_
    | refine oT ?_
    | refine oN ?_
    | refine oX ?_
    | refine oXn ?_
    | refine oXr ?_
    | exact oF (finV_bool ..)
    | apply oK
    | refine lT ?_
    | refine lN ?_
    | refine lX ?_
    | refine lXn ?_
    | refine lXr ?_
    | apply lK
    | refine oI ?_
    | refine oJ rfl ?_
    | refine lI ?_
    | refine lJ rfl ?_
    | (with_reducible exact rfl)
  exact oF (finV_zero rfl _)

theorem and_or (a b : Nat) : ∀ n : Nat, a < 2 ^ n → (a &&& b) + (a ||| b) = a + b := by
  intro n
  induction n generalizing a b with
  | zero => intro h; have : a = 0 := by omega
            subst this; simp
  | succ n ih =>
    intro h
    have h2 : a / 2 < 2 ^ n := by rw [Nat.pow_succ] at h; omega
    have i := ih (a / 2) (b / 2) h2
    rw [← Nat.and_div_two, ← Nat.or_div_two] at i
    have m1 : (a &&& b) % 2 + (a ||| b) % 2 = a % 2 + b % 2 := by
      have e1 := Nat.and_mod_two_pow (a := a) (b := b) (n := 1)
      have e2 := Nat.or_mod_two_pow (a := a) (b := b) (n := 1)
      rw [Nat.pow_one] at e1 e2
      rw [e1, e2]
      rcases Nat.mod_two_eq_zero_or_one a with p | p <;> rcases Nat.mod_two_eq_zero_or_one b with q | q <;> simp [p, q]
    omega

theorem mod_shift (a t : Nat) (ht : t ≤ 64) : a * 2 ^ t % 18446744073709551616 / 2 ^ t = a % 2 ^ (64 - t) := by
  have e : (18446744073709551616 : Nat) = 2 ^ (64 - t) * 2 ^ t := by rw [← Nat.pow_add, show 64 - t + t = 64 by omega]
  rw [e, Nat.mul_mod_mul_right, Nat.mul_div_cancel _ (Nat.two_pow_pos t)]

theorem LWordsMeans.any (xs : List AV) (h : IsTs Tryd.prog [48, 48, 48, 3] xs) (G : Globs) :
    ∃ k, alembiclaw17_WordsMeans.f G k xs [] = some (.bool true, []) := by
  obtain ⟨x1, xs1, rfl, hx1, h1⟩ := h.uncons
  obtain ⟨x2, xs2, rfl, hx2, h2⟩ := h1.uncons
  obtain ⟨x3, xs3, rfl, hx3, h3⟩ := h2.uncons
  obtain ⟨x4, xs4, rfl, hx4, h4⟩ := h3.uncons
  obtain rfl := h4.unnil
  obtain ⟨a0, rfl, ha⟩ := hx1.of_int Tryd.underlying48
  obtain ⟨b0, rfl, hb⟩ := hx2.of_int Tryd.underlying48
  obtain ⟨c0, rfl, hc⟩ := hx3.of_int Tryd.underlying48
  obtain ⟨n, rfl, hn⟩ := hx4.of_int Tryd.underlying3
  replace ha := wf_u64 ha
  replace hb := wf_u64 hb
  replace hc := wf_u64 hc
  replace hn := wf_i64 hn
  obtain ⟨a, rfl⟩ : ∃ a : Nat, a0 = (a : Int) := ⟨a0.toNat, by omega⟩
  obtain ⟨b, rfl⟩ : ∃ b : Nat, b0 = (b : Int) := ⟨b0.toNat, by omega⟩
  obtain ⟨c, rfl⟩ : ∃ c : Nat, c0 = (c : Int) := ⟨c0.toNat, by omega⟩
  replace ha : a < 18446744073709551616 := by omega
  replace hb : b < 18446744073709551616 := by omega
  replace hc : c < 18446744073709551616 := by omega
  refine ⟨64, ?_⟩
  rw [alembiclaw17_WordsMeans.step]
  unfold alembiclaw17_WordsMeans.c
  have rf : ∀ H, pureCall (alembiclaw17_first.f G 63) [] H = some (.bool true, H) := fun H => pureCall_of (first17 G 3) rfl rfl
  obtain ⟨m, hm, hm63⟩ : ∃ m : Nat, n % 63 = (m : Int) ∧ m < 63 := ⟨(n % 63).toNat, by omega, by omega⟩
  have rn : ∀ H, pureCall (alembicworld_Number.f G 63) [.int .i64 n, .int .i64 63] H = some (Nn m, H) := fun H => by
    have := number G 62 n 63 (by omega) (by omega) hn.1 hn.2
    rw [hm] at this
    exact pureCall_of this rfl rfl
  obtain ⟨t, ht⟩ : ∃ t, t = m + 1 := ⟨_, rfl⟩
  have c4 : bin Tryd.prog .add 3 true (Nn m) (.int .i64 1) = some (Nn t) := by
    rw [bin_add, wrap_of_i64 (by omega) (by omega), ht]; rfl
  have ht1 : 1 ≤ t ∧ t ≤ 63 := by omega
  have D : ∀ (op K : Int) (x y r : Nat), x < 18446744073709551616 → y < 18446744073709551616 → valF op K x y c = (r, true) →
      callPV (envL (alembiclaw17_WordsMeans.env G 63 (alembiclaw17_WordsMeans.f G 63))) (.fn 23 [.ptr 0 1 0 0]) [I6 op, Un x, Un y, I6 K] [⟨48, 1, [Un c]⟩] = some (Un r, [⟨48, 1, [Un c]⟩]) :=
    fun op K x y r hx hy hr => do_spec G 60 (alembiclaw17_WordsMeans.f G 63) op K x y c r hx hy hc hr
  have D0 : ∀ (op K : Int) (x r : Nat), x < 18446744073709551616 → valF op K x 0 c = (r, true) →
      callPV (envL (alembiclaw17_WordsMeans.env G 63 (alembiclaw17_WordsMeans.f G 63))) (.fn 23 [.ptr 0 1 0 0]) [I6 op, Un x, .int .u64 0, I6 K] [⟨48, 1, [Un c]⟩] = some (Un r, [⟨48, 1, [Un c]⟩]) :=
    fun op K x r hx hr => D op K x 0 r hx (by decide) hr
  have D1 : ∀ (op K : Int) (y r : Nat), y < 18446744073709551616 → valF op K 0 y c = (r, true) →
      callPV (envL (alembiclaw17_WordsMeans.env G 63 (alembiclaw17_WordsMeans.f G 63))) (.fn 23 [.ptr 0 1 0 0]) [I6 op, .int .u64 0, Un y, I6 K] [⟨48, 1, [Un c]⟩] = some (Un r, [⟨48, 1, [Un c]⟩]) :=
    fun op K y r hy hr => D op K 0 y r (by decide) hy hr
  have p2 : 2 ^ t ≤ 2 ^ 63 := Nat.pow_le_pow_right (by decide) ht1.2
  have pp : 0 < 2 ^ t := Nat.two_pow_pos t
  have lt : ∀ n : Nat, n % 18446744073709551616 < 18446744073709551616 := fun n => Nat.mod_lt _ (by decide)
  -- what is made
  have d5 := D 3 0 a b ((a + b) % 18446744073709551616) ha hb rfl
  have d6 := D 5 0 a b (a * b % 18446744073709551616) ha hb rfl
  have d7 := D 6 0 a b (a * b / 18446744073709551616) ha hb rfl
  have sh : ∀ op x r, (if op = 10 then x * 2 ^ t % 18446744073709551616 else if op = 11 then x / 2 ^ t else sarF x t) = r → (op = 10 ∨ op = 11 ∨ op = 12) → valF op (t : Int) x 0 c = (r, true) := by
    intro op x r hr ho
    have e1 : shiftF op (t : Int) x = (r, true) := by
      unfold shiftF
      rw [if_neg (by omega), Int.toNat_natCast, ← hr]
      split
      · rfl
      · split <;> rfl
    unfold valF
    rw [if_neg (by omega), if_neg (by omega), if_neg (by omega), if_neg (by omega), if_neg (by omega), if_neg (by omega), if_neg (by omega), if_neg (by omega), if_neg (by omega), if_pos ho, e1]
  have d31 := D0 10 t a (a * 2 ^ t % 18446744073709551616) ha (sh 10 a _ rfl (by omega))
  have hX1 : a * 2 ^ t % 18446744073709551616 < 18446744073709551616 := lt _
  have d32 := D0 11 t (a * 2 ^ t % 18446744073709551616) (a % 2 ^ (64 - t)) hX1 (sh 11 _ _ (by rw [← mod_shift a t (by omega)]; rfl) (by omega))
  have hY1 : a / 2 ^ t < 18446744073709551616 := Nat.lt_of_le_of_lt (Nat.div_le_self _ _) ha
  have d33 := D0 11 t a (a / 2 ^ t) ha (sh 11 _ _ rfl (by omega))
  have d34 := D0 10 t (a / 2 ^ t) (a / 2 ^ t * 2 ^ t % 18446744073709551616) hY1 (sh 10 _ _ rfl (by omega))
  have d35 := D0 12 t a (sarF a t) ha (sh 12 _ _ rfl (by omega))
  have d39 := D 4 0 ((a + b) % 18446744073709551616) b a (lt _) hb (by
    show ((((a + b) % 18446744073709551616 + 18446744073709551616 - b) % 18446744073709551616), true) = _
    congr 1; omega)
  have xor2 : (a ^^^ b) ^^^ b = a := by rw [Nat.xor_assoc, Nat.xor_self, Nat.xor_zero]
  have hxr : a ^^^ b < 18446744073709551616 := Nat.xor_lt_two_pow (n := 64) ha hb
  have hor : a ||| b < 18446744073709551616 := Nat.or_lt_two_pow (n := 64) ha hb
  have hor1 : a ||| 1 < 18446744073709551616 := Nat.or_lt_two_pow (n := 64) ha (by decide)
  have d86 := D 9 0 a b (a ^^^ b) ha hb rfl
  have d88 := D 9 0 (a ^^^ b) b a hxr hb (by show ((a ^^^ b) ^^^ b, true) = _; rw [xor2])
  have d95 := D 7 0 a b (a &&& b) ha hb rfl
  have d99 := D 8 0 a b (a ||| b) ha hb rfl
  have d107 := D 13 0 a b (if a < b then 1 else 0) ha hb rfl
  have d111 := D 13 0 b a (if b < a then 1 else 0) hb ha rfl
  have d127 := D1 14 0 b c hb rfl
  have n1 : a ||| 1 ≠ 0 := fun h => by have := @Nat.right_le_or a 1; omega
  have d135 := D 14 0 (a ||| 1) b b hor1 hb (by show ((if a ||| 1 ≠ 0 then b else c), true) = _; rw [if_pos n1])
  -- by halves
  have and32 : ∀ n : Nat, n < 18446744073709551616 → bin Tryd.prog .and 48 true (Un n) (.int .u64 4294967295) = some (Un (n % 4294967296)) := fun n hn => by
    rw [bin_and]; have := u64_and n 4294967295 hn (by omega); rw [mask32] at this; exact congrArg (fun z => some (AV.int .u64 z)) this
  have shr32 : ∀ n : Nat, bin Tryd.prog .shr 48 true (Un n) (.int .u64 32) = some (Un (n / 4294967296)) := fun n => u64_shr Tryd.prog 48 true .u64 n 32 (by omega)
  have v8 := and32 a ha
  have v9 := and32 b hb
  have v11 := shr32 a
  have v15 := shr32 b
  have v46 := u64_mul Tryd.prog 48 false a b
  have hdm : a * b = a * b / 18446744073709551616 * 18446744073709551616 + a * b % 18446744073709551616 := by omega
  have v100 : bin Tryd.prog .add 48 false (Un (a &&& b)) (Un (a ||| b)) = some (Un ((a + b) % 18446744073709551616)) := by rw [u64_add, and_or a b 64 ha]
  have v56 : bin Tryd.prog .sub 3 true (.int .i64 64) (Nn t) = some (Nn (64 - t)) := by
    rw [bin_sub, wrap_of_i64 (by omega) (by omega)]; congr 2; omega
  have v57 : convInt .u64 (Nn (64 - t)) = some (Un (64 - t)) := by rw [conv_u64, u64_nat _ (by omega)]
  have hp63 : 2 ^ (64 - t) ≤ 2 ^ 63 := Nat.pow_le_pow_right (by decide) (by omega)
  have hpp : 0 < 2 ^ (64 - t) := Nat.two_pow_pos _
  have v58 : bin Tryd.prog .shl 48 true (.int .u64 1) (Un (64 - t)) = some (Un (2 ^ (64 - t))) := by
    have := u64_shl Tryd.prog 48 true .u64 1 (64 - t) (by omega)
    rw [Nat.one_mul, Nat.mod_eq_of_lt (by omega)] at this
    exact this
  have v59 : bin Tryd.prog .sub 48 true (Un (2 ^ (64 - t))) (.int .u64 1) = some (Un (2 ^ (64 - t) - 1)) := by
    have := u64_sub Tryd.prog 48 true (2 ^ (64 - t)) 1 (by omega)
    rw [show (2 ^ (64 - t) + 18446744073709551616 - 1) % 18446744073709551616 = 2 ^ (64 - t) - 1 by omega] at this
    exact this
  have v60 : bin Tryd.prog .and 48 false (Un a) (Un (2 ^ (64 - t) - 1)) = some (Un (a % 2 ^ (64 - t))) := by
    rw [bin_and, u64_and _ _ ha (by omega), Nat.and_two_pow_sub_one_eq_mod]
  have v66 : convInt .u64 (Nn t) = some (Un t) := by rw [conv_u64, u64_nat _ (by omega)]
  have v67 := u64_shr Tryd.prog 48 false .u64 a t (by omega)
  have v70 := u64_shl Tryd.prog 48 false .u64 (a / 2 ^ t) t (by omega)
  have v75 := conv_i64 a ha
  have v78 : bin Tryd.prog .shr 2 false (I6 (s64 a)) (Un t) = some (I6 ((s64 a).fdiv (2 ^ t))) := by
    rw [bin_shr _ _ _ _ _ _ _ (Int.natCast_nonneg t)]
    have e : min ((t : Int)).toNat IntKind.i64.bits = t := by rw [Int.toNat_natCast]; exact Nat.min_eq_left (by have : IntKind.i64.bits = 64 := rfl; omega)
    rw [e]
  have v79 : convInt .u64 (I6 ((s64 a).fdiv (2 ^ t))) = some (Un (sarF a t)) := conv_u64 .i64 _
  have v133 : bin Tryd.prog .or 48 true (Un a) (.int .u64 1) = some (Un (a ||| 1)) := by
    rw [bin_or]; exact congrArg (fun z => some (AV.int .u64 z)) (u64_or a 1 ha (by decide))
  have eqU : ∀ z : Nat, bin Tryd.prog .eql 48 false (Un z) (Un z) = some (.bool true) := fun z => by rw [bin_eql]; simp
  have v112 : ∃ z : Nat, z ≤ 1 ∧ bin Tryd.prog .add 48 false (Un (if a < b then 1 else 0)) (Un (if b < a then 1 else 0)) = some (Un z) := by
    refine ⟨(if a < b then 1 else 0) + (if b < a then 1 else 0), by split <;> split <;> omega, ?_⟩
    rw [u64_add, Nat.mod_eq_of_lt (by split <;> split <;> omega)]
  obtain ⟨z112, hz112, v112⟩ := v112
  have v113 : bin Tryd.prog .leq 48 true (Un z112) (.int .u64 1) = some (.bool true) := by rw [bin_leq, decide_eq_true (by omega)]
  have v119 : bin Tryd.prog .eql 48 true (Un (if a < b then 1 else 0)) (.int .u64 1) = some (.bool (decide (a < b))) := by
    rw [bin_eql]; by_cases q : a < b <;> simp [q]
  have v122 : bin Tryd.prog .lss 48 false (Un a) (Un b) = some (.bool (decide (a < b))) := by rw [bin_lss]; congr 2; simp only [decide_eq_decide]; omega
  have v123 : bin Tryd.prog .eql 4 false (.bool (decide (a < b))) (.bool (decide (a < b))) = some (.bool true) := by
    rw [bin_eql_bool Tryd.underlying4]; simp
  have v128 : ∀ G' : Globs, loadV G' false 1 (.ptr 0 1 0 0) [⟨48, 1, [Un c]⟩] = some (Un c) := fun _ => rfl
  -- the halves' sum
  obtain ⟨x0, hx0⟩ : ∃ z, z = a % 4294967296 := ⟨_, rfl⟩
  obtain ⟨xh, hxh⟩ : ∃ z, z = a / 4294967296 := ⟨_, rfl⟩
  obtain ⟨y0, hy0⟩ : ∃ z, z = b % 4294967296 := ⟨_, rfl⟩
  obtain ⟨yh, hyh⟩ : ∃ z, z = b / 4294967296 := ⟨_, rfl⟩
  rw [← hx0] at v8
  rw [← hxh] at v11
  rw [← hy0] at v9
  rw [← hyh] at v15
  obtain ⟨b1, b2, b3, b4, hmm⟩ := mul_low x0 xh y0 yh (by omega) (by omega) (by omega) (by omega)
  have hab : a * b = xh * yh * 18446744073709551616 + (xh * y0 + x0 * yh) * 4294967296 + x0 * y0 := by
    have ea : xh * 4294967296 + x0 = a := by rw [hx0, hxh]; exact Nat.div_add_mod' a _
    have eb : yh * 4294967296 + y0 = b := by rw [hy0, hyh]; exact Nat.div_add_mod' b _
    rw [← hmm, ea, eb]
  have mu : ∀ p q : Nat, p * q ≤ 18446744065119617025 → bin Tryd.prog .mul 48 false (Un p) (Un q) = some (Un (p * q)) := fun p q h => by rw [u64_mul, Nat.mod_eq_of_lt (by omega)]
  have ad : ∀ p q : Nat, p + q < 18446744073709551616 → bin Tryd.prog .add 48 false (Un p) (Un q) = some (Un (p + q)) := fun p q h => by rw [u64_add, Nat.mod_eq_of_lt h]
  have v10 := mu x0 y0 b1
  have v13 := mu xh y0 b2
  have v16 := mu x0 yh b3
  have v24 := mu xh yh b4
  generalize hA : x0 * y0 = A at *
  generalize hB : xh * y0 = B at *
  generalize hC : x0 * yh = C at *
  generalize hD : xh * yh = E at *
  have v17 := shr32 A
  have v18 := and32 B (by omega)
  have v19 := ad (A / 4294967296) (B % 4294967296) (by omega)
  have v20 := and32 C (by omega)
  have v21 := ad (A / 4294967296 + B % 4294967296) (C % 4294967296) (by omega)
  have v25 := shr32 B
  have v26 := ad E (B / 4294967296) (by omega)
  have v27 := shr32 C
  have v28 := ad (E + B / 4294967296) (C / 4294967296) (by omega)
  have v29 := shr32 (A / 4294967296 + B % 4294967296 + C % 4294967296)
  have v30 := ad (E + B / 4294967296 + C / 4294967296) ((A / 4294967296 + B % 4294967296 + C % 4294967296) / 4294967296) (by omega)
  have r1 : E + B / 4294967296 + C / 4294967296 + (A / 4294967296 + B % 4294967296 + C % 4294967296) / 4294967296 = a * b / 18446744073709551616 := by omega
  rw [r1] at v30
  clear r1 hab hmm hdm
  generalize a * b / 18446744073709551616 = w1 at *
  generalize a * b % 18446744073709551616 = w2 at *
  generalize (A / 4294967296 + B % 4294967296 + C % 4294967296) / 4294967296 = w3 at *
  generalize A / 4294967296 + B % 4294967296 + C % 4294967296 = w4 at *
  generalize A / 4294967296 + B % 4294967296 = w5 at *
  generalize E + B / 4294967296 + C / 4294967296 = w6 at *
  generalize E + B / 4294967296 = w7 at *
  generalize A / 4294967296 = w8 at *
  generalize B / 4294967296 = w9 at *
  generalize B % 4294967296 = w10 at *
  generalize C / 4294967296 = w11 at *
  generalize C % 4294967296 = w12 at *
  generalize a / 2 ^ t * 2 ^ t % 18446744073709551616 = w13 at *
  generalize a * 2 ^ t % 18446744073709551616 = w14 at *
  generalize a / 2 ^ t = w15 at *
  generalize a % 2 ^ (64 - t) = w16 at *
  generalize sarF a t = w17 at *
  generalize (s64 a).fdiv (2 ^ t) = w18 at *
  generalize s64 a = w19 at *
  generalize (a + b) % 18446744073709551616 = w20 at *
  generalize a ^^^ b = w21 at *
  generalize a &&& b = w22 at *
  generalize a ||| b = w23 at *
  generalize a ||| 1 = w24 at *
  generalize (if a < b then 1 else 0 : Nat) = w25 at *
  generalize (if b < a then 1 else 0 : Nat) = w26 at *
  generalize decide (a < b) = w27 at *
  generalize 2 ^ (64 - t) - 1 = w28 at *
  generalize 2 ^ (64 - t) = w29 at *
  have e0 : boxA 48 (.int .u64 (c : Int)) [] = some (.ptr 0 1 0 0, [⟨48, 1, [Un c]⟩]) := rfl
  refine oB e0 ?_
  repeat first
    | refine oB (by first | (simp only [pu_val, nth_zero, nth_succ, gd_tt, gd_ff, gd_tf, gd_ft, gd_no, pickA_true, pickA_false, un_not, rf, rn, c4, d5, d6, d7, v8, v9, v10, v11, v13, v15, v16, v17, v18, v19, v20, v21, v24, v25, v26, v27, v28, v29, v30, d31, d32, d33, d34, d35, d39, eqU, v46, v56, v57, v58, v59, v60, v66, v67, v70, v75, v78, v79, d86, d88, d95, d99, v100, d107, d111, v112, v113, v119, v122, v123, d127, v128, v133, d135]; first | done | (with_reducible exact rfl) | (with_reducible exact ⟨rfl, rfl⟩)) | (with_reducible exact rfl)) ?_
    | refine lB (by first | (simp only [pu_val, nth_zero, nth_succ, gd_tt, gd_ff, gd_tf, gd_ft, gd_no, pickA_true, pickA_false, un_not, rf, rn, c4, d5, d6, d7, v8, v9, v10, v11, v13, v15, v16, v17, v18, v19, v20, v21, v24, v25, v26, v27, v28, v29, v30, d31, d32, d33, d34, d35, d39, eqU, v46, v56, v57, v58, v59, v60, v66, v67, v70, v75, v78, v79, d86, d88, d95, d99, v100, d107, d111, v112, v113, v119, v122, v123, d127, v128, v133, d135]; first | done | (with_reducible exact rfl) | (with_reducible exact ⟨rfl, rfl⟩)) | (with_reducible exact rfl)) ?_
    | refine oT ?_
    | refine oN ?_
    | refine oX ?_
    | refine oXn ?_
    | refine oXr ?_
    | exact oF (finV_bool ..)
    | apply oK
    | refine lT ?_
    | refine lN ?_
    | refine lX ?_
    | refine lXn ?_
    | refine lXr ?_
    | apply lK
    | refine oI ?_
    | refine oJ rfl ?_
    | refine lI ?_
    | refine lJ rfl ?_
    | (with_reducible exact rfl)

theorem LWordsMeans.law (xs : List AV) (h : IsTs Tryd.prog [48, 48, 48, 3] xs) : ∃ k, alembiclaw17_WordsMeans.f (sentG 154 [2, 1, 0, 3, 4, 5]) k xs [] = some (.bool true, []) := LWordsMeans.any xs h _
end Go.Proofs.YtcmblhedhgiofaaDoor
